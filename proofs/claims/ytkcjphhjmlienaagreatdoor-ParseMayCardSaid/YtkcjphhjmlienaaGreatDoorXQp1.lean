import Derived.Test.YtkcjphhjmlienaaGreatDoorProg
import Derived.WalkKit
import Derived.LaidEql
import Derived.Stop.Asserts
import Derived.RowKitTokens
import Derived.Test.YtkcjphhjmlienaaGreatDoorAi2
import Derived.Laws.Externs
import Derived.Test.YtkcjphhjmlienaaGreatDoorAi3
import Derived.Deep.RegionWith
/- Functions of the program as plain functions, and what they come to; part 1. -/
namespace Go.Proofs.YtkcjphhjmlienaaGreatDoor
set_option linter.unusedVariables false
set_option linter.unusedSimpArgs false
open Go Go.Proofs
namespace Qa
open Go.RowKit Go.Extern.Stop Go.Stop Go.Extern
theorem kAa (t:Addr) (w:World):(ReflectliteValue.unpack (.iface 214 (.pointer (some t)))).run Tryz.prog w
  = .ok (.agg #[.pointer (some ⟨7,214,none⟩),.pointer (some ⟨w.heap.size,0,none⟩),.int .u64 150]) (w.alloc (.cells #[.pointer (some t)] 214)):=by kernel_rfl
theorem lAo (a:Addr) (w:World):(ReflectliteValue.methodAny (ReflectliteValue.valueError "reflectlite.Value.Type" 0) (fun t _ _ _=>ReflectliteType.toType t) #[.agg #[.pointer (some ⟨7,214,none⟩),.pointer (some a),.int .u64 150]]).run Tryz.prog w
  = .ok (.iface 232 (.agg #[.pointer (some ⟨7,214,none⟩)])) w:=by kernel_rfl
theorem qA5 (h:Value) (w:World):(Go.method 406 232 (.agg #[h]) "Kind").run Tryz.prog w=.ok (278,h) w:=by kernel_rfl
theorem mAo (w:World):((ReflectliteType.abiMethod fun t=>Functor.map (fun a:Nat=>Value.int IntKind.u8 (a:Int)) (Rtype.kind t)) #[.pointer (some ⟨7,214,none⟩)]).run Tryz.prog w=.ok (.int .u8 22) w:=by kernel_rfl
theorem nAo (w:World):((ReflectliteType.abiMethod fun t=>Functor.map (fun a:Nat=>Value.int IntKind.u8 (a:Int)) (Rtype.kind t)) #[.pointer (some ⟨7,127,none⟩)]).run Tryz.prog w=.ok (.int .u8 22) w:=by kernel_rfl
theorem rlm (z:Sem Value) (f:TypeId→Addr→Nat→Nat→Sem Value) (v:Value) :
  ReflectliteValue.method z f #[v]=(do match ← ReflectliteValue.parts v with | none=>z | some (t,a,fl)=>f t a fl (fl % 32)):=rfl
theorem pA3 (a:Addr) (w:World):(ReflectliteValue.parts (.agg #[.pointer (some ⟨7,214,none⟩),.pointer (some a),.int .u64 150])).run Tryz.prog w=.ok (some (214,a,150)) w:=by kernel_rfl
theorem iAk (a p:Addr) (W:World) (ha:W.cell? a=some (.pointer (some p))) :
  (ReflectliteValue.method (ReflectliteValue.valueError "reflectlite.Value.IsNil" 0) ReflectliteValue.isNil #[.agg #[.pointer (some ⟨7,214,none⟩),.pointer (some a),.int .u64 150]]).run Tryz.prog W=.ok (.bool false) W:=by
 rw [rlm];simp only [Sem.run_bind,pA3,Result.andThen];simp [ReflectliteValue.isNil,loadVar,isAgg,underlying,Tryz.underlying214,ha,Result.andThen]
theorem rA5 (h:Value) (w:World):(Go.method 406 232 (.agg #[h]) "Elem").run Tryz.prog w=.ok (291,.agg #[h]) w:=by kernel_rfl
theorem uQ (h:Value) (w:World):(Go.method 406 232 (.agg #[h]) "Implements").run Tryz.prog w=.ok (292,.agg #[h]) w:=by kernel_rfl
theorem vM (h:Value) (w:World):(Go.method 406 232 (.agg #[h]) "AssignableTo").run Tryz.prog w=.ok (289,.agg #[h]) w:=by kernel_rfl
theorem oAo (w:World):(ReflectliteType.method ReflectliteType.elem #[.agg #[.pointer (some ⟨7,214,none⟩)]]).run Tryz.prog w=.ok (.iface 232 (.agg #[.pointer (some ⟨7,127,none⟩)])) w:=by kernel_rfl
theorem vZ (w:World):(ReflectliteType.relation "Implements" ReflectliteType.implements_ #[.agg #[.pointer (some ⟨7,127,none⟩)],.iface 232 (.agg #[.pointer (some ⟨7,29,none⟩)])]).run Tryz.prog w=.ok (.bool true) w:=by kernel_rfl
theorem mAd (v:Value) (w:World):(ReflectliteType.typeOf #[.iface 127 v]).run Tryz.prog w=.ok (.iface 232 (.agg #[.pointer (some ⟨7,127,none⟩)])) w:=by kernel_rfl
theorem wZ (w:World):(ReflectliteType.relation "AssignableTo" ReflectliteType.assignableTo #[.agg #[.pointer (some ⟨7,127,none⟩)],.iface 232 (.agg #[.pointer (some ⟨7,127,none⟩)])]).run Tryz.prog w=.ok (.bool true) w:=by kernel_rfl
theorem lAa (e:Addr) (w:World):(ReflectliteValue.unpack (.iface 127 (.pointer (some e)))).run Tryz.prog w
  = .ok (.agg #[.pointer (some ⟨7,127,none⟩),.pointer (some ⟨w.heap.size,0,none⟩),.int .u64 150]) (w.alloc (.cells #[.pointer (some e)] 127)):=by kernel_rfl
theorem nAd (w:World):(Rtype.elem? 214).run Tryz.prog w=.ok (some 127) w:=by kernel_rfl
theorem nAz (p:Addr) (w:World):(ReflectliteValue.mk 127 p ReflectliteValue.flagAddr).run Tryz.prog w=.ok (.agg #[.pointer (some ⟨7,127,none⟩),.pointer (some p),.int .u64 406]) w:=by kernel_rfl
theorem jAk (a p:Addr) (W:World) (ha:W.cell? a=some (.pointer (some p))) :
  (ReflectliteValue.method (ReflectliteValue.valueError "reflectlite.Value.Elem" 0) ReflectliteValue.elem #[.agg #[.pointer (some ⟨7,214,none⟩),.pointer (some a),.int .u64 150]]).run Tryz.prog W
   = .ok (.agg #[.pointer (some ⟨7,127,none⟩),.pointer (some p),.int .u64 406]) W:=by
 rw [rlm];simp only [Sem.run_bind,pA3,Result.andThen];simp [ReflectliteValue.elem,loadVar,isAgg,underlying,Tryz.underlying214,ha,Result.andThen,nAd,nAz]
theorem rls (v x:Value):ReflectliteValue.set #[v,x]=(do
  let (some (dst,a,fl),some (src,b,_)):=(← ReflectliteValue.parts v,← ReflectliteValue.parts x)
   | unsupported (.noEntry "extern/(internal/reflectlite.Value).Set.zeroValue")
  if fl / ReflectliteValue.flagAddr % 2 == 0 then unsupported (.noEntry "extern/(internal/reflectlite.Value).Set.unaddressable")
  let val ← loadVar src b
  if ← Rtype.directlyAssignable dst src then storeVar dst a val
  else if ← Rtype.implements dst src then
   if (← Rtype.kind src) == 20 then
    match val with
    | .nilIface=>unsupported (.noEntry "extern/reflectlite: a nil value of one interface type handed on as a value of another")
    | _=>storeVar dst a val
   else storeVar dst a (.iface src val)
  else panicString ("reflectlite.Set: value of type "++(← Rtype.spelt src) ++ " is not assignable to type "++(← Rtype.spelt dst))
  pure (.tuple #[])):=rfl
theorem oAd (a:Addr) (w:World):(ReflectliteValue.parts (.agg #[.pointer (some ⟨7,127,none⟩),.pointer (some a),.int .u64 406])).run Tryz.prog w=.ok (some (127,a,406)) w:=by kernel_rfl
theorem kAk (a:Addr) (w:World):(ReflectliteValue.parts (.agg #[.pointer (some ⟨7,127,none⟩),.pointer (some a),.int .u64 150])).run Tryz.prog w=.ok (some (127,a,150)) w:=by kernel_rfl
theorem pAd (w:World):(Rtype.directlyAssignable 127 127).run Tryz.prog w=.ok true w:=by kernel_rfl
theorem wAu (ta b e:Addr) (old:Value) (W:World) (hb:W.cell? b=some (.pointer (some e))) (ht:W.cell? ta=some old) (hf:W.frozen? ta=false) :
  (ReflectliteValue.set #[.agg #[.pointer (some ⟨7,127,none⟩),.pointer (some ta),.int .u64 406],.agg #[.pointer (some ⟨7,127,none⟩),.pointer (some b),.int .u64 150]]).run Tryz.prog W
   = .ok (.tuple #[]) (W.setCell ta (.pointer (some e))):=by
 rw [rls];simp only [Sem.run_bind,oAd,kAk,Result.andThen];simp [ReflectliteValue.flagAddr,loadVar,isAgg,underlying,Tryz.underlying127,hb,Result.andThen,pAd,storeVar,Value.cells,storeCells,Addr.add];rw [run_store Tryz.prog W ta _ _ (by rfl)];simp [ht,hf]
set_option maxRecDepth 100000 in
set_option maxHeartbeats 4000000 in
theorem gB6 (e t:Addr) (old:Value) (w:World) (hg:w.cell? ⟨1,0,none⟩=some (.iface 232 (.agg #[.pointer (some ⟨7,29,none⟩)]))) (ht0:w.cell? t=some old) (hf0:w.frozen? t=false) :
  Calls Tryz.prog 192 #[.iface 127 (.pointer (some e)),.iface 214 (.pointer (some t))] w fun ev w'=>ev=.returned (.bool true)∧w'=((((w.alloc (.cells #[.pointer (some t)] 214)).alloc (.cells #[.pointer (some ⟨7,214,none⟩),.pointer (some ⟨w.heap.size,0,none⟩),.int .u64 150] 217)).alloc (.cells #[.pointer (some ⟨7,214,none⟩),.pointer (some ⟨w.heap.size,0,none⟩),.int .u64 150] 217)).alloc (.cells #[.pointer (some e)] 127)).setCell t (.pointer (some e)):=by
 have h6:=@run_callFunc_extern Tryz.prog 210 _ (fun args=>ReflectliteValue.unpack (args.getD 0 (.tuple #[]))) Tryz.func210 (by kernel_rfl) (by kernel_rfl) (by kernel_rfl) (by kernel_rfl);have h7:=@run_callFunc_extern Tryz.prog 211 _ (ReflectliteValue.methodAny (ReflectliteValue.valueError "reflectlite.Value.Type" 0) (fun t _ _ _=>ReflectliteType.toType t)) Tryz.func211 (by kernel_rfl) (by kernel_rfl) (by kernel_rfl) (by kernel_rfl);have h8:=@run_callFunc_extern Tryz.prog 212 _ (ReflectliteValue.method (ReflectliteValue.valueError "reflectlite.Value.IsNil" 0) ReflectliteValue.isNil) Tryz.func212 (by kernel_rfl) (by kernel_rfl) (by kernel_rfl) (by kernel_rfl);have h27:=@run_callFunc_extern Tryz.prog 278 _ (ReflectliteType.abiMethod fun t=>do pure (.int .u8 (← Rtype.kind t))) Tryz.func278 (by kernel_rfl) (by kernel_rfl) (by kernel_rfl) (by kernel_rfl);have h37:=@run_callFunc_extern Tryz.prog 291 _ (ReflectliteType.method ReflectliteType.elem) Tryz.func291 (by kernel_rfl) (by kernel_rfl) (by kernel_rfl) (by kernel_rfl);have h38:=@run_callFunc_extern Tryz.prog 292 _ (ReflectliteType.relation "Implements" ReflectliteType.implements_) Tryz.func292 (by kernel_rfl) (by kernel_rfl) (by kernel_rfl) (by kernel_rfl);have h10:=@run_callFunc_extern Tryz.prog 224 _ ReflectliteType.typeOf Tryz.func224 (by kernel_rfl) (by kernel_rfl) (by kernel_rfl) (by kernel_rfl);have h35:=@run_callFunc_extern Tryz.prog 289 _ (ReflectliteType.relation "AssignableTo" ReflectliteType.assignableTo) Tryz.func289 (by kernel_rfl) (by kernel_rfl) (by kernel_rfl) (by kernel_rfl);have h11:=@run_callFunc_extern Tryz.prog 225 _ (ReflectliteValue.method (ReflectliteValue.valueError "reflectlite.Value.Elem" 0) ReflectliteValue.elem) Tryz.func225 (by kernel_rfl) (by kernel_rfl) (by kernel_rfl) (by kernel_rfl);have h12:=@run_callFunc_extern Tryz.prog 226 _ ReflectliteValue.set Tryz.func226 (by kernel_rfl) (by kernel_rfl) (by kernel_rfl) (by kernel_rfl);have tO:=mAd;have mA:=vM;have a25:=wZ;have v25:=lAa;have f6:=kAa;have f7:=lAo;have mK:=qA5;have mE:=rA5;have mI:=uQ;have k27:=mAo;have k25:=nAo;have e27:=oAo;have i25:=vZ;have n8:=iAk ⟨w.heap.size,0,none⟩ t ((w.alloc (.cells #[.pointer (some t)] 214)).alloc (.cells #[.pointer (some ⟨7,214,none⟩),.pointer (some ⟨w.heap.size,0,none⟩),.int .u64 150] 217)) (by simp);have hlt:1<w.heap.size:=by
  rcases Nat.lt_or_ge 1 w.heap.size with h | h
  ·exact h
  ·simp [World.cell?,Array.getElem?_eq_none h] at hg
 have hg2:((w.alloc (.cells #[.pointer (some t)] 214)).alloc (.cells #[.pointer (some ⟨7,214,none⟩),.pointer (some ⟨w.heap.size,0,none⟩),.int .u64 150] 217)).cell? ⟨1,0,none⟩=some (.iface 232 (.agg #[.pointer (some ⟨7,29,none⟩)])):=by
  rw [World.cell?_alloc_lt _ _ ⟨1,0,none⟩ (by simp;omega),World.cell?_alloc_lt _ _ ⟨1,0,none⟩ hlt];exact hg
 have htl:t.block<w.heap.size:=by
  rcases Nat.lt_or_ge t.block w.heap.size with h | h
  ·exact h
  ·simp [World.cell?,Array.getElem?_eq_none h] at ht0
 have el:=jAk ⟨w.heap.size,0,none⟩ t (((w.alloc (.cells #[.pointer (some t)] 214)).alloc (.cells #[.pointer (some ⟨7,214,none⟩),.pointer (some ⟨w.heap.size,0,none⟩),.int .u64 150] 217)).alloc (.cells #[.pointer (some ⟨7,214,none⟩),.pointer (some ⟨w.heap.size,0,none⟩),.int .u64 150] 217)) (by rw [World.cell?_alloc_lt _ _ ⟨w.heap.size,0,none⟩ (by simp;omega)];simp);have st:=wAu t ⟨w.heap.size+1+1+1,0,none⟩ e old ((((w.alloc (.cells #[.pointer (some t)] 214)).alloc (.cells #[.pointer (some ⟨7,214,none⟩),.pointer (some ⟨w.heap.size,0,none⟩),.int .u64 150] 217)).alloc (.cells #[.pointer (some ⟨7,214,none⟩),.pointer (some ⟨w.heap.size,0,none⟩),.int .u64 150] 217)).alloc (.cells #[.pointer (some e)] 127))
  (by rw [World.cell?_alloc_at _ _ _ _ (by simp)];rfl)
  (by rw [World.cell?_alloc_lt _ _ t (by simp;omega),World.cell?_alloc_lt _ _ t (by simp;omega),World.cell?_alloc_lt _ _ t (by simp;omega),World.cell?_alloc_lt _ _ t htl];exact ht0)
  (by rw [World.frozen?_alloc_old _ _ t (by simp;omega),World.frozen?_alloc_old _ _ t (by simp;omega),World.frozen?_alloc_old _ _ t (by simp;omega),World.frozen?_alloc_old _ _ t (Nat.ne_of_lt htl)];exact hf0)
 go_enter Tryz.func192,Tryz.ntmps192
 go_wp2
 refine wp_loop_rounds 1 ?_;rw [rounds_succ]
 go_wp2
 go_ret
 exact ⟨rfl,rfl⟩
end Qa
open Go Ai Go.Proofs
open Go.RowKit (Below)
namespace Qa
def hdl:AV:=.iface 232 (.agg [.ptr (some (1,0))])
def rAm:Ai.Loc:=⟨1,0,1,false⟩
def loc1:Ai.Loc:=⟨7,29,30,false⟩
def oAz (a b:Ai.Loc):Bool:=Nat.beq a.b b.b&&Nat.beq a.sh b.sh&&Nat.beq a.tot b.tot&&(bif a.ex then b.ex else !b.ex)
def yZ (A:Nat) (l:Ai.Loc):List (Nat×Ai.Loc)→Bool
 | []=>false
 | x::r=>(Nat.beq x.1 A&&oAz x.2 l)||yZ A l r
def tA5 (b:Option Blk) (cs:List AV):Bool:=match b with
 | some (.row cs' .ro)=>eqV (.agg cs') (.agg cs)
 | _=>false
theorem yAu {a b:Ai.Loc} (h:oAz a b=true):a=b:=by
 obtain ⟨a1,a2,a3,a4⟩:=a;obtain ⟨b1,b2,b3,b4⟩:=b;simp only [oAz,Bool.and_eq_true] at h;obtain ⟨⟨⟨h1,h2⟩,h3⟩,h4⟩:=h;obtain rfl:=Nat.eq_of_beq_eq_true h1;obtain rfl:=Nat.eq_of_beq_eq_true h2;obtain rfl:=Nat.eq_of_beq_eq_true h3
 have:a4=b4:=by cases a4 <;> cases b4 <;> simp_all
 rw [this]
theorem wM {A:Nat} {l:Ai.Loc}:∀ {p:List (Nat×Ai.Loc)},yZ A l p=true→(A,l)∈p
 | [],h=>by cases h
 | x::r,h=>by
  simp only [yZ,Bool.or_eq_true,Bool.and_eq_true] at h;rcases h with ⟨h1,h2⟩ | h
  ·have e1:=Nat.eq_of_beq_eq_true h1
   have e2:=yAu h2;obtain ⟨x1,x2⟩:=x;simp only at e1 e2;rw [e1,e2];exact List.mem_cons_self
  ·exact List.mem_cons_of_mem _ (wM h)
theorem lAh {b:Option Blk} {cs:List AV} (h:tA5 b cs=true):b=some (.row cs .ro):=by
 unfold tA5 at h
 split at h
 ·have:=lV _ _ h
  simp only [AV.agg.injEq] at this;rw [this]
 ·cases h
def pAo (h:Heap) (A:Nat):Option (List AV×BState):=match h.t.get A with
 | some (.row cs st)=>match st with
  | .own=>some (cs,st)
  | .grown=>some (cs,st)
  | _=>none
 | _=>none
def asN:List AV→Heap→Option (AV×Heap)
 | [.iface t (.ptr (some p)),.iface t' (.ptr (some (A,off)))],h=>
  bif Nat.beq t 127&&Nat.beq t' 214&&yZ 0 rAm h.pins&&yZ 1 loc1 h.pins&&tA5 (h.t.get 0) [hdl] then
   match pAo h A with
   | some (cs,st)=>match over off cs [.ptr (some p)] with
    | some cs'=>some (.bool true,h.put A (.row cs' st))
    | none=>none
   | none=>none
  else none
 | _,_=>none
theorem mBd:EnvOK (eAz Tryz.prog [] eAh) Tryz.prog:=dAh (by kernel_rfl) (by kernel_rfl)
theorem nBd {args:List AV} {v:AV} {h h':Heap} (hx:asN args h=some (v,h')) {μ:Mu} {w:World} {args':Array Value} (hr:HR μ h w) (hv:VRs μ args args'.toList) :
  (callFunc 192 args').run Tryz.prog w=.ok (.enter 192 args') w∧Calls Tryz.prog 192 args' w fun e w'=>∃ u,e=.returned u∧aAz μ h w v h' u w':=by
 refine ⟨mA5 mBd (fn:=Tryz.f192) (by kernel_rfl) (by kernel_rfl) _ _,?_⟩;unfold asN at hx
 split at hx
 ·rename_i t p t' A off
  cases hb:(Nat.beq t 127&&Nat.beq t' 214&&yZ 0 rAm h.pins&&yZ 1 loc1 h.pins&&tA5 (h.t.get 0) [hdl]) with
  | false=>simp [hb] at hx
  | true=>
   simp only [hb,cond_true] at hx;simp only [Bool.and_eq_true] at hb;obtain ⟨⟨⟨⟨b1,b2⟩,b3⟩,b4⟩,b5⟩:=hb;obtain rfl:=Nat.eq_of_beq_eq_true b1;obtain rfl:=Nat.eq_of_beq_eq_true b2
   cases hw:pAo h A with
   | none=>simp [hw] at hx
   | some q=>
    obtain ⟨cs,st⟩:=q;simp only [hw] at hx
    cases ho:over off cs [.ptr (some p)] with
    | none=>simp [ho] at hx
    | some cs'=>
     simp only [ho,Option.some.injEq,Prod.mk.injEq] at hx;obtain ⟨rfl,rfl⟩:=hx;have hg:h.t.get A=some (.row cs st)∧(st=.own∨st=.grown):=by
      unfold pAo at hw
      split at hw
      ·rename_i cs1 st1 hq
       split at hw
       ·simp only [Option.some.injEq,Prod.mk.injEq] at hw;obtain ⟨rfl,rfl⟩:=hw;exact ⟨hq,.inl rfl⟩
       ·simp only [Option.some.injEq,Prod.mk.injEq] at hw;obtain ⟨rfl,rfl⟩:=hw;exact ⟨hq,.inr rfl⟩
       ·cases hw
      ·cases hw
     obtain ⟨p1,p2⟩:=p;simp only [VRs,VR] at hv;obtain ⟨y1,ys1,e1,⟨x1,rfl,l1,hl1,rfl⟩,y2,ys2,e2,⟨x2,rfl,l2,hl2,rfl⟩,e3⟩:=hv;subst e2 e3;have ea:args' = #[.iface 127 (.pointer (some ⟨l1.b,l1.sh+p2,none⟩)),.iface 214 (.pointer (some ⟨l2.b,l2.sh+off,none⟩))]:=by rw [← Array.toList_inj,e1]
     subst ea
     -- the handle's cell
     have hc0:w.cell? ⟨1,0,none⟩=some (.iface 232 (.agg #[.pointer (some ⟨7,29,none⟩)])):=by
      have hm0:=hr.pin _ (wM b3);have hm1:=hr.pin _ (wM b4);have hrow:RowR μ w rAm [hdl]:=hr.blk 0 rAm _ hm0 (lAh b5);obtain ⟨y,h1,h2⟩:=hrow.cell 0 hdl rfl;simp only [hdl,VR,VRs] at h2;obtain ⟨z,rfl,cs1,rfl,u,us,h4,⟨l,h5,rfl⟩,rfl⟩:=h2;have hm1':μ 1=some loc1:=hm1;rw [hm1'] at h5;simp only [Option.some.injEq] at h5;subst h5
      have:cs1 = #[.pointer (some ⟨7,29,none⟩)]:=by rw [← Array.toList_inj,h4];rfl
      rw [this] at h1;exact h1
     have hvp:VRs μ [.ptr (some (p1,p2))] [.pointer (some ⟨l1.b,l1.sh+p2,none⟩)]:=VRs.cons (by simp only [VR];exact ⟨l1,hl1,rfl⟩) VRs.nil;obtain ⟨w1,w2,_,_⟩:=hr.write hl2 hg.1 (hg.2.elim .inl fun e=>.inr (.inl e)) ho hvp;have hold:=w1 0 (by simp);have hfz:=w2 0 (by simp);rw [Nat.add_zero] at hold hfz;obtain ⟨old,hold⟩:=Option.isSome_iff_exists.1 hold;refine (gB6 ⟨l1.b,l1.sh+p2,none⟩ ⟨l2.b,l2.sh+off,none⟩ old w hc0 hold hfz).mono ?_;rintro e w' ⟨rfl,rfl⟩;have hbel:Below w.heap.size w ((((w.alloc (.cells #[.pointer (some ⟨l2.b,l2.sh+off,none⟩)] 214)).alloc (.cells #[.pointer (some ⟨7,214,none⟩),.pointer (some ⟨w.heap.size,0,none⟩),.int .u64 150] 217)).alloc (.cells #[.pointer (some ⟨7,214,none⟩),.pointer (some ⟨w.heap.size,0,none⟩),.int .u64 150] 217)).alloc (.cells #[.pointer (some ⟨l1.b,l1.sh+p2,none⟩)] 127)):=
      ((((Below.refl _ w).alloc (Nat.le_refl _) _).alloc (by simp) _).alloc (by simp;omega) _).alloc (by simp;omega) _
     have hr4:=hr.below hbel;obtain ⟨_,_,h5,h6⟩:=hr4.write hl2 hg.1 (hg.2.elim .inl fun e=>.inr (.inl e)) ho hvp;exact ⟨_,rfl,μ,by simp [VR],h5,Ext.trans hr (Ext.of_below hbel) h6⟩
 ·cases hx
def mAh (c:UInt8):List UInt8→Nat→Int
 | [],_=>-1
 | x::r,k=>bif Nat.beq x.toNat c.toNat then .ofNat k else mAh c r (k+1)
theorem mAa (c:UInt8):∀ (s:List UInt8) (k:Nat),mAh c s k=(match (List.range s.length).find? fun i=>s.getD i 0 == c with | some i=>((k+i:Nat):Int) | none=>-1)
 | [],k=>rfl
 | x::r,k=>by
  rw [List.length_cons,List.range_succ_eq_map]
  by_cases hx:x=c
  ·subst hx
   have:Nat.beq x.toNat x.toNat=true:=Nat.beq_refl _
   simp only [mAh,this,cond_true,List.find?_cons,List.getD_cons_zero,beq_self_eq_true,Nat.add_zero];rfl
  ·have h1:Nat.beq x.toNat c.toNat=false:=by
    cases hq:Nat.beq x.toNat c.toNat with
    | false=>rfl
    | true=>exact absurd (UInt8.toNat.inj (Nat.eq_of_beq_eq_true hq)) hx
   have h2:(x == c)=false:=by simpa using hx
   simp only [mAh,h1,cond_false,List.find?_cons,List.getD_cons_zero,h2];rw [mAa c r (k+1),List.find?_map];simp only [Function.comp_def,List.getD_cons_succ]
   cases (List.range r.length).find? fun i=>r.getD i 0 == c with
   | none=>rfl
   | some i=>simp only [Option.map_some];congr 1;omega
theorem find_congr {α:Type} {p q:α→Bool}:∀ {l:List α},(∀ x∈l,p x=q x)→l.find? p=l.find? q
 | [],_=>rfl
 | x::r,h=>by
  simp only [List.find?_cons,h x List.mem_cons_self,find_congr fun y hy=>h y (List.mem_cons_of_mem _ hy)]
theorem firstIdx_eq (s:List UInt8) (c:UInt8):firstIdx ⟨s.toArray⟩ c=mAh c s 0:=by
 rw [mAa];unfold firstIdx;have hs:(⟨s.toArray⟩:ByteArray).size=s.length:=rfl;rw [hs];have hp:(List.range s.length).find? (fun i=>(⟨s.toArray⟩:ByteArray)[i]! == c)=(List.range s.length).find? (fun i=>s.getD i 0 == c):=by
  refine find_congr fun i hi=>?_;have hi':i<s.length:=List.mem_range.1 hi
  have:(⟨s.toArray⟩:ByteArray)[i]! = s.getD i 0:=by
   rw [getElem!_pos (⟨s.toArray⟩:ByteArray) i hi'];rw [List.getD_eq_getElem?_getD,List.getElem?_eq_getElem hi'];rfl
  rw [this]
 rw [hp]
 cases (List.range s.length).find? fun i=>s.getD i 0 == c with
 | none=>rfl
 | some i=>simp
def oBd:List AV→Heap→Option (AV×Heap)
 | [.str s,.int .u8 c],h=>some (.int .i64 (mAh c.toNat.toUInt8 s 0),h)
 | _,_=>none
theorem iB6 {args:List AV} {v:AV} {h h':Heap} (hx:oBd args h=some (v,h')) {μ:Mu} {w:World} {args':Array Value} (hr:HR μ h w) (hv:VRs μ args args'.toList) :
  ∃ u w',(callFunc 206 args').run Tryz.prog w=.ok (.value u) w'∧aAz μ h w v h' u w':=by
 unfold oBd at hx
 split at hx
 ·rename_i s c
  simp only [Option.some.injEq,Prod.mk.injEq] at hx;obtain ⟨rfl,rfl⟩:=hx;simp only [VRs,VR] at hv;obtain ⟨y1,ys1,e1,rfl,y2,ys2,e2,rfl,e3⟩:=hv;subst e2 e3;have ea:args' = #[.string ⟨s.toArray⟩,.int .u8 c]:=by rw [← Array.toList_inj,e1]
  subst ea;refine ⟨.int .i64 (mAh c.toNat.toUInt8 s 0),w,?_,μ,by simp only [VR],hr,Ext.refl μ h w⟩;have h1:=@run_callFunc_extern Tryz.prog 206 _ Extern.BytealgIndexByte.indexByte Tryz.func206 (by kernel_rfl) (by kernel_rfl) (by kernel_rfl) (by kernel_rfl) #[.string ⟨s.toArray⟩,.int .u8 c] w;rw [h1,run_indexByte_string,firstIdx_eq];rfl
 ·cases hx
def eBg (s:List UInt8) (c:Int) (h:Heap):Option (Int×Heap):=some (mAh c.toNat.toUInt8 s 0,h)
theorem qAd (N:Nat):mAz Tryz.prog 206 [(.one .str),(.one (.int .u8))] (.val (.one (.int .i64))) (fun x h=>eBg x.1 x.2.1 h):=by
 intro xs h r h' hx μ w args' hr hv;have hx':some (mAh xs.2.1.toNat.toUInt8 xs.1 0,h)=some (r,h'):=hx;simp only [Option.some.injEq,Prod.mk.injEq] at hx';obtain ⟨rfl,rfl⟩:=hx';exact iB6 (args:=[.str xs.1,.int .u8 xs.2.1]) rfl hr hv
def nat:FuncId→Option (List AV→Heap→Option (AV×Heap)):=fun f=>bif Nat.beq f 192 then some asN else bif Nat.beq f 206 then some oBd else none
end Qa
set_option maxRecDepth 100000
namespace Qx
open Qa
theorem pBd:Tryz.prog.follows .mixedOrders=true:=by kernel_rfl
def h0:Heap:={ t:=Tr.set .nil 0 (.row [hdl] .ro),next:=2,pins:=[(0,rAm),(1,loc1)] }
def mu0:Mu:=fun A=>if A=0 then some rAm else if A=1 then some loc1 else none
theorem mu0_inv {A:Nat} {l:Ai.Loc} (h:mu0 A=some l):(A=0∧l=rAm)∨(A=1∧l=loc1):=by
 unfold mu0 at h
 split at h
 ·cases h;exact .inl ⟨by assumption,rfl⟩
 ·split at h
  ·cases h;exact .inr ⟨by assumption,rfl⟩
  ·cases h
theorem vH {A:Nat} {b:Blk} (h:h0.t.get A=some b):A=0∧b=.row [hdl] .ro:=by
 rcases Tr.get_set h with h | ⟨_,h⟩
 ·exact h
 ·simp [Tr.get_nil] at h
theorem h0_rof:Rof h0:=by
 refine ⟨fun A b hA=>?_,fun A hA=>?_⟩
 ·obtain ⟨_,rfl⟩:=vH hA;exact ⟨_,rfl⟩
 ·cases hb:h0.t.get A with
  | none=>rfl
  | some b=>
   have:=(vH hb).1
   have h1:(2:Nat)≤A:=hA;omega
theorem jAx {w:World} (hs:7<w.heap.size) {e:TypeId} (hsh:w.shape? 1=some (e,1)) (hc:w.cell? ⟨1,0,none⟩=some (.iface 232 (.agg #[.pointer (some ⟨7,29,none⟩)]))):HR mu0 h0 w:=by
 refine ⟨fun A l hA=>?_,fun A B la lb ba bb hA hB gA gB _ _ hne=>?_,fun A l b hA hb=>?_,fun x hx=>?_⟩
 ·rcases mu0_inv hA with ⟨rfl,rfl⟩ | ⟨rfl,rfl⟩
  ·exact ⟨by show 0<2;omega,by show 1<w.heap.size;omega⟩
  ·exact ⟨by show 1<2;omega,hs⟩
 ·exact absurd ((vH gA).1.trans (vH gB).1.symm) hne
 ·obtain ⟨rfl,rfl⟩:=vH hb
  rcases mu0_inv hA with ⟨_,rfl⟩ | ⟨h,_⟩
  ·refine ⟨⟨e,hsh⟩,Nat.le_refl _,fun i x hx=>?_⟩
   cases i with
   | zero=>
    have:x=hdl:=by simpa using hx.symm
    subst this;refine ⟨_,hc,?_⟩;simp only [hdl,VR,VRs];exact ⟨_,rfl,_,rfl,_,[],rfl,⟨loc1,rfl,rfl⟩,rfl⟩
   | succ i=>simp at hx
  ·cases h
 ·rcases List.mem_cons.1 hx with rfl | hx
  ·rfl
  ·rw [List.mem_singleton.1 hx];rfl
def pinned (h:Heap):Bool:=yZ 0 rAm h.pins&&yZ 1 loc1 h.pins&&tA5 (h.t.get 0) [hdl]
end Qx
namespace Qp
noncomputable section
abbrev zA:VTy:=.agg [(.int .i64),(.int .i64),.bool,.str,(.int .i64),.str,.slice,.slice,.bool,.str,.slice,(.int .i64),(.int .i64),(.int .i64),.str,.slice,(.int .i64),(.int .i64),.str,.slice,(.int .i64),.str,.slice,.str,.slice,.slice,(.int .i64),(.int .i64),.str,.slice,.slice,.slice]
abbrev zB:VTy:=.agg [(.int .i64),(.int .i64),(.int .i64),.str,.slice,(.int .i64),(.int .i64),.str,.slice,(.int .i64),.str,.slice,.str,.slice,.slice]
abbrev zC:VTy:=.agg [(.int .i64),.str,.slice,.slice]
abbrev zD:VTy:=.agg [.bool,.str,.slice,.slice,(.int .i64),.str,.slice,.slice,.slice,(.int .i64)]
abbrev zE:VTy:=.agg [(.int .i64),(.int .i64),.str,.slice]
abbrev zG:VTy:=.agg [(.int .i64),.str,(.int .i64)]
abbrev zH:VTy:=.agg [.bool,.str,.slice,.slice,(.int .i64)]
abbrev zI:VTy:=.agg [.str,.slice]
abbrev zJ:VTy:=.agg [.bool,.str,(.int .i64),.str,.slice,.slice]
abbrev zK:VTy:=.agg [.slice,.slice]
abbrev zL:Type:=Int×Int×Bool×List UInt8×Int×List UInt8×SL×SL×Bool×List UInt8×SL×Int×Int×Int×List UInt8×SL×Int×Int×List UInt8×SL×Int×List UInt8×SL×List UInt8×SL×SL×Int×Int×List UInt8×SL×SL×SL×Unit
abbrev zM:Type:=Option (Nat×Nat)×Option (Nat×Nat)×Unit
abbrev zN:Type:=Option (Nat×Nat)×Bool×Option (Nat×Nat)×Unit
abbrev zO:Type:=Int×Int×Int×List UInt8×SL×Int×Int×List UInt8×SL×Int×List UInt8×SL×List UInt8×SL×SL×Unit
abbrev zP:Type:=Int×List UInt8×SL×SL×Unit
abbrev zQ:Type:=Int×List UInt8×Int×Unit
abbrev zR:Type:=List UInt8×Int×Option (Nat×Nat)×Unit
abbrev zT:Type:=Int×Int×List UInt8×SL×Unit
abbrev zU:Type:=Bool×List UInt8×SL×SL×Int×List UInt8×SL×SL×SL×Int×Unit
abbrev zW:Type:=Option (Nat×Nat)×Bool×Unit
abbrev zX:Type:=Option (Nat×Nat)×Option (Nat×Nat)×Option (Nat×Nat)×Unit
abbrev zY:Type:=List UInt8×SL×Unit
abbrev zZ:Type:=Int×Int×AV×Bool×List UInt8×Int×Int×Bool×Int×Int×SL×Int×Int×Bool×Unit
abbrev zA1:Type:=Bool×Unit
abbrev zB1:Type:=Bool×Option (Nat×Nat)×Unit
abbrev zC1:Type:=Int×Option (Nat×Nat)×Bool×Option (Nat×Nat)×Unit
abbrev zD1:Type:=Bool×List UInt8×SL×SL×Int×Unit
abbrev zE1:Type:=List UInt8×Int×Option (Nat×Nat)×Int×Unit
abbrev zF1:Type:=Int×Int×AV×Bool×List UInt8×Int×Int×Bool×Int×SL×Int×Int×Unit
abbrev zG1:Type:=Bool×List UInt8×Int×List UInt8×SL×SL×Unit
abbrev zH1:Type:=Int×AV×List UInt8×Bool×Int×Unit
abbrev zI1:Type:=List UInt8×Int×Int×AV×Bool×List UInt8×Bool×Unit
abbrev zJ1:Type:=Option (Nat×Nat)×Int×Option (Nat×Nat)×Option (Nat×Nat)×Unit
abbrev zK1:Type:=Int×AV×Unit
abbrev zL1:Type:=List UInt8×Int×Int×Int×AV×Bool×List UInt8×Bool×Unit
abbrev zM1:Type:=SL×SL×Unit
abbrev zN1:Type:=Option (Nat×Nat)×Bool×Option (Nat×Nat)×Int×Unit
abbrev zO1:Type:=List UInt8×Int×Int×Int×AV×Bool×List UInt8×Unit
abbrev zP1:Type:=List UInt8×Int×Option (Nat×Nat)×Int×Int×Unit
abbrev zQ1:Type:=Int×Unit
abbrev zR1:Type:=Option (Nat×Nat)×Int×Unit
abbrev zS1:Type:=List UInt8×Bool×Option (Nat×Nat)×Unit
abbrev zT1:Type:=Int×Int×Unit
abbrev zU1:Type:=List UInt8×Bool×Int×Int×Bool×Unit
abbrev zV1:Type:=Int×Int×AV×Bool×List UInt8×Int×Int×Bool×Int×Int×SL×Int×Int×Unit
abbrev zW1:Type:=Int×AV×List UInt8×Int×Unit
abbrev zX1:Type:=SL×Bool×Unit
abbrev zY1:Type:=Option (Nat×Nat)×Bool×Option (Nat×Nat)×SL×Int×Int×Unit
abbrev zZ1:Type:=Int×Option (Nat×Nat)×Int×Bool×Unit
abbrev zA2:Type:=List UInt8×SL×AV×SL×Unit
abbrev zB2:Type:=List UInt8×Int×Int×Int×AV×Bool×List UInt8×Int×Unit
abbrev zC2:Type:=Option (Nat×Nat)×Option (Nat×Nat)×Int×Bool×Unit
abbrev zD2:Type:=Bool×Int×Int×Bool×Unit
abbrev zE2:Type:=List UInt8×Int×Option (Nat×Nat)×Int×Bool×Unit
abbrev zF2:Type:=Option (Nat×Nat)×Option (Nat×Nat)×Bool×Unit
abbrev zG2:Type:=Option (Nat×Nat)×Int×Option (Nat×Nat)×Unit
abbrev zH2:Type:=Option (Nat×Nat)×Option (Nat×Nat)×Int×Unit
abbrev zI2:Type:=List UInt8×Bool×Int×Int×Bool×Bool×Unit
abbrev zJ2:Type:=List UInt8×Int×AV×List UInt8×Bool×Unit
abbrev zK2:Type:=Option (Nat×Nat)×Int×SL×SL×Bool×Unit
abbrev zL2:Type:=List UInt8×Int×AV×List UInt8×Unit
abbrev zM2:Type:=List UInt8×List UInt8×Bool×Unit
abbrev zN2:Type:=Bool×Int×Unit
abbrev zO2:Type:=List UInt8×Bool×Int×Int×Unit
abbrev zP2:Type:=List UInt8×Int×Int×Bool×Unit
abbrev zQ2:Type:=Option (Nat×Nat)×Int×SL×Unit
abbrev zR2:Type:=List UInt8×Int×AV×Bool×Unit
abbrev zS2:Type:=Int×AV×Bool×Int×Bool×Unit
abbrev zT2:Type:=Option (Nat×Nat)
abbrev zU2:VTy:=.one .ptr
abbrev zV2:VTy:=.one .slice
abbrev zW2:VTy:=.one .str
abbrev zX2:VTy:=.one .bool
abbrev zY2:VTy:=.one (.int .i64)
abbrev zZ2:VTy:=.one .any
abbrev zA3:Type:=List UInt8
noncomputable def E:Env:=eAz Tryz.prog [] eAh
theorem jB6:EnvOK E Tryz.prog:=dAh (by kernel_rfl) (by kernel_rfl)
theorem pBd:Tryz.prog.follows .mixedOrders=true:=by kernel_rfl
abbrev yRA {β:Type} (v:Int×Int×Bool×List UInt8×Int×List UInt8×SL×SL×Bool×List UInt8×SL×Int×Int×Int×List UInt8×SL×Int×Int×List UInt8×SL×Int×List UInt8×SL×List UInt8×SL×SL×Int×Int×List UInt8×SL×SL×SL×β):List AV:=[(.int .i64 v.1),(.int .i64 v.2.1),(.bool v.2.2.1),(.str v.2.2.2.1),(.int .i64 v.2.2.2.2.1),(.str v.2.2.2.2.2.1),(.slice v.2.2.2.2.2.2.1.a v.2.2.2.2.2.2.1.len v.2.2.2.2.2.2.1.cap v.2.2.2.2.2.2.1.sz),(.slice v.2.2.2.2.2.2.2.1.a v.2.2.2.2.2.2.2.1.len v.2.2.2.2.2.2.2.1.cap v.2.2.2.2.2.2.2.1.sz),(.bool v.2.2.2.2.2.2.2.2.1),(.str v.2.2.2.2.2.2.2.2.2.1),(.slice v.2.2.2.2.2.2.2.2.2.2.1.a v.2.2.2.2.2.2.2.2.2.2.1.len v.2.2.2.2.2.2.2.2.2.2.1.cap v.2.2.2.2.2.2.2.2.2.2.1.sz),(.int .i64 v.2.2.2.2.2.2.2.2.2.2.2.1),(.int .i64 v.2.2.2.2.2.2.2.2.2.2.2.2.1),(.int .i64 v.2.2.2.2.2.2.2.2.2.2.2.2.2.1),(.str v.2.2.2.2.2.2.2.2.2.2.2.2.2.2.1),(.slice v.2.2.2.2.2.2.2.2.2.2.2.2.2.2.2.1.a v.2.2.2.2.2.2.2.2.2.2.2.2.2.2.2.1.len v.2.2.2.2.2.2.2.2.2.2.2.2.2.2.2.1.cap v.2.2.2.2.2.2.2.2.2.2.2.2.2.2.2.1.sz),(.int .i64 v.2.2.2.2.2.2.2.2.2.2.2.2.2.2.2.2.1),(.int .i64 v.2.2.2.2.2.2.2.2.2.2.2.2.2.2.2.2.2.1),(.str v.2.2.2.2.2.2.2.2.2.2.2.2.2.2.2.2.2.2.1),(.slice v.2.2.2.2.2.2.2.2.2.2.2.2.2.2.2.2.2.2.2.1.a v.2.2.2.2.2.2.2.2.2.2.2.2.2.2.2.2.2.2.2.1.len v.2.2.2.2.2.2.2.2.2.2.2.2.2.2.2.2.2.2.2.1.cap v.2.2.2.2.2.2.2.2.2.2.2.2.2.2.2.2.2.2.2.1.sz),(.int .i64 v.2.2.2.2.2.2.2.2.2.2.2.2.2.2.2.2.2.2.2.2.1),(.str v.2.2.2.2.2.2.2.2.2.2.2.2.2.2.2.2.2.2.2.2.2.1),(.slice v.2.2.2.2.2.2.2.2.2.2.2.2.2.2.2.2.2.2.2.2.2.2.1.a v.2.2.2.2.2.2.2.2.2.2.2.2.2.2.2.2.2.2.2.2.2.2.1.len v.2.2.2.2.2.2.2.2.2.2.2.2.2.2.2.2.2.2.2.2.2.2.1.cap v.2.2.2.2.2.2.2.2.2.2.2.2.2.2.2.2.2.2.2.2.2.2.1.sz),(.str v.2.2.2.2.2.2.2.2.2.2.2.2.2.2.2.2.2.2.2.2.2.2.2.1),(.slice v.2.2.2.2.2.2.2.2.2.2.2.2.2.2.2.2.2.2.2.2.2.2.2.2.1.a v.2.2.2.2.2.2.2.2.2.2.2.2.2.2.2.2.2.2.2.2.2.2.2.2.1.len v.2.2.2.2.2.2.2.2.2.2.2.2.2.2.2.2.2.2.2.2.2.2.2.2.1.cap v.2.2.2.2.2.2.2.2.2.2.2.2.2.2.2.2.2.2.2.2.2.2.2.2.1.sz),(.slice v.2.2.2.2.2.2.2.2.2.2.2.2.2.2.2.2.2.2.2.2.2.2.2.2.2.1.a v.2.2.2.2.2.2.2.2.2.2.2.2.2.2.2.2.2.2.2.2.2.2.2.2.2.1.len v.2.2.2.2.2.2.2.2.2.2.2.2.2.2.2.2.2.2.2.2.2.2.2.2.2.1.cap v.2.2.2.2.2.2.2.2.2.2.2.2.2.2.2.2.2.2.2.2.2.2.2.2.2.1.sz),(.int .i64 v.2.2.2.2.2.2.2.2.2.2.2.2.2.2.2.2.2.2.2.2.2.2.2.2.2.2.1),(.int .i64 v.2.2.2.2.2.2.2.2.2.2.2.2.2.2.2.2.2.2.2.2.2.2.2.2.2.2.2.1),(.str v.2.2.2.2.2.2.2.2.2.2.2.2.2.2.2.2.2.2.2.2.2.2.2.2.2.2.2.2.1),(.slice v.2.2.2.2.2.2.2.2.2.2.2.2.2.2.2.2.2.2.2.2.2.2.2.2.2.2.2.2.2.1.a v.2.2.2.2.2.2.2.2.2.2.2.2.2.2.2.2.2.2.2.2.2.2.2.2.2.2.2.2.2.1.len v.2.2.2.2.2.2.2.2.2.2.2.2.2.2.2.2.2.2.2.2.2.2.2.2.2.2.2.2.2.1.cap v.2.2.2.2.2.2.2.2.2.2.2.2.2.2.2.2.2.2.2.2.2.2.2.2.2.2.2.2.2.1.sz),(.slice v.2.2.2.2.2.2.2.2.2.2.2.2.2.2.2.2.2.2.2.2.2.2.2.2.2.2.2.2.2.2.1.a v.2.2.2.2.2.2.2.2.2.2.2.2.2.2.2.2.2.2.2.2.2.2.2.2.2.2.2.2.2.2.1.len v.2.2.2.2.2.2.2.2.2.2.2.2.2.2.2.2.2.2.2.2.2.2.2.2.2.2.2.2.2.2.1.cap v.2.2.2.2.2.2.2.2.2.2.2.2.2.2.2.2.2.2.2.2.2.2.2.2.2.2.2.2.2.2.1.sz),(.slice v.2.2.2.2.2.2.2.2.2.2.2.2.2.2.2.2.2.2.2.2.2.2.2.2.2.2.2.2.2.2.2.1.a v.2.2.2.2.2.2.2.2.2.2.2.2.2.2.2.2.2.2.2.2.2.2.2.2.2.2.2.2.2.2.2.1.len v.2.2.2.2.2.2.2.2.2.2.2.2.2.2.2.2.2.2.2.2.2.2.2.2.2.2.2.2.2.2.2.1.cap v.2.2.2.2.2.2.2.2.2.2.2.2.2.2.2.2.2.2.2.2.2.2.2.2.2.2.2.2.2.2.2.1.sz)]
abbrev yRB {β:Type} (v:Int×Int×Int×List UInt8×SL×Int×Int×List UInt8×SL×Int×List UInt8×SL×List UInt8×SL×SL×β):List AV:=[(.int .i64 v.1),(.int .i64 v.2.1),(.int .i64 v.2.2.1),(.str v.2.2.2.1),(.slice v.2.2.2.2.1.a v.2.2.2.2.1.len v.2.2.2.2.1.cap v.2.2.2.2.1.sz),(.int .i64 v.2.2.2.2.2.1),(.int .i64 v.2.2.2.2.2.2.1),(.str v.2.2.2.2.2.2.2.1),(.slice v.2.2.2.2.2.2.2.2.1.a v.2.2.2.2.2.2.2.2.1.len v.2.2.2.2.2.2.2.2.1.cap v.2.2.2.2.2.2.2.2.1.sz),(.int .i64 v.2.2.2.2.2.2.2.2.2.1),(.str v.2.2.2.2.2.2.2.2.2.2.1),(.slice v.2.2.2.2.2.2.2.2.2.2.2.1.a v.2.2.2.2.2.2.2.2.2.2.2.1.len v.2.2.2.2.2.2.2.2.2.2.2.1.cap v.2.2.2.2.2.2.2.2.2.2.2.1.sz),(.str v.2.2.2.2.2.2.2.2.2.2.2.2.1),(.slice v.2.2.2.2.2.2.2.2.2.2.2.2.2.1.a v.2.2.2.2.2.2.2.2.2.2.2.2.2.1.len v.2.2.2.2.2.2.2.2.2.2.2.2.2.1.cap v.2.2.2.2.2.2.2.2.2.2.2.2.2.1.sz),(.slice v.2.2.2.2.2.2.2.2.2.2.2.2.2.2.1.a v.2.2.2.2.2.2.2.2.2.2.2.2.2.2.1.len v.2.2.2.2.2.2.2.2.2.2.2.2.2.2.1.cap v.2.2.2.2.2.2.2.2.2.2.2.2.2.2.1.sz)]
abbrev yRC {β:Type} (v:Int×List UInt8×SL×SL×β):List AV:=[(.int .i64 v.1),(.str v.2.1),(.slice v.2.2.1.a v.2.2.1.len v.2.2.1.cap v.2.2.1.sz),(.slice v.2.2.2.1.a v.2.2.2.1.len v.2.2.2.1.cap v.2.2.2.1.sz)]
abbrev yRD {β:Type} (v:Bool×List UInt8×SL×SL×Int×List UInt8×SL×SL×SL×Int×β):List AV:=[(.bool v.1),(.str v.2.1),(.slice v.2.2.1.a v.2.2.1.len v.2.2.1.cap v.2.2.1.sz),(.slice v.2.2.2.1.a v.2.2.2.1.len v.2.2.2.1.cap v.2.2.2.1.sz),(.int .i64 v.2.2.2.2.1),(.str v.2.2.2.2.2.1),(.slice v.2.2.2.2.2.2.1.a v.2.2.2.2.2.2.1.len v.2.2.2.2.2.2.1.cap v.2.2.2.2.2.2.1.sz),(.slice v.2.2.2.2.2.2.2.1.a v.2.2.2.2.2.2.2.1.len v.2.2.2.2.2.2.2.1.cap v.2.2.2.2.2.2.2.1.sz),(.slice v.2.2.2.2.2.2.2.2.1.a v.2.2.2.2.2.2.2.2.1.len v.2.2.2.2.2.2.2.2.1.cap v.2.2.2.2.2.2.2.2.1.sz),(.int .i64 v.2.2.2.2.2.2.2.2.2.1)]
abbrev yRE {β:Type} (v:Int×Int×List UInt8×SL×β):List AV:=[(.int .i64 v.1),(.int .i64 v.2.1),(.str v.2.2.1),(.slice v.2.2.2.1.a v.2.2.2.1.len v.2.2.2.1.cap v.2.2.2.1.sz)]
abbrev yRF {β:Type} (v:Int×List UInt8×Int×β):List AV:=[(.int .i64 v.1),(.str v.2.1),(.int .i64 v.2.2.1)]
abbrev yRG {β:Type} (v:Bool×List UInt8×Int×List UInt8×SL×SL×β):List AV:=[(.bool v.1),(.str v.2.1),(.int .i64 v.2.2.1),(.str v.2.2.2.1),(.slice v.2.2.2.2.1.a v.2.2.2.2.1.len v.2.2.2.2.1.cap v.2.2.2.2.1.sz),(.slice v.2.2.2.2.2.1.a v.2.2.2.2.2.1.len v.2.2.2.2.2.1.cap v.2.2.2.2.2.1.sz)]
abbrev yRH {β:Type} (v:Bool×List UInt8×SL×SL×Int×β):List AV:=[(.bool v.1),(.str v.2.1),(.slice v.2.2.1.a v.2.2.1.len v.2.2.1.cap v.2.2.1.sz),(.slice v.2.2.2.1.a v.2.2.2.1.len v.2.2.2.1.cap v.2.2.2.1.sz),(.int .i64 v.2.2.2.2.1)]
abbrev yRI {β:Type} (v:List UInt8×SL×β):List AV:=[(.str v.1),(.slice v.2.1.a v.2.1.len v.2.1.cap v.2.1.sz)]
abbrev yRJ {β:Type} (v:SL×SL×β):List AV:=[(.slice v.1.a v.1.len v.1.cap v.1.sz),(.slice v.2.1.a v.2.1.len v.2.1.cap v.2.1.sz)]
abbrev yZA:List AV:=[(.int .i64 0),(.int .i64 0),(.bool false),(.str []),(.int .i64 0),(.str []),(.slice none 0 0 0),(.slice none 0 0 0),(.bool false),(.str []),(.slice none 0 0 0),(.int .i64 0),(.int .i64 0),(.int .i64 0),(.str []),(.slice none 0 0 0),(.int .i64 0),(.int .i64 0),(.str []),(.slice none 0 0 0),(.int .i64 0),(.str []),(.slice none 0 0 0),(.str []),(.slice none 0 0 0),(.slice none 0 0 0),(.int .i64 0),(.int .i64 0),(.str []),(.slice none 0 0 0),(.slice none 0 0 0),(.slice none 0 0 0)]
abbrev yZB:List AV:=[(.int .i64 0),(.int .i64 0),(.int .i64 0),(.str []),(.slice none 0 0 0),(.int .i64 0),(.int .i64 0),(.str []),(.slice none 0 0 0),(.int .i64 0),(.str []),(.slice none 0 0 0),(.str []),(.slice none 0 0 0),(.slice none 0 0 0)]
abbrev yZC:List AV:=[(.int .i64 0),(.str []),(.slice none 0 0 0),(.slice none 0 0 0)]
abbrev yZD:List AV:=[(.bool false),(.str []),(.slice none 0 0 0),(.slice none 0 0 0),(.int .i64 0),(.str []),(.slice none 0 0 0),(.slice none 0 0 0),(.slice none 0 0 0),(.int .i64 0)]
abbrev yZE:List AV:=[(.int .i64 0),(.str []),(.int .i64 0)]
abbrev yZF:List AV:=[(.bool false),(.str []),(.int .i64 0),(.str []),(.slice none 0 0 0),(.slice none 0 0 0)]
abbrev yZG:List AV:=[(.bool false),(.str []),(.slice none 0 0 0),(.slice none 0 0 0),(.int .i64 0)]
abbrev yZH:List AV:=[(.int .i64 0),(.int .i64 0),(.str []),(.slice none 0 0 0)]
abbrev yZI:List AV:=[(.slice none 0 0 0),(.slice none 0 0 0)]
abbrev yZJ:List AV:=[(.str []),(.slice none 0 0 0)]
abbrev yZK:List AV:=[(.slice none 0 0 0)]
abbrev yZL:List AV:=[(.int .i64 0)]
theorem pD {C:CallK} (hC:CallKOK Tryz.prog C) (N:Nat) (x:Ann) (fn:Func) {f:FuncId} {l:List VTy} {t:Ty} {F:wG l→Heap→Option (t.den×Heap)} (h1:E.fn f=some fn:=by kernel_rfl) (h2:fn.body=some (fn.body.getD .skip):=by kernel_rfl) (h3:Nat.ble fn.ntmps 1073741824=true:=by kernel_rfl) (h4:Nat.beq fn.results.size fn.resultTypes.size=true:=by kernel_rfl) (h5:∀ xs h,F xs h=runK E C N x fn (fn.body.getD .skip) t (VTy.tos l xs) h:=by intro _ _;kernel_rfl):cD Tryz.prog f l t F:=dAo jB6 pBd hC h1 h2 h3 h4 h5
def f37 (N:Nat) (a0 a1:Int) (h:Heap):Option (AV×Heap):=let x1:=pA a0 0;(bif x1 then some (AV.nilIface,h)else let h2:=h.push (.row [(.int .i64 a0),(.int .i64 a1),(AV.iface 78 (.int .i64 a0))] .own);some ((AV.iface 127 (.ptr (some (h.next,0)))),h2))
def qBd:Ann:=.n
theorem kAx (N:Nat):cD Tryz.prog 37 [zY2,zY2] (.val zZ2) (fun x h=>f37 N x.1 x.2.1 h):=pD lA N qBd Tryz.f37
def f186 (N:Nat) (a0 a1:zA3) (h:Heap):Option (Bool×Heap):=let x1:Bool:=uC (Int.ofNat a1.length) (Int.ofNat a0.length);(bif x1 then(iA (.val zW2) (qD E h 9 (.str a0) none (some (.int .i64 (Int.ofNat a1.length)))) fun (x2:zA3)=>let x3:=pB x2 a1;some (x3,h))else some (false,h))
def kB6:Ann:=.n
theorem pAz (N:Nat):cD Tryz.prog 186 [zW2,zW2] (.val zX2) (fun x h=>f186 N x.1 x.2.1 h):=pD lA N kB6 Tryz.f186
def f140 (N:Nat) (a0 a1:zA3) (h:Heap):Option (Bool×Heap):=(kA (f186 N a0 a1 h) fun (x1:Bool) h2=>some (x1,h2))
def lB6:Ann:=.n
theorem qAo (N:Nat):cD Tryz.prog 140 [zW2,zW2] (.val zX2) (fun x h=>f140 N x.1 x.2.1 h):=pD (dA (pAz N) lA) N lB6 Tryz.f140
def f206 (N:Nat) (a0:zA3) (a1:Int) (h:Heap):Option (Int×Heap):=Qa.eBg a0 a1 h
theorem qAd (N:Nat):mAz Tryz.prog 206 [zW2,(.one (.int .u8))] (.val zY2) (fun x h=>f206 N x.1 x.2.1 h):=Qa.qAd N
def f187 (N:Nat) (a0:zA3) (a1:Int) (h:Heap):Option (Int×Heap):=(kA (f206 N a0 a1 h) fun (x1:Int) h2=>some (x1,h2))
def mB6:Ann:=.n
theorem qAz (N:Nat):cD Tryz.prog 187 [zW2,(.one (.int .u8))] (.val zY2) (fun x h=>f187 N x.1 x.2.1 h):=pD (kAd (qAd N) lA) N mB6 Tryz.f187
def f141 (N:Nat) (a0:zA3) (a1:Int) (h:Heap):Option (Int×Heap):=(kA (f187 N a0 a1 h) fun (x1:Int) h2=>some (x1,h2))
def nB6:Ann:=.n
theorem rAo (N:Nat):cD Tryz.prog 141 [zW2,(.one (.int .u8))] (.val zY2) (fun x h=>f141 N x.1 x.2.1 h):=pD (dA (qAz N) lA) N nB6 Tryz.f141
def uA5 (N:Nat) (go:zA3→Int→Int→Heap→Option (Out×zT1×Heap)) (v0:zA3) (v1 v4:Int) (h:Heap):Option (Out×zT1×Heap):=let x1:=uB v1 (Int.ofNat v0.length);(bif x1 then(eJ v0 v1 fun x2=>let x3:=pA x2 32;(bif x3 then let x4:=bB .i64 (v1+1);go v0 x4 v4 h else(eJ v0 v1 fun x5=>let x6:=pA x5 9;(bif x6 then let x7:=bB .i64 (v1+1);go v0 x7 v4 h else(eJ v0 v1 fun x8=>let x9:=pA x8 10;(bif x9 then let x10:=bB .i64 (v1+1);go v0 x10 v4 h else(iA (.val zW2) (qD E h 9 (.str v0) (some (.int .i64 v1)) none) fun (x11:zA3)=>(kA (f140 N x11 [47,47] h) fun (x12:Bool) h13=>(bif x12 then(iA (.val zW2) (qD E h13 9 (.str v0) (some (.int .i64 v1)) none) fun (x14:zA3)=>(kA (f141 N x14 10 h13) fun (x15:Int) h16=>let x17:=uB x15 0;(bif x17 then some (Out.ret,(v1,(Int.ofNat v0.length),()),h16)else let x18:=bB .i64 (v1+x15);go v0 x18 v4 h16)))else some (Out.ret,(v1,v1,()),h13))))))))))else some ((Out.exit 0),(v1,v4,()),h))
def nAh (N M:Nat) (v0:zA3) (v1 v4:Int) (h:Heap):Option (Out×zT1×Heap):=iter (fun go s h=>uA5 N (fun v0 v1 v4 h=>go (v0,v1,v4,()) h) s.1 s.2.1 s.2.2.1 h) M (v0,v1,v4,()) h
theorem rAd (N M v0 v1 v4 h):nAh N (M+1) v0 v1 v4 h=uA5 N (nAh N M) v0 v1 v4 h:=rfl
def f90 (N:Nat) (a0:zA3) (a1:Int) (h:Heap):Option (Int×Heap):=(eE (nAh N N a0 a1 0 h) fun o19 (j20:zT1) h21=>(bif mD o19 (.exit 0) then some (j20.1,h21)else some (j20.2.1,h21)))
def rBd:Ann:=(.two .n (.two (.two (.loop [(0,zW2),(1,zY2),(4,zY2)] [(.exit 0),.ret] [(1,zY2),(4,zY2)] .n) .n) .n))
theorem oB6 (N:Nat):cD Tryz.prog 90 [zW2,zY2] (.val zY2) (fun x h=>f90 N x.1 x.2.1 h):=pD (dA (rAo N) (dA (qAo N) lA)) N rBd Tryz.f90
def f170 (N:Nat) (a0:Int) (h:Heap):Option (Bool×Heap):=let x1:Bool:=uC 97 a0;(bif x1 then let x2:Bool:=uC a0 122;(bif x2 then some (true,h)else let x3:Bool:=uC 65 a0;(bif x3 then let x4:Bool:=uC a0 90;(bif x4 then some (true,h)else let x5:=pA a0 95;(bif x5 then some (true,h)else some (false,h)))else let x6:=pA a0 95;(bif x6 then some (true,h)else some (false,h))))else let x7:Bool:=uC 65 a0;(bif x7 then let x8:Bool:=uC a0 90;(bif x8 then some (true,h)else let x9:=pA a0 95;(bif x9 then some (true,h)else some (false,h)))else let x10:=pA a0 95;(bif x10 then some (true,h)else some (false,h))))
def pB6:Ann:=.n
theorem tAd (N:Nat):cD Tryz.prog 170 [(.one (.int .u8))] (.val zX2) (fun x h=>f170 N x.1 h):=pD lA N pB6 Tryz.f170
def f195 (N:Nat) (a0:Int) (h:Heap):Option (Bool×Heap):=(kA (f170 N a0 h) fun (x1:Bool) h2=>(bif x1 then some (true,h2)else let x3:Bool:=uC 48 a0;(bif x3 then let x4:Bool:=uC a0 57;some (x4,h2)else some (false,h2))))
def qB6:Ann:=.n
theorem rAz (N:Nat):cD Tryz.prog 195 [(.one (.int .u8))] (.val zX2) (fun x h=>f195 N x.1 h):=pD (dA (tAd N) lA) N qB6 Tryz.f195
def aA0 (N:Nat) (go:zA3→Int→Heap→Option (Out×zQ1×Heap)) (v0:zA3) (v1:Int) (h:Heap):Option (Out×zQ1×Heap):=let x1:=uB v1 (Int.ofNat v0.length);(bif x1 then(eJ v0 v1 fun x2=>(kA (f195 N x2 h) fun (x3:Bool) h4=>(bif x3 then let x5:=bB .i64 (v1+1);go v0 x5 h4 else some ((Out.exit 0),(v1,()),h4))))else some ((Out.exit 0),(v1,()),h))
def vA5 (N M:Nat) (v0:zA3) (v1:Int) (h:Heap):Option (Out×zQ1×Heap):=iter (fun go s h=>aA0 N (fun v0 v1 h=>go (v0,v1,()) h) s.1 s.2.1 h) M (v0,v1,()) h
theorem nAa (N M v0 v1 h):vA5 N (M+1) v0 v1 h=aA0 N (vA5 N M) v0 v1 h:=rfl
def f171 (N:Nat) (a0:zA3) (a1:Int) (h:Heap):Option (Int×Heap):=(eE (vA5 N N a0 a1 h) fun _ (j7:zQ1) h8=>some (j7.1,h8))
def rB6:Ann:=(.two .n (.two (.two (.loop [(0,zW2),(1,zY2)] [(.exit 0)] [(1,zY2)] .n) .n) .n))
theorem wA5 (N:Nat):cD Tryz.prog 171 [zW2,zY2] (.val zY2) (fun x h=>f171 N x.1 x.2.1 h):=pD (dA (rAz N) lA) N rB6 Tryz.f171
def f172 (N:Nat) (a0:zA3) (h:Heap):Option (Bool×Heap):=let x1:=pB a0 [102,110];(bif x1 then(bif x1 then some (true,h)else some (false,h))else let x2:=pB a0 [115,116,114,117,99,116];(bif x2 then(bif x2 then some (true,h)else some (false,h))else let x3:=pB a0 [112,117,98];(bif x3 then(bif x3 then some (true,h)else some (false,h))else let x4:=pB a0 [108,101,116];(bif x4 then(bif x4 then some (true,h)else some (false,h))else let x5:=pB a0 [109,117,116];(bif x5 then(bif x5 then some (true,h)else some (false,h))else let x6:=pB a0 [105,102];(bif x6 then(bif x6 then some (true,h)else some (false,h))else let x7:=pB a0 [101,108,115,101];(bif x7 then(bif x7 then some (true,h)else some (false,h))else let x8:=pB a0 [119,104,105,108,101];(bif x8 then(bif x8 then some (true,h)else some (false,h))else let x9:=pB a0 [108,111,111,112];(bif x9 then(bif x9 then some (true,h)else some (false,h))else let x10:=pB a0 [98,114,101,97,107];(bif x10 then(bif x10 then some (true,h)else some (false,h))else let x11:=pB a0 [99,111,110,116,105,110,117,101];(bif x11 then(bif x11 then some (true,h)else some (false,h))else let x12:=pB a0 [114,101,116,117,114,110];(bif x12 then(bif x12 then some (true,h)else some (false,h))else let x13:=pB a0 [100,114,111,112];(bif x13 then(bif x13 then some (true,h)else some (false,h))else let x14:=pB a0 [116,114,117,101];(bif x14 then(bif x14 then some (true,h)else some (false,h))else let x15:=pB a0 [102,97,108,115,101]
 (bif x15 then(bif x15 then some (true,h)else some (false,h))else let x16:=pB a0 [105,110,116];(bif x16 then(bif x16 then some (true,h)else some (false,h))else let x17:=pB a0 [98,111,111,108];(bif x17 then some (true,h)else some (false,h))))))))))))))))))
def tB6:Ann:=.n
theorem uAd (N:Nat):cD Tryz.prog 172 [zW2] (.val zX2) (fun x h=>f172 N x.1 h):=pD lA N tB6 Tryz.f172
def f142 (N:Nat) (a0:zA3) (a1:Int) (h:Heap):Option ((zQ×Int×Unit)×Heap):=let h1:=h.push (.row yZE .own);(kA (f171 N a0 a1 h1) fun (x2:Int) h3=>(iA (.val zW2) (qD E h3 9 (.str a0) (some (.int .i64 a1)) (some (.int .i64 x2))) fun (x4:zA3)=>(kA (f172 N x4 h3) fun (x5:Bool) h6=>(bif x5 then(uA (h6.store (h.next,0) [(.int .i64 2),(.str x4),(.int .i64 a1)]) fun h7=>(iA (.val zG) (h7.cells (h.next,0) 3) fun (x8:zQ)=>some (((x8.1,x8.2.1,x8.2.2.1,()),x2,()),h7)))else let x9:Bool:=uC (Int.ofNat x4.length) 32;(bif x9 then(uA (h6.store (h.next,0) [(.int .i64 1),(.str x4),(.int .i64 a1)]) fun h10=>(iA (.val zG) (h10.cells (h.next,0) 3) fun (x11:zQ)=>some (((x11.1,x11.2.1,x11.2.2.1,()),x2,()),h10)))else(uA (h6.store (h.next,0) yZE) fun h12=>(iA (.val zG) (h12.cells (h.next,0) 3) fun (x13:zQ)=>some (((x13.1,x13.2.1,x13.2.2.1,()),0,()),h12))))))))
def uB6:Ann:=.n
theorem tAz (N:Nat):cD Tryz.prog 142 [zW2,zY2] (.tup [zG,zY2]) (fun x h=>f142 N x.1 x.2.1 h):=pD (dA (uAd N) (dA (wA5 N) lA)) N uB6 Tryz.f142
def bA0 (N:Nat) (go:zA3→Int→zT2→Int→Int→Int→Int→Heap→Option (Out×zP1×Heap)) (v0:zA3) (v1:Int) (v4:zT2) (v5 v6 v7 v8:Int) (h:Heap):Option (Out×zP1×Heap):=let x4:=uB v8 v6;(bif x4 then(eJ v0 v8 fun x5=>let x6:=uB x5 48;(bif x6 then(uA v4 fun q8=>(uA (h.store q8 yZE) fun h7=>some (Out.ret,(v0,v1,v4,0,v6,()),h7)))else(eJ v0 v8 fun x9=>let x10:=uB 57 x9;(bif x10 then(uA v4 fun q12=>(uA (h.store q12 yZE) fun h11=>some (Out.ret,(v0,v1,v4,0,v6,()),h11)))else let x13:=bB .i64 (v7 * 10);(eJ v0 v8 fun x14=>let x15:=bB .u8 (x14-48);let x16:=bB .i64 x15;let x17:=bB .i64 (x13+x16);let x18:=uB 2147483647 x17;(bif x18 then(uA v4 fun q20=>(uA (h.store q20 yZE) fun h19=>some (Out.ret,(v0,v1,v4,0,v6,()),h19)))else let x21:=bB .i64 (v8+1);go v0 v1 v4 v5 v6 x17 x21 h))))))else some ((Out.exit 0),(v0,v1,v4,v5,v6,()),h))
def yA5 (N M:Nat) (v0:zA3) (v1:Int) (v4:zT2) (v5 v6 v7 v8:Int) (h:Heap):Option (Out×zP1×Heap):=iter (fun go s h=>bA0 N (fun v0 v1 v4 v5 v6 v7 v8 h=>go (v0,v1,v4,v5,v6,v7,v8,()) h) s.1 s.2.1 s.2.2.1 s.2.2.2.1 s.2.2.2.2.1 s.2.2.2.2.2.1 s.2.2.2.2.2.2.1 h) M (v0,v1,v4,v5,v6,v7,v8,()) h
theorem oAa (N M v0 v1 v4 v5 v6 v7 v8 h):yA5 N (M+1) v0 v1 v4 v5 v6 v7 v8 h=bA0 N (yA5 N M) v0 v1 v4 v5 v6 v7 v8 h:=rfl
def f143 (N:Nat) (a0:zA3) (a1:Int) (h:Heap):Option ((zQ×Int×Unit)×Heap):=let h1:=h.push (.row yZE .own);(kA (f171 N a0 a1 h1) fun (x2:Int) h3=>(eE (yA5 N N a0 a1 (some (h.next,0)) 0 x2 0 a1 h3) fun o22 (j23:zP1) h24=>(bif mD o22 (.exit 0) then(eJ j23.1 j23.2.1 fun x25=>let x26:=pA x25 48;(bif x26 then let x27:=bB .i64 (j23.2.2.2.2.1-j23.2.1);let x28:=uB 1 x27;(bif x28 then(uA j23.2.2.1 fun q30=>(uA (h24.store q30 yZE) fun h29=>(uA j23.2.2.1 fun q31=>(iA (.val zG) (h29.cells q31 3) fun (x32:zQ)=>some (((x32.1,x32.2.1,x32.2.2.1,()),0,()),h29)))))else(iA (.val zW2) (qD E h24 9 (.str j23.1) (some (.int .i64 j23.2.1)) (some (.int .i64 j23.2.2.2.2.1))) fun (x33:zA3)=>(uA j23.2.2.1 fun q35=>(uA (h24.store q35 [(.int .i64 4),(.str x33),(.int .i64 j23.2.1)]) fun h34=>(uA j23.2.2.1 fun q36=>(iA (.val zG) (h34.cells q36 3) fun (x37:zQ)=>some (((x37.1,x37.2.1,x37.2.2.1,()),j23.2.2.2.2.1,()),h34)))))))else(iA (.val zW2) (qD E h24 9 (.str j23.1) (some (.int .i64 j23.2.1)) (some (.int .i64 j23.2.2.2.2.1))) fun (x38:zA3)=>(uA j23.2.2.1 fun q40=>(uA (h24.store q40 [(.int .i64 4),(.str x38),(.int .i64 j23.2.1)]) fun h39=>(uA j23.2.2.1 fun q41=>(iA (.val zG) (h39.cells q41 3) fun (x42:zQ)=>some (((x42.1,x42.2.1,x42.2.2.1,()),j23.2.2.2.2.1,()),h39))))))))else(uA j23.2.2.1 fun q43=>(iA (.val zG) (h24.cells q43 3) fun (x44:zQ)=>some (((x44.1,x44.2.1,x44.2.2.1,()),j23.2.2.2.1,()),h24))))))
def vB6:Ann:=(.two .n (.two .n (.two .n (.two (.two .n (.two (.loop [(0,zW2),(1,zY2),(4,zU2),(5,zY2),(6,zY2),(7,zY2),(8,zY2)] [(.exit 0),.ret] [(0,zW2),(1,zY2),(4,zU2),(5,zY2),(6,zY2)] .n) .n)) .n))))
theorem uAz (N:Nat):cD Tryz.prog 143 [zW2,zY2] (.tup [zG,zY2]) (fun x h=>f143 N x.1 x.2.1 h):=pD (dA (wA5 N) lA) N vB6 Tryz.f143
def f144 (N:Nat) (a0:zA3) (a1:Int) (h:Heap):Option ((zQ×Int×Unit)×Heap):=let h1:=h.push (.row yZE .own);let x2:=bB .i64 (a1+1);let x3:=pA x2 (Int.ofNat a0.length);(bif x3 then(uA (h1.store (h.next,0) yZE) fun h4=>(iA (.val zG) (h4.cells (h.next,0) 3) fun (x5:zQ)=>some (((x5.1,x5.2.1,x5.2.2.1,()),0,()),h4)))else let x6:=bB .i64 (a1+1);(eJ a0 x6 fun x7=>(kA (f170 N x7 h1) fun (x8:Bool) h9=>let x10:=!x8;(bif x10 then(uA (h9.store (h.next,0) yZE) fun h11=>(iA (.val zG) (h11.cells (h.next,0) 3) fun (x12:zQ)=>some (((x12.1,x12.2.1,x12.2.2.1,()),0,()),h11)))else let x13:=bB .i64 (a1+1);(kA (f171 N a0 x13 h9) fun (x14:Int) h15=>let x16:=bB .i64 (x14-a1);let x17:=bB .i64 (x16-1);let x18:=uB 32 x17;(bif x18 then(uA (h15.store (h.next,0) yZE) fun h19=>(iA (.val zG) (h19.cells (h.next,0) 3) fun (x20:zQ)=>some (((x20.1,x20.2.1,x20.2.2.1,()),0,()),h19)))else let x21:=bB .i64 (a1+1);(iA (.val zW2) (qD E h15 9 (.str a0) (some (.int .i64 x21)) (some (.int .i64 x14))) fun (x22:zA3)=>(uA (h15.store (h.next,0) [(.int .i64 3),(.str x22),(.int .i64 a1)]) fun h23=>(iA (.val zG) (h23.cells (h.next,0) 3) fun (x24:zQ)=>some (((x24.1,x24.2.1,x24.2.2.1,()),x14,()),h23))))))))))
def wB6:Ann:=.n
theorem vAz (N:Nat):cD Tryz.prog 144 [zW2,zY2] (.tup [zG,zY2]) (fun x h=>f144 N x.1 x.2.1 h):=pD (dA (wA5 N) (dA (tAd N) lA)) N wB6 Tryz.f144
def dA0 (N:Nat) (go:zA3→Int→zT2→Int→SL→Int→Int→Heap→Option (Out×zE1×Heap)) (v0:zA3) (v1:Int) (v4:zT2) (v5:Int) (v8:SL) (v9 v10:Int) (h:Heap):Option (Out×zE1×Heap):=let x3:=uB v10 v9;(bif x3 then(ixK v8.a v8.len v10 1 fun q4=>(iA (.val zW2) (h.cell q4) fun (x5:zA3)=>(iA (.val zW2) (qD E h 9 (.str v0) (some (.int .i64 v1)) none) fun (x6:zA3)=>(kA (f140 N x6 x5 h) fun (x7:Bool) h8=>(bif x7 then let x9:=bB .i64 (v1+2);(uA v4 fun q11=>(uA (h8.store q11 [(.int .i64 5),(.str x5),(.int .i64 v1)]) fun h10=>some (Out.ret,(v0,v1,v4,x9,()),h10)))else let x12:=bB .i64 (v10+1);go v0 v1 v4 v5 v8 v9 x12 h8)))))else some ((Out.exit 0),(v0,v1,v4,v5,()),h))
def aA6 (N M:Nat) (v0:zA3) (v1:Int) (v4:zT2) (v5:Int) (v8:SL) (v9 v10:Int) (h:Heap):Option (Out×zE1×Heap):=iter (fun go s h=>dA0 N (fun v0 v1 v4 v5 v8 v9 v10 h=>go (v0,v1,v4,v5,v8,v9,v10,()) h) s.1 s.2.1 s.2.2.1 s.2.2.2.1 s.2.2.2.2.1 s.2.2.2.2.2.1 s.2.2.2.2.2.2.1 h) M (v0,v1,v4,v5,v8,v9,v10,()) h
theorem pAa (N M v0 v1 v4 v5 v8 v9 v10 h):aA6 N (M+1) v0 v1 v4 v5 v8 v9 v10 h=dA0 N (aA6 N M) v0 v1 v4 v5 v8 v9 v10 h:=rfl
def f145 (N:Nat) (a0:zA3) (a1:Int) (h:Heap):Option ((zQ×Int×Unit)×Heap):=let h1:=h.push (.row yZE .own);let h2:=h1.push (.row [(.str [58,58]),(.str [45,62]),(.str [61,61])] .own);(eE (aA6 N N a0 a1 (some (h.next,0)) 0 ⟨(some (h1.next,0)),3,3,1⟩ (Int.ofNat 3) 0 h2) fun o13 (j14:zE1) h15=>(bif mD o13 (.exit 0) then(eJ j14.1 j14.2.1 fun x16=>(kA (f141 N [40,41,123,125,60,62,44,59,58,46,42,38,43,45,61,33] x16 h15) fun (x17:Int) h18=>let x19:=uB x17 0;(bif x19 then(uA j14.2.2.1 fun q21=>(uA (h18.store q21 yZE) fun h20=>(uA j14.2.2.1 fun q22=>(iA (.val zG) (h20.cells q22 3) fun (x23:zQ)=>some (((x23.1,x23.2.1,x23.2.2.1,()),0,()),h20)))))else let x24:=bB .i64 (j14.2.1+1);(iA (.val zW2) (qD E h18 9 (.str j14.1) (some (.int .i64 j14.2.1)) (some (.int .i64 x24))) fun (x25:zA3)=>let x26:=bB .i64 (j14.2.1+1);(uA j14.2.2.1 fun q28=>(uA (h18.store q28 [(.int .i64 5),(.str x25),(.int .i64 j14.2.1)]) fun h27=>(uA j14.2.2.1 fun q29=>(iA (.val zG) (h27.cells q29 3) fun (x30:zQ)=>some (((x30.1,x30.2.1,x30.2.2.1,()),x26,()),h27)))))))))else(uA j14.2.2.1 fun q31=>(iA (.val zG) (h15.cells q31 3) fun (x32:zQ)=>some (((x32.1,x32.2.1,x32.2.2.1,()),j14.2.2.2.1,()),h15)))))
def yB6:Ann:=(.two .n (.two (.two .n (.two (.loop [(0,zW2),(1,zY2),(4,zU2),(5,zY2),(8,zV2),(9,zY2),(10,zY2)] [(.exit 0),.ret] [(0,zW2),(1,zY2),(4,zU2),(5,zY2)] .n) .n)) .n))
theorem wAz (N:Nat):cD Tryz.prog 145 [zW2,zY2] (.tup [zG,zY2]) (fun x h=>f145 N x.1 x.2.1 h):=pD (dA (rAo N) (dA (qAo N) lA)) N yB6 Tryz.f145
def f91 (N:Nat) (a0:zA3) (a1:Int) (h:Heap):Option ((zQ×Int×Unit)×Heap):=let h1:=h.push (.row yZE .own);(uA (α:=Sum (zR×Heap) (Sum (zR1×Heap) (Empty))) ((eJ a0 a1 fun x2=>(uA (α:=Sum (zR×Heap) (Sum (zR×Heap) (Sum (zR1×Heap) (Empty)))) ((uA (α:=Sum (zR×Heap) (Sum (zR×Heap) (Sum (zR×Heap) (Sum (zR1×Heap) (Empty))))) ((uA (α:=Sum (zR×Heap) (Sum (zR×Heap) (Sum (zR×Heap) (Sum (zR×Heap) (Sum (zR×Heap) (Empty)))))) ((uA (α:=Sum (zE1×Heap) (Sum (zR×Heap) (Empty))) ( let x3:Bool:=uC 97 x2;(bif x3 then let x4:Bool:=uC x2 122;(bif x4 then some (Sum.inr (Sum.inl ((a0,a1,(some (h.next,0)),()),h1)))else some (Sum.inl ((a0,a1,(some (h.next,0)),x2,()),h1)))else some (Sum.inl ((a0,a1,(some (h.next,0)),x2,()),h1)))) fun j5=>(dC j5 (fun (j6:zE1) h7=>(uA (α:=Sum (zE1×Heap) (Sum (zR×Heap) (Empty))) ((kA (α:=zE2) ( let x9:Bool:=uC 65 j6.2.2.2.1;(bif x9 then let x10:Bool:=uC j6.2.2.2.1 90;some ((j6.1,j6.2.1,j6.2.2.1,j6.2.2.2.1,x10,()),h7)else some ((j6.1,j6.2.1,j6.2.2.1,j6.2.2.2.1,false,()),h7))) fun (j11:zE2) h12=>(bif j11.2.2.2.2.1 then(bif j11.2.2.2.2.1 then some (Sum.inr (Sum.inl ((j11.1,j11.2.1,j11.2.2.1,()),h12)))else some (Sum.inl ((j11.1,j11.2.1,j11.2.2.1,j11.2.2.2.1,()),h12)))else let x13:=pA j11.2.2.2.1 95;(bif x13 then some (Sum.inr (Sum.inl ((j11.1,j11.2.1,j11.2.2.1,()),h12)))else some (Sum.inl ((j11.1,j11.2.1,j11.2.2.1,j11.2.2.2.1,()),h12)))))) fun j14=>(dC j14 (fun (j15:zE1) h16=>let x18:=pA j15.2.2.2.1 48;(bif x18 then some (Sum.inr (Sum.inr (Sum.inl ((j15.1,j15.2.1,j15.2.2.1,()),h16))))
 else(uA (α:=Sum (zE1×Heap) (Sum (zR×Heap) (Empty))) ( let x19:Bool:=uC 49 j15.2.2.2.1;(bif x19 then let x20:Bool:=uC j15.2.2.2.1 57;(bif x20 then some (Sum.inr (Sum.inl ((j15.1,j15.2.1,j15.2.2.1,()),h16)))else some (Sum.inl ((j15.1,j15.2.1,j15.2.2.1,j15.2.2.2.1,()),h16)))else some (Sum.inl ((j15.1,j15.2.1,j15.2.2.1,j15.2.2.2.1,()),h16)))) fun j21=>(dC j21 (fun (j22:zE1) h23=>let x25:=pA j22.2.2.2.1 39;(bif x25 then some (Sum.inr (Sum.inr (Sum.inr (Sum.inr (Sum.inl ((j22.1,j22.2.1,j22.2.2.1,()),h23))))))else some (Sum.inr (Sum.inl ((j22.1,j22.2.1,j22.2.2.1,()),h23))))) fun j24=>(dC j24 (fun (j26:zR) h27=>some (Sum.inr (Sum.inr (Sum.inr (Sum.inl ((j26.1,j26.2.1,j26.2.2.1,()),h27)))))) fun _=>none))))) fun j17=>(dC j17 (fun (j29:zR) h30=>some (Sum.inl ((j29.1,j29.2.1,j29.2.2.1,()),h30))) fun _=>none)))) fun j8=>(dC j8 (fun (j32:zR) h33=>some (Sum.inl ((j32.1,j32.2.1,j32.2.2.1,()),h33))) fun _=>none)))) fun j35=>(dC j35 (fun (j36:zR) h37=>(kA (f142 N j36.1 j36.2.1 h37) fun (x39:(zQ×Int×Unit)) h40=>(uA j36.2.2.1 fun q42=>(uA (h40.store q42 (yRF x39.1)) fun h41=>some (Sum.inr (Sum.inr (Sum.inr (Sum.inl ((j36.2.2.1,x39.2.1,()),h41))))))))) fun j38=>(dC j38 (fun (j43:zR) h44=>some (Sum.inr (Sum.inl ((j43.1,j43.2.1,j43.2.2.1,()),h44)))) fun j45=>(dC j45 (fun (j46:zR) h47=>some (Sum.inl ((j46.1,j46.2.1,j46.2.2.1,()),h47))) fun j48=>(dC j48 (fun (j49:zR) h50=>some (Sum.inl ((j49.1,j49.2.1,j49.2.2.1,()),h50))) fun j51=>(dC j51 (fun (j52:zR) h53=>
 some (Sum.inr (Sum.inr (Sum.inl ((j52.1,j52.2.1,j52.2.2.1,()),h53))))) fun _=>none))))))) fun j55=>(dC j55 (fun (j56:zR) h57=>(kA (f143 N j56.1 j56.2.1 h57) fun (x59:(zQ×Int×Unit)) h60=>(uA j56.2.2.1 fun q62=>(uA (h60.store q62 (yRF x59.1)) fun h61=>some (Sum.inr (Sum.inr (Sum.inl ((j56.2.2.1,x59.2.1,()),h61)))))))) fun j58=>(dC j58 (fun (j63:zR) h64=>some (Sum.inr (Sum.inl ((j63.1,j63.2.1,j63.2.2.1,()),h64)))) fun j65=>(dC j65 (fun (j66:zR) h67=>some (Sum.inl ((j66.1,j66.2.1,j66.2.2.1,()),h67))) fun j68=>(dC j68 (fun (j69:zR1) h70=>some (Sum.inr (Sum.inr (Sum.inl ((j69.1,j69.2.1,()),h70))))) fun _=>none)))))) fun j72=>(dC j72 (fun (j73:zR) h74=>(kA (f144 N j73.1 j73.2.1 h74) fun (x76:(zQ×Int×Unit)) h77=>(uA j73.2.2.1 fun q79=>(uA (h77.store q79 (yRF x76.1)) fun h78=>some (Sum.inr (Sum.inl ((j73.2.2.1,x76.2.1,()),h78))))))) fun j75=>(dC j75 (fun (j80:zR) h81=>some (Sum.inl ((j80.1,j80.2.1,j80.2.2.1,()),h81))) fun j82=>(dC j82 (fun (j83:zR1) h84=>some (Sum.inr (Sum.inl ((j83.1,j83.2.1,()),h84)))) fun _=>none)))))) fun j86=>(dC j86 (fun (j87:zR) h88=>(kA (f145 N j87.1 j87.2.1 h88) fun (x90:(zQ×Int×Unit)) h91=>(uA j87.2.2.1 fun q93=>(uA (h91.store q93 (yRF x90.1)) fun h92=>(uA j87.2.2.1 fun q94=>(iA (.val zG) (h92.cells q94 3) fun (x95:zQ)=>some (((x95.1,x95.2.1,x95.2.2.1,()),x90.2.1,()),h92))))))) fun j89=>(dC j89 (fun (j96:zR1) h97=>(uA j96.1 fun q99=>(iA (.val zG) (h97.cells q99 3) fun (x100:zQ)=>some (((x100.1,x100.2.1,x100.2.2.1,()),j96.2.1,()),h97)))) fun _=>
 none)))
def tBd:Ann:=(.two .n (.two (.joinO [(.norm,[(0,zW2),(1,zY2),(4,zU2)]),(.ret,[(4,zU2),(5,zY2)])] (.two .n (.two (.two (.joinO [(.norm,[(0,zW2),(1,zY2),(4,zU2)]),((.exit 0),[(0,zW2),(1,zY2),(4,zU2)]),(.ret,[(4,zU2),(5,zY2)])] (.two (.two (.joinO [(.norm,[(0,zW2),(1,zY2),(4,zU2)]),((.exit 0),[(0,zW2),(1,zY2),(4,zU2)]),((.exit 5),[(0,zW2),(1,zY2),(4,zU2)]),(.ret,[(4,zU2),(5,zY2)])] (.two (.two (.two (.joinO [(.norm,[(0,zW2),(1,zY2),(4,zU2)]),((.exit 0),[(0,zW2),(1,zY2),(4,zU2)]),((.exit 3),[(0,zW2),(1,zY2),(4,zU2)]),((.exit 4),[(0,zW2),(1,zY2),(4,zU2)]),((.exit 5),[(0,zW2),(1,zY2),(4,zU2)])] (.two (.two (.two (.two (.joinO [(.norm,[(0,zW2),(1,zY2),(4,zU2),(6,(.one (.int .u8)))]),((.exit 1),[(0,zW2),(1,zY2),(4,zU2)])] .n) (.two (.joinO [(.norm,[(0,zW2),(1,zY2),(4,zU2),(6,(.one (.int .u8)))]),((.exit 2),[(0,zW2),(1,zY2),(4,zU2)])] (.two (.two (.join [(0,zW2),(1,zY2),(4,zU2),(6,(.one (.int .u8))),(17,zX2)] .n) .n) .n)) (.two .n (.two (.joinO [(.norm,[(0,zW2),(1,zY2),(4,zU2),(6,(.one (.int .u8)))]),((.exit 4),[(0,zW2),(1,zY2),(4,zU2)])] .n) .n)))) .n) .n) .n)) .n) .n) .n)) .n) .n)) .n) .n))) .n))
theorem aB7 (N:Nat):cD Tryz.prog 91 [zW2,zY2] (.tup [zG,zY2]) (fun x h=>f91 N x.1 x.2.1 h):=pD (dA (wAz N) (dA (vAz N) (dA (uAz N) (dA (tAz N) lA)))) N tBd Tryz.f91
def bA6 (N:Nat) (go:zA3→SL→AV→SL→Int→Heap→Option (Out×zA2×Heap)) (v0:zA3) (v2:SL) (v3:AV) (v4:SL) (v5:Int) (h:Heap):Option (Out×zA2×Heap):=let x6:=uB v5 (Int.ofNat v0.length);(bif x6 then(kA (f91 N v0 v5 h) fun (x7:(zQ×Int×Unit)) h8=>let h9:=h8.push (.row yZE .own);(uA (h9.store (h8.next,0) (yRF x7.1)) fun h10=>let x11:=pA x7.2.1 0;(bif x11 then(kA (f37 N 20 v5 h10) fun (x12:AV) h13=>some (Out.ret,(v0,⟨none,0,0,0⟩,x12,v4,()),h13))else(iA (.val zG) (h10.cells (h8.next,0) 3) fun (x14:zQ)=>let h15:=h10.push (.row (yRF x14) .own);(fG (.val zV2) (pC E 57 57 (.slice v4.a v4.len v4.cap v4.sz) (.slice (some (h10.next,0)) 1 1 3) h15) fun (x16:SL) h17=>(kA (f90 N v0 x7.2.1 h17) fun (x18:Int) h19=>go v0 v2 v3 x16 x18 h19))))))else some ((Out.exit 0),(v0,v2,v3,v4,()),h))
def qAa (N M:Nat) (v0:zA3) (v2:SL) (v3:AV) (v4:SL) (v5:Int) (h:Heap):Option (Out×zA2×Heap):=iter (fun go s h=>bA6 N (fun v0 v2 v3 v4 v5 h=>go (v0,v2,v3,v4,v5,()) h) s.1 s.2.1 s.2.2.1 s.2.2.2.1 s.2.2.2.2.1 h) M (v0,v2,v3,v4,v5,()) h
theorem vAd (N M v0 v2 v3 v4 v5 h):qAa N (M+1) v0 v2 v3 v4 v5 h=bA6 N (qAa N M) v0 v2 v3 v4 v5 h:=rfl
def f54 (N:Nat) (a0:zA3) (h:Heap):Option ((SL×AV×Unit)×Heap):=let x1:=uB 1048576 (Int.ofNat a0.length);(bif x1 then(kA (f37 N 5 0 h) fun (x2:AV) h3=>some ((⟨none,0,0,0⟩,x2,()),h3))else(kA (f90 N a0 0 h) fun (x4:Int) h5=>(eE (qAa N N a0 ⟨none,0,0,0⟩ AV.nilIface ⟨none,0,0,0⟩ x4 h5) fun o20 (j21:zA2) h22=>(bif mD o20 (.exit 0) then let h23:=h22.push (.row [(.int .i64 0),(.str []),(.int .i64 (Int.ofNat j21.1.length))] .own);(fG (.val zV2) (pC E 57 57 (.slice j21.2.2.2.1.a j21.2.2.2.1.len j21.2.2.2.1.cap j21.2.2.2.1.sz) (.slice (some (h22.next,0)) 1 1 3) h23) fun (x24:SL) h25=>some ((x24,AV.nilIface,()),h25))else some ((j21.2.1,j21.2.2.1,()),h22)))))
def uBd:Ann:=(.two .n (.two .n (.two .n (.two .n (.two (.two (.loop [(0,zW2),(2,zV2),(3,zZ2),(4,zV2),(5,zY2)] [(.exit 0),.ret] [(0,zW2),(2,zV2),(3,zZ2),(4,zV2)] .n) .n) .n)))))
theorem lAx (N:Nat):cD Tryz.prog 54 [zW2] (.tup [zV2,zZ2]) (fun x h=>f54 N x.1 h):=pD (dA (aB7 N) (dA (oB6 N) (dA (kAx N) lA))) N uBd Tryz.f54
def f56 (N:Nat) (a0:zT2) (h:Heap):Option (zQ×Heap):=let h1:=h.push (.row yZE .own);(uA a0 fun q2=>(iA (.val zV2) (h1.cell (q2.1,q2.2+0)) fun (x3:SL)=>(uA a0 fun q4=>(iA (.val zY2) (h1.cell (q4.1,q4.2+1)) fun (x5:Int)=>(ixK x3.a x3.len x5 3 fun q6=>(iA (.val zG) (h1.cells q6 3) fun (x7:zQ)=>(uA (h1.store (h.next,0) (yRF x7)) fun h8=>(iA (.val zG) (h8.cells (h.next,0) 3) fun (x9:zQ)=>some ((x9.1,x9.2.1,x9.2.2.1,()),h8)))))))))
def vBd:Ann:=.n
theorem yM (N:Nat):cD Tryz.prog 56 [zU2] (.val zG) (fun x h=>f56 N x.1 h):=pD lA N vBd Tryz.f56
def f57 (N:Nat) (a0:zT2) (a1:Int) (h:Heap):Option ((Unit)×Heap):=(uA a0 fun q1=>(iA (.val zZ2) (h.cell (q1.1,q1.2+3)) fun (x2:AV)=>(iA (.val zX2) (wJ E .eql 29 (.tmp 7) (.const .nilIface) x2 AV.nilIface) fun (x3:Bool)=>(bif x3 then(kA (f56 N a0 h) fun (x4:zQ) h5=>(kA (f37 N a1 x4.2.2.1 h5) fun (x6:AV) h7=>(uA a0 fun q8=>(uE (AV.single x6) (uA (h7.store (q8.1,q8.2+3) [x6]) fun h9=>some ((()),h9))))))else some ((()),h)))))
def wBd:Ann:=.n
theorem aW (N:Nat):cD Tryz.prog 57 [zU2,zY2] (.tup []) (fun x h=>f57 N x.1 x.2.1 h):=pD (dA (yM N) (dA (kAx N) lA)) N wBd Tryz.f57
def f146 (N:Nat) (a0:zT2) (a1:Int) (a2:zA3) (h:Heap):Option (Bool×Heap):=(kA (f56 N a0 h) fun (x1:zQ) h2=>let h3:=h2.push (.row yZE .own);(uA (h3.store (h2.next,0) (yRF x1)) fun h4=>(uA a0 fun q5=>(iA (.val zZ2) (h4.cell (q5.1,q5.2+3)) fun (x6:AV)=>(iA (.val zX2) (wJ E .eql 29 (.tmp 13) (.const .nilIface) x6 AV.nilIface) fun (x7:Bool)=>(bif x7 then(iA (.val zY2) (h4.cell ((h2.next,0).1,(h2.next,0).2+0)) fun (x8:Int)=>let x9:=pA x8 a1;(bif x9 then(iA (.val zW2) (h4.cell ((h2.next,0).1,(h2.next,0).2+1)) fun (x10:zA3)=>let x11:=pB x10 a2;some (x11,h4))else some (false,h4)))else some (false,h4)))))))
def bB7:Ann:=.n
theorem eA0 (N:Nat):cD Tryz.prog 146 [zU2,zY2,zW2] (.val zX2) (fun x h=>f146 N x.1 x.2.1 x.2.2.1 h):=pD (dA (yM N) lA) N bB7 Tryz.f146
def f92 (N:Nat) (a0:zT2) (a1:zA3) (h:Heap):Option (Bool×Heap):=(kA (f146 N a0 2 a1 h) fun (x1:Bool) h2=>let x3:=!x1;(bif x3 then some (false,h2)else(uA a0 fun q4=>(iA (.val zY2) (h2.cell (q4.1,q4.2+1)) fun (x5:Int)=>let x6:=bB .i64 (x5+1);(uA a0 fun q7=>(uA (h2.store (q7.1,q7.2+1) [(.int .i64 x6)]) fun h8=>some (true,h8)))))))
def yBd:Ann:=.n
theorem bW (N:Nat):cD Tryz.prog 92 [zU2,zW2] (.val zX2) (fun x h=>f92 N x.1 x.2.1 h):=pD (dA (eA0 N) lA) N yBd Tryz.f92
def f93 (N:Nat) (a0:zT2) (a1:zA3) (h:Heap):Option (Bool×Heap):=(kA (f146 N a0 5 a1 h) fun (x1:Bool) h2=>let x3:=!x1;(bif x3 then some (false,h2)else(uA a0 fun q4=>(iA (.val zY2) (h2.cell (q4.1,q4.2+1)) fun (x5:Int)=>let x6:=bB .i64 (x5+1);(uA a0 fun q7=>(uA (h2.store (q7.1,q7.2+1) [(.int .i64 x6)]) fun h8=>some (true,h8)))))))
def aBe:Ann:=.n
theorem qG (N:Nat):cD Tryz.prog 93 [zU2,zW2] (.val zX2) (fun x h=>f93 N x.1 x.2.1 h):=pD (dA (eA0 N) lA) N aBe Tryz.f93
def f94 (N:Nat) (a0:zT2) (a1:Int) (h:Heap):Option (zA3×Heap):=(kA (f56 N a0 h) fun (x1:zQ) h2=>let h3:=h2.push (.row yZE .own);(uA (h3.store (h2.next,0) (yRF x1)) fun h4=>(uA a0 fun q5=>(iA (.val zZ2) (h4.cell (q5.1,q5.2+3)) fun (x6:AV)=>(iA (.val zX2) (wJ E .neq 29 (.tmp 11) (.const .nilIface) x6 AV.nilIface) fun (x7:Bool)=>(bif x7 then(kA (f57 N a0 21 h4) fun (x8:(Unit)) h9=>some ([],h9))else(iA (.val zY2) (h4.cell ((h2.next,0).1,(h2.next,0).2+0)) fun (x10:Int)=>let x11:=!pA x10 a1;(bif x11 then(kA (f57 N a0 21 h4) fun (x12:(Unit)) h13=>some ([],h13))else(uA a0 fun q14=>(iA (.val zY2) (h4.cell (q14.1,q14.2+1)) fun (x15:Int)=>let x16:=bB .i64 (x15+1);(uA a0 fun q17=>(uA (h4.store (q17.1,q17.2+1) [(.int .i64 x16)]) fun h18=>(iA (.val zW2) (h18.cell ((h2.next,0).1,(h2.next,0).2+1)) fun (x19:zA3)=>some (x19,h18))))))))))))))
def bBe:Ann:=.n
theorem aN (N:Nat):cD Tryz.prog 94 [zU2,zY2] (.val zW2) (fun x h=>f94 N x.1 x.2.1 h):=pD (dA (aW N) (dA (yM N) lA)) N bBe Tryz.f94
def f95 (N:Nat) (a0:zT2) (h:Heap):Option (zA3×Heap):=(kA (f94 N a0 1 h) fun (x1:zA3) h2=>(kA (f93 N a0 [58,58] h2) fun (x3:Bool) h4=>(bif x3 then(iA (.val zW2) (gP .add x1 [58,58]) fun (x5:zA3)=>(kA (f94 N a0 1 h4) fun (x6:zA3) h7=>(iA (.val zW2) (gP .add x5 x6) fun (x8:zA3)=>some (x8,h7))))else some (x1,h4))))
def cBe:Ann:=.n
theorem tAo (N:Nat):cD Tryz.prog 95 [zU2] (.val zW2) (fun x h=>f95 N x.1 h):=pD (dA (aN N) (dA (qG N) lA)) N cBe Tryz.f95
def f188 (N:Nat) (a0:zT2) (a1:Int) (h:Heap):Option (Bool×Heap):=let x1:Bool:=uC 64 a1;(bif x1 then(kA (f57 N a0 5 h) fun (x2:(Unit)) h3=>(uA a0 fun q4=>(iA (.val zZ2) (h3.cell (q4.1,q4.2+3)) fun (x5:AV)=>(iA (.val zX2) (wJ E .eql 29 (.tmp 12) (.const .nilIface) x5 AV.nilIface) fun (x6:Bool)=>some (x6,h3)))))else(uA a0 fun q7=>(iA (.val zZ2) (h.cell (q7.1,q7.2+3)) fun (x8:AV)=>(iA (.val zX2) (wJ E .eql 29 (.tmp 12) (.const .nilIface) x8 AV.nilIface) fun (x9:Bool)=>some (x9,h)))))
def cB7:Ann:=.n
theorem bN (N:Nat):cD Tryz.prog 188 [zU2,zY2] (.val zX2) (fun x h=>f188 N x.1 x.2.1 h):=pD (dA (aW N) lA) N cB7 Tryz.f188
def f148 (N:Nat) (a0 a1:zT2) (h:Heap):Option ((Unit)×Heap):=(uA a0 fun q1=>(iA (.val zV2) (h.cell q1) fun (x2:SL)=>(uA a1 fun q3=>(iA (.val zU2) (h.cell q3) fun (x4:zT2)=>(kA (f94 N x4 3 h) fun (x5:zA3) h6=>let h7:=h6.push (.row [(.str x5)] .own);(fG (.val zV2) (pC E 38 38 (.slice x2.a x2.len x2.cap x2.sz) (.slice (some (h6.next,0)) 1 1 1) h7) fun (x8:SL) h9=>(uA a0 fun q11=>(uA (h9.store q11 [(.slice x8.a x8.len x8.cap x8.sz)]) fun h10=>(uE (bif (pE a1 fun q=>mC (h.cell q) (.ptr x4)) then (bif (pE a0 fun q=>mC (h7.cell q) (.slice x2.a x2.len x2.cap x2.sz)) then (bif (pE a0 fun q=>mC (h6.cell q) (.slice x2.a x2.len x2.cap x2.sz)) then (bif (pE a0 fun q=>mC (h.cell q) (.slice x2.a x2.len x2.cap x2.sz)) then true else false) else false) else false) else false) ( some ((()),h10)))))))))))
def dB7:Ann:=.n
theorem yAz (N:Nat):cD Tryz.prog 148 [zU2,zU2] (.tup []) (fun x h=>f148 N x.1 x.2.1 h):=pD (dA (aN N) lA) N dB7 Tryz.f148
def kI (N:Nat) (go:zT2→zA3→zM→Int→Heap→Option (Out×(Unit)×Heap)) (v0:zT2) (v1:zA3) (v2:zM) (v6:Int) (h:Heap):Option (Out×(Unit)×Heap):=(kA (f188 N v0 v6 h) fun (x1:Bool) h2=>(bif x1 then(kA (f148 N v2.1 v2.2.1 h2) fun (x3:(Unit)) h4=>(kA (f93 N v0 v1 h4) fun (x5:Bool) h6=>let x7:=!x5;(bif x7 then some (Out.ret,(()),h6)else let x8:=bB .i64 (v6+1);go v0 v1 (v2.1,v2.2.1,()) x8 h6)))else some ((Out.exit 0),(()),h2)))
def dL (N M:Nat) (v0:zT2) (v1:zA3) (v2:zM) (v6:Int) (h:Heap):Option (Out×(Unit)×Heap):=iter (fun go s h=>kI N (fun v0 v1 v2 v6 h=>go (v0,v1,v2,v6,()) h) s.1 s.2.1 s.2.2.1 s.2.2.2.1 h) M (v0,v1,v2,v6,()) h
theorem gM (N M v0 v1 v2 v6 h):dL N (M+1) v0 v1 v2 v6 h=kI N (dL N M) v0 v1 v2 v6 h:=rfl
def cA6 (N:Nat) (a0:zT2) (a1:zA3) (a2:zM) (h:Heap):Option ((Unit)×Heap):=(eE (dL N N a0 a1 (a2.1,a2.2.1,()) 0 h) fun o9 (j10:(Unit)) h11=>(bif mD o9 (.exit 0) then some ((()),h11)else some ((()),h11)))
def lAk:Ann:=(.two .n (.two (.loop [(0,zU2),(1,zW2),(2,(.clo 148 [.ptr,.ptr])),(6,zY2)] [(.exit 0),.ret] [] .n) .n))
theorem wAd (N:Nat):cD Tryz.prog 147 [zU2,zW2,(.clo 148 [.ptr,.ptr])] (.tup []) (fun x h=>cA6 N x.1 x.2.1 x.2.2.1 h):=pD (dA (qG N) (dA (bN N) (dA (yAz N) lA))) N lAk Tryz.f147
def f149 (N:Nat) (a0:zT2) (a1:zA3) (h:Heap):Option ((Unit)×Heap):=(kA (f93 N a0 a1 h) fun (x1:Bool) h2=>let x3:=!x1;(bif x3 then(kA (f57 N a0 21 h2) fun (x4:(Unit)) h5=>some ((()),h5))else some ((()),h2)))
def eB7:Ann:=.n
theorem bJ (N:Nat):cD Tryz.prog 149 [zU2,zW2] (.tup []) (fun x h=>f149 N x.1 x.2.1 h):=pD (dA (qG N) (dA (aW N) lA)) N eB7 Tryz.f149
def f96 (N:Nat) (a0:zT2) (h:Heap):Option (SL×Heap):=let h1:=h.push (.row [(.ptr a0)] .own);let h2:=h1.push (.row yZK .own);(iA (.val zU2) (h2.cell (h.next,0)) fun (x3:zT2)=>(kA (f93 N x3 [60] h2) fun (x4:Bool) h5=>(bif x4 then(iA (.val zU2) (h5.cell (h.next,0)) fun (x6:zT2)=>(kA (cA6 N x6 [44] ((some (h1.next,0)),(some (h.next,0)),()) h5) fun (x7:(Unit)) h8=>(iA (.val zU2) (h8.cell (h.next,0)) fun (x9:zT2)=>(kA (f149 N x9 [62] h8) fun (x10:(Unit)) h11=>(iA (.val zV2) (h11.cell (h1.next,0)) fun (x12:SL)=>some (x12,h11))))))else(iA (.val zV2) (h5.cell (h1.next,0)) fun (x13:SL)=>some (x13,h5)))))
def dBe:Ann:=.n
theorem mAx (N:Nat):cD Tryz.prog 96 [zU2] (.val zV2) (fun x h=>f96 N x.1 h):=pD (dA (qG N) (dA (bJ N) (qC (sel:=fun a=>bL 2 148 a) (wAd N) lA))) N dBe Tryz.f96
def aAv (N:Nat) (rec55:zT2→Int→Heap→Option (zP×Heap)) (a0:zT2) (a1:Int) (h:Heap):Option (zP×Heap):=let h1:=h.push (.row yZC .own);(kA (α:=zG2) ( let x2:=uB 64 a1;(bif x2 then(kA (f57 N a0 6 h1) fun (x3:(Unit)) h4=>some ((a0,a1,(some (h.next,0)),()),h4))else some ((a0,a1,(some (h.next,0)),()),h1))) fun (j5:zG2) h6=>(uA j5.1 fun q7=>(iA (.val zZ2) (h6.cell (q7.1,q7.2+3)) fun (x8:AV)=>(iA (.val zX2) (wJ E .neq 29 (.tmp 15) (.const .nilIface) x8 AV.nilIface) fun (x9:Bool)=>(bif x9 then(uA j5.2.2.1 fun q11=>(uA (h6.store q11 yZC) fun h10=>(uA j5.2.2.1 fun q12=>(iA (.val zC) (h10.cells q12 4) fun (x13:zP)=>some ((x13.1,x13.2.1,x13.2.2.1,x13.2.2.2.1,()),h10)))))else(kA (f92 N j5.1 [105,110,116] h6) fun (x14:Bool) h15=>(bif x14 then(uA j5.2.2.1 fun q17=>(uA (h15.store q17 [(.int .i64 1),(.str []),(.slice none 0 0 0),(.slice none 0 0 0)]) fun h16=>(uA j5.2.2.1 fun q18=>(iA (.val zC) (h16.cells q18 4) fun (x19:zP)=>some ((x19.1,x19.2.1,x19.2.2.1,x19.2.2.2.1,()),h16)))))else(kA (f92 N j5.1 [98,111,111,108] h15) fun (x20:Bool) h21=>(bif x20 then(uA j5.2.2.1 fun q23=>(uA (h21.store q23 [(.int .i64 2),(.str []),(.slice none 0 0 0),(.slice none 0 0 0)]) fun h22=>(uA j5.2.2.1 fun q24=>(iA (.val zC) (h22.cells q24 4) fun (x25:zP)=>some ((x25.1,x25.2.1,x25.2.2.1,x25.2.2.2.1,()),h22)))))else(kA (f93 N j5.1 [38] h21) fun (x26:Bool) h27=>(bif x26 then let h28:=h27.push (.row yZC .own);(uA (h28.store (h27.next,0) [(.int .i64 4),(.str []),(.slice none 0 0 0),(.slice none 0 0 0)]) fun h29=>
 (kA (α:=zJ1) ((kA (f56 N j5.1 h29) fun (x30:zQ) h31=>let x32:=pA x30.1 3;(bif x32 then(kA (f94 N j5.1 3 h31) fun (x33:zA3) h34=>let h35:=h34.push (.row [(.str x33)] .own);(uA (h35.store ((h27.next,0).1,(h27.next,0).2+2) [(.slice (some (h34.next,0)) 1 1 1)]) fun h36=>some ((j5.1,j5.2.1,j5.2.2.1,(some (h27.next,0)),()),h36)))else some ((j5.1,j5.2.1,j5.2.2.1,(some (h27.next,0)),()),h31)))) fun (j37:zJ1) h38=>(kA (α:=zJ1) ((kA (f92 N j37.1 [109,117,116] h38) fun (x39:Bool) h40=>(bif x39 then(uA j37.2.2.2.1 fun q41=>(uA (h40.store (q41.1,q41.2+0) [(.int .i64 5)]) fun h42=>some ((j37.1,j37.2.1,j37.2.2.1,j37.2.2.2.1,()),h42)))else some ((j37.1,j37.2.1,j37.2.2.1,j37.2.2.2.1,()),h40)))) fun (j43:zJ1) h44=>let x45:=bB .i64 (j43.2.1+1);(kA (rec55 j43.1 x45 h44) fun (x46:zP) h47=>let h48:=h47.push (.row (yRC x46) .own);(uA j43.2.2.2.1 fun q49=>(uA (h48.store (q49.1,q49.2+3) [(.slice (some (h47.next,0)) 1 1 4)]) fun h50=>(uA j43.2.2.2.1 fun q51=>(iA (.val zC) (h50.cells q51 4) fun (x52:zP)=>(uA j43.2.2.1 fun q54=>(uA (h50.store q54 (yRC x52)) fun h53=>(uA j43.2.2.1 fun q55=>(iA (.val zC) (h53.cells q55 4) fun (x56:zP)=>some ((x56.1,x56.2.1,x56.2.2.1,x56.2.2.2.1,()),h53)))))))))))))else(kA (f95 N j5.1 h27) fun (x57:zA3) h58=>let h59:=h58.push (.row yZC .own);(uA (h59.store (h58.next,0) [(.int .i64 3),(.str x57),(.slice none 0 0 0),(.slice none 0 0 0)]) fun h60=>(kA (f96 N j5.1 h60) fun (x61:SL) h62=>(uA (h62.store ((h58.next,0).1,(h58.next,0).2+2) [(.slice x61.a x61.len x61.cap x61.sz)]) fun h63=>
 (iA (.val zC) (h63.cells (h58.next,0) 4) fun (x64:zP)=>(uA j5.2.2.1 fun q66=>(uA (h63.store q66 (yRC x64)) fun h65=>(uA j5.2.2.1 fun q67=>(iA (.val zC) (h65.cells q67 4) fun (x68:zP)=>some ((x68.1,x68.2.1,x68.2.2.1,x68.2.2.2.1,()),h65)))))))))))))))))))))
def eBe:Ann:=(.two .n (.two (.join [(0,zU2),(1,zY2),(4,zU2)] .n) (.two (.two (.two .n (.two .n (.two .n (.two .n (.two .n (.two .n (.two .n (.two (.two .n (.two (.join [(0,zU2),(1,zY2),(4,zU2),(5,zU2)] .n) (.two (.join [(0,zU2),(1,zY2),(4,zU2),(5,zU2)] .n) .n))) .n)))))))) .n) .n)))
def fB7 (N M:Nat):((zT2→Int→Heap→Option (zP×Heap))×Unit):=Nat.rec (fun _ _ _=>none,()) (fun _ r=>(aAv N r.1,())) M
def f55 (N M:Nat):zT2→Int→Heap→Option (zP×Heap):=(fB7 N M).1
theorem oAh (N M a0 a1 h):f55 N (M+1) a0 a1 h=aAv N (f55 N M) a0 a1 h:=rfl
theorem qA3 (N:Nat):∀ M:Nat,(cD Tryz.prog 55 [zU2,zY2] (.val zC) (fun x h=>f55 N M x.1 x.2.1 h))∧True
 | 0=>⟨(fun xs h r h' hx=>by cases hx),trivial⟩
 | M+1=>⟨pD (dA (mAx N) (dA (tAo N) (dA (aN N) (dA (qG N) (dA (bW N) (dA (aW N) (dA (yM N) (dA (qA3 N M).1 lA)))))))) N eBe Tryz.f55,trivial⟩
theorem uAo (N:Nat):cD Tryz.prog 55 [zU2,zY2] (.val zC) (fun x h=>f55 N N x.1 x.2.1 h):=(qA3 N N).1
def f23 (N:Nat) (a0:zA3) (h:Heap):Option ((zP×AV×Unit)×Heap):=let h1:=h.push (.row yZC .own);(kA (f54 N a0 h1) fun (x2:(SL×AV×Unit)) h3=>(iA (.val zX2) (wJ E .neq 29 (.tmp 13) (.const .nilIface) x2.2.1 AV.nilIface) fun (x4:Bool)=>(bif x4 then(uA (h3.store (h.next,0) yZC) fun h5=>(iA (.val zC) (h5.cells (h.next,0) 4) fun (x6:zP)=>some (((x6.1,x6.2.1,x6.2.2.1,x6.2.2.2.1,()),x2.2.1,()),h5)))else let h7:=h3.push (.row [(.slice x2.1.a x2.1.len x2.1.cap x2.1.sz),(.int .i64 0),(.int .i64 0),AV.nilIface] .own);(kA (f55 N N (some (h3.next,0)) 1 h7) fun (x8:zP) h9=>let h10:=h9.push (.row yZC .own);(uA (h10.store (h9.next,0) (yRC x8)) fun h11=>(kA (f56 N (some (h3.next,0)) h11) fun (x12:zQ) h13=>let x14:=!pA x12.1 0;(bif x14 then(kA (f57 N (some (h3.next,0)) 21 h13) fun (x15:(Unit)) h16=>(iA (.val zZ2) (h16.cell ((h3.next,0).1,(h3.next,0).2+3)) fun (x17:AV)=>(iA (.val zX2) (wJ E .neq 29 (.tmp 31) (.const .nilIface) x17 AV.nilIface) fun (x18:Bool)=>(bif x18 then(iA (.val zZ2) (h16.cell ((h3.next,0).1,(h3.next,0).2+3)) fun (x19:AV)=>(uA (h16.store (h.next,0) yZC) fun h20=>(uE (bif (mC (h20.cell ((h3.next,0).1,(h3.next,0).2+3)) x19) then (bif (mC (h16.cell ((h3.next,0).1,(h3.next,0).2+3)) x19) then true else false) else false) ((iA (.val zC) (h20.cells (h.next,0) 4) fun (x21:zP)=>some (((x21.1,x21.2.1,x21.2.2.1,x21.2.2.2.1,()),x19,()),h20))))))else(iA (.val zC) (h16.cells (h9.next,0) 4) fun (x22:zP)=>(uA (h16.store (h.next,0) (yRC x22)) fun h23=>
 (iA (.val zC) (h23.cells (h.next,0) 4) fun (x24:zP)=>some (((x24.1,x24.2.1,x24.2.2.1,x24.2.2.2.1,()),AV.nilIface,()),h23))))))))else(iA (.val zZ2) (h13.cell ((h3.next,0).1,(h3.next,0).2+3)) fun (x25:AV)=>(iA (.val zX2) (wJ E .neq 29 (.tmp 31) (.const .nilIface) x25 AV.nilIface) fun (x26:Bool)=>(bif x26 then(iA (.val zZ2) (h13.cell ((h3.next,0).1,(h3.next,0).2+3)) fun (x27:AV)=>(uA (h13.store (h.next,0) yZC) fun h28=>(uE (bif (mC (h28.cell ((h3.next,0).1,(h3.next,0).2+3)) x27) then (bif (mC (h13.cell ((h3.next,0).1,(h3.next,0).2+3)) x27) then true else false) else false) ((iA (.val zC) (h28.cells (h.next,0) 4) fun (x29:zP)=>some (((x29.1,x29.2.1,x29.2.2.1,x29.2.2.2.1,()),x27,()),h28))))))else(iA (.val zC) (h13.cells (h9.next,0) 4) fun (x30:zP)=>(uA (h13.store (h.next,0) (yRC x30)) fun h31=>(iA (.val zC) (h31.cells (h.next,0) 4) fun (x32:zP)=>some (((x32.1,x32.2.1,x32.2.2.1,x32.2.2.2.1,()),AV.nilIface,()),h31))))))))))))))
def fBe:Ann:=.n
theorem gB7 (N:Nat):cD Tryz.prog 23 [zW2] (.tup [zC,zZ2]) (fun x h=>f23 N x.1 h):=pD (dA (aW N) (dA (yM N) (dA (uAo N) (dA (lAx N) lA)))) N fBe Tryz.f23
def yX (N:Nat) (go:zT2→Int→Int→Int→Heap→Option (Out×zT1×Heap)) (v4:zT2) (v6 v7 v8:Int) (h:Heap):Option (Out×zT1×Heap):=let x8:=uB v8 200;(bif x8 then(uA v4 fun q9=>(iA (.val zZ2) (h.cell (q9.1,q9.2+2)) fun (x10:AV)=>(iA (.tup [zU2,zX2]) (vI E x10 127 true) fun (x11:zW)=>let x12:=!x11.2.1;(bif x12 then some ((Out.exit 0),(v6,v7,()),h)else(bif x11.1.isNone then some ((Out.exit 0),(v6,v7,()),h)else(uA x11.1 fun q13=>(iA (.val zY2) (h.cell (q13.1,q13.2+1)) fun (x14:Int)=>let x15:=bB .i64 (v8+1);go x11.1 v6 x14 x15 h)))))))else some ((Out.exit 0),(v6,v7,()),h))
def pAh (N M:Nat) (v4:zT2) (v6 v7 v8:Int) (h:Heap):Option (Out×zT1×Heap):=iter (fun go s h=>yX N (fun v4 v6 v7 v8 h=>go (v4,v6,v7,v8,()) h) s.1 s.2.1 s.2.2.1 s.2.2.2.1 h) M (v4,v6,v7,v8,()) h
theorem fA0 (N M v4 v6 v7 v8 h):pAh N (M+1) v4 v6 v7 v8 h=yX N (pAh N M) v4 v6 v7 v8 h:=rfl
def f29 (N:Nat) (a0:AV) (h:Heap):Option (zT1×Heap):=(iA (.val zX2) (wJ E .eql 29 (.tmp 11) (.const .nilIface) a0 AV.nilIface) fun (x1:Bool)=>(bif x1 then some ((0,0,()),h)else(iA (.tup [zU2,zX2]) (vI E a0 127 true) fun (x2:zW)=>let x3:=!x2.2.1;(bif x3 then some (((-1),0,()),h)else(bif x2.1.isNone then some (((-1),0,()),h)else(uA x2.1 fun q4=>(iA (.val zY2) (h.cell (q4.1,q4.2+0)) fun (x5:Int)=>(uA x2.1 fun q6=>(iA (.val zY2) (h.cell (q6.1,q6.2+1)) fun (x7:Int)=>(eE (pAh N N x2.1 x5 x7 0 h) fun _ (j17:zT1) h18=>some ((j17.1,j17.2.1,()),h18)))))))))))
def gBe:Ann:=(.two .n (.two .n (.two .n (.two .n (.two .n (.two (.two .n (.two (.loop [(4,zU2),(6,zY2),(7,zY2),(8,zY2)] [(.exit 0)] [(6,zY2),(7,zY2)] .n) .n)) .n))))))
theorem iB7 (N:Nat):cD Tryz.prog 29 [zZ2] (.tup [zY2,zY2]) (fun x h=>f29 N x.1 h):=pD lA N gBe Tryz.f29
def f18 (N:Nat) (a0:AV) (a1 a2:Int) (h:Heap):Option (Bool×Heap):=(kA (f29 N a0 h) fun (x1:zT1) h2=>let x3:=pA x1.1 a1;(bif x3 then let x4:=pA x1.2.1 a2;some (x4,h2)else some (false,h2)))
def iBe:Ann:=.n
theorem jB7 (N:Nat):cD Tryz.prog 18 [zZ2,zY2,zY2] (.val zX2) (fun x h=>f18 N x.1 x.2.1 x.2.2.1 h):=pD (dA (iB7 N) lA) N iBe Tryz.f18
end
end Qp
namespace Qp
abbrev Bs:=zA3
theorem yC {β:Type} (k:Option β):uE true k=k:=rfl
theorem tBc:E.und 9=some .string:=by kernel_rfl
theorem qH {β:Type} {s:Bs} {i:Nat} (hi:i<s.length) (K:Int→Option β):eJ s (i:Int) K=K ((s[i]).toNat:Int):=by
 show (match (Int.ofNat i) with | .ofNat j=>(match s[j]? with | some b=>K b.toNat | none=>none) | .negSucc _=>none)=_;simp only [List.getElem?_eq_getElem hi]
theorem fO {i hi d:Nat} (h:i≤hi):bF (some (.int .i64 (i:Int))) hi d=some i:=by
 have:Nat.ble i hi=true:=by simpa using h
 have e:fQ (.int .i64 (i:Int))=some i:=rfl;simp only [bF,e,this,cond_true]
theorem gO {h:Heap} {s:Bs} {i j:Nat} (h1:i≤j) (h2:j≤s.length):qD E h 9 (.str s) (some (.int .i64 (i:Int))) (some (.int .i64 (j:Int)))=some (.str ((s.take j).drop i)):=by
 simp only [qD,tBc,fO h2,fO h1]
theorem nU {h:Heap} {s:Bs} {i:Nat} (h1:i≤s.length):qD E h 9 (.str s) (some (.int .i64 (i:Int))) none=some (.str (s.drop i)):=by
 have e:bF none s.length s.length=some s.length:=rfl;simp only [qD,tBc,e,fO h1,List.take_length]
theorem mAk {h:Heap} {s:Bs} {j:Nat} (h2:j≤s.length):qD E h 9 (.str s) none (some (.int .i64 (j:Int)))=some (.str (s.take j)):=by
 have e:bF none j 0=some 0:=rfl;simp only [qD,tBc,fO h2,e,List.drop_zero]
theorem tP (a b:Nat):uB (a:Int) (Int.ofNat b)=decide (a<b):=by
 rw [eAa];by_cases h:a<b <;> simp [h] <;> omega
theorem pG (a b:Nat):uB (a:Int) (b:Int)=decide (a<b):=tP a b
theorem yS {i:Nat} (h:i≤4000000000):bB .i64 (i:Int)=(i:Int):=lD (by omega) (by omega)
theorem rB {i:Nat} (h:i≤4000000000):bB .i64 ((i:Int)+1)=((i+1:Nat):Int):=by rw [lD (by omega) (by omega)];rfl
theorem eqI (a b:Int):pA a b=decide (a=b):=fAa a b
theorem leI (a b:Int):uC a b=decide (a≤b):=eAo a b
theorem ltI (a b:Int):uB a b=decide (a<b):=eAa a b
def bD (c:UInt8):Bool:=decide (97≤c.toNat∧c.toNat≤122)||decide (65≤c.toNat∧c.toNat≤90)||decide (c.toNat=95)
def oD (c:UInt8):Bool:=decide (48≤c.toNat∧c.toNat≤57)
def vQ (c:UInt8):Bool:=bD c||oD c
theorem yAd (N:Nat) (c:UInt8) (h:Heap):f170 N (c.toNat:Int) h=some (bD c,h):=by
 unfold f170 bD;simp only [leI,eqI];have a1:decide ((97:Int)≤(c.toNat:Int))=decide (97≤c.toNat):=by by_cases q:97≤c.toNat <;> simp [q] <;> omega
 have a2:decide ((c.toNat:Int)≤122)=decide (c.toNat≤122):=by by_cases q:c.toNat≤122 <;> simp [q] <;> omega
 have a3:decide ((65:Int)≤(c.toNat:Int))=decide (65≤c.toNat):=by by_cases q:65≤c.toNat <;> simp [q] <;> omega
 have a4:decide ((c.toNat:Int)≤90)=decide (c.toNat≤90):=by by_cases q:c.toNat≤90 <;> simp [q] <;> omega
 have a5:decide ((c.toNat:Int)=95)=decide (c.toNat=95):=by by_cases q:c.toNat=95 <;> simp [q] <;> omega
 rw [a1,a2,a3,a4,a5]
 by_cases q1:97≤c.toNat <;> by_cases q2:c.toNat≤122 <;> by_cases q3:65≤c.toNat <;> by_cases q4:c.toNat≤90 <;> by_cases q5:c.toNat=95 <;> simp [q1,q2,q3,q4,q5]
theorem aB0 (N:Nat) (c:UInt8) (h:Heap):f195 N (c.toNat:Int) h=some (vQ c,h):=by
 unfold f195;rw [yAd,aA];unfold vQ oD;simp only [leI];have a1:decide ((48:Int)≤(c.toNat:Int))=decide (48≤c.toNat):=by by_cases q:48≤c.toNat <;> simp [q] <;> omega
 have a2:decide ((c.toNat:Int)≤57)=decide (c.toNat≤57):=by by_cases q:c.toNat≤57 <;> simp [q] <;> omega
 rw [a1,a2];cases bD c <;> by_cases q1:48≤c.toNat <;> by_cases q2:c.toNat≤57 <;> simp [q1,q2]
def runN:Bs→Nat
 | []=>0
 | c::r=>if vQ c then runN r+1 else 0
theorem wQ:∀ t:Bs,runN t≤t.length
 | []=>Nat.le_refl _
 | c::r=>by have:=wQ r;simp only [runN,List.length_cons];split <;> omega
theorem drop_cons {s:Bs} {i:Nat} (h:i<s.length):s.drop i=s[i]::s.drop (i+1):=List.drop_eq_getElem_cons h
theorem bAv {N:Nat} {s:Bs} (hs:s.length≤3000000) (h:Heap):∀ (M i:Nat),i≤s.length→s.length-i<M→vA5 N M s (i:Int) h=some (.exit 0,(((i+runN (s.drop i):Nat):Int),()),h):=by
 intro M
 induction M with
 | zero=>intro i _ h;omega
 | succ M ih=>
  intro i hi hM;rw [nAa];unfold aA0;simp only [tP]
  by_cases q:i<s.length
  ·simp only [q,decide_true,cond_true]
   rw [qH q,aB0,aA,rB (by omega),drop_cons q];simp only [runN]
   cases hg:vQ s[i] with
   | true=>
    simp only [cond_true,if_true];rw [ih (i+1) q (by omega)];simp only [Nat.add_assoc,Nat.add_comm 1]
   | false=>simp
  ·simp only [q,decide_false,cond_false]
   rw [List.drop_of_length_le (by omega)];rfl
theorem dA6 {N:Nat} {s:Bs} (hs:s.length≤3000000) (hN:s.length<N) {i:Nat} (hi:i≤s.length) (h:Heap):f171 N s (i:Int) h=some (((i+runN (s.drop i):Nat):Int),h):=by
 unfold f171;rw [bAv hs h N i hi (by omega)];rfl
def kB7:List Bs:=[[102,110],[115,116,114,117,99,116],[112,117,98],[108,101,116],[109,117,116],[105,102],[101,108,115,101],[119,104,105,108,101],[108,111,111,112],[98,114,101,97,107],[99,111,110,116,105,110,117,101],[114,101,116,117,114,110],[100,114,111,112],[116,114,117,101],[102,97,108,115,101],[105,110,116],[98,111,111,108]]
def nAk (t:Bs):List Bs→Bool
 | []=>false
 | w::r=>bif pB t w then true else nAk t r
def isWord (t:Bs):Bool:=nAk t kB7
theorem aAe (N:Nat) (t:Bs) (h:Heap):f172 N t h=some (isWord t,h):=by
 unfold f172 isWord kB7;simp only [nAk]
 repeat' (first | rfl | (generalize pB t _=b;cases b <;> simp only [cond_true,cond_false]))
end Qp
namespace Qp
def rAa (p x:Bs):Bool:=decide (p.length≤x.length)&&pB (x.take p.length) p
theorem vAo (N:Nat) (x p:Bs) (h:Heap):f140 N x p h=some (rAa p x,h):=by
 unfold f140 f186;have e:uC (Int.ofNat p.length) (Int.ofNat x.length)=decide (p.length≤x.length):=by
  rw [leI];by_cases q:p.length≤x.length <;> simp [q] <;> omega
 simp only [e,rAa]
 by_cases q:p.length≤x.length
 ·simp only [q,decide_true,cond_true,Bool.true_and]
  rw [show Int.ofNat p.length=(p.length:Int) from rfl,mAk q];rfl
 ·simp only [q,decide_false,cond_false,Bool.false_and];rfl
theorem gA0 {p x:Bs} (h:rAa p x=true):x.take p.length=p∧p.length≤x.length:=by
 simp only [rAa,Bool.and_eq_true,decide_eq_true_eq,yF,beq_iff_eq] at h;exact ⟨h.2,h.1⟩
theorem wAo (N:Nat) (x:Bs) (c:Int) (h:Heap):f141 N x c h=some (Qa.mAh c.toNat.toUInt8 x 0,h):=rfl
def vJ:Bs→Nat
 | []=>0
 | c::r=>if c.toNat=10 then 0 else vJ r+1
def cN (c:UInt8):Bool:=decide (c.toNat=32)||decide (c.toNat=9)||decide (c.toNat=10)
def jD:Bool→Bs→Nat
 | _,[]=>0
 | true,c::r=>if c.toNat=10 then jD false r+1 else jD true r+1
 | false,c::r=>if cN c=true then jD false r+1 else if rAa [47,47] (c::r)=true then jD true r+1 else 0
theorem qAh:∀ t:Bs,vJ t≤t.length
 | []=>Nat.le_refl _
 | c::r=>by have:=qAh r;simp only [vJ,List.length_cons];split <;> omega
theorem rA3:∀ t:Bs,jD true t=vJ t+jD false (t.drop (vJ t))
 | []=>rfl
 | c::r=>by
  have ih:=rA3 r
  by_cases q:c.toNat=10
  ·have hb:cN c=true:=by simp [cN,q]
   simp only [vJ,q,if_true,List.drop_zero,Nat.zero_add,jD,hb]
  ·simp only [vJ,q,if_false,jD,List.drop_succ_cons];omega
theorem lK:∀ (t:Bs) (b:Bool),jD b t≤t.length
 | [],b=>by cases b <;> simp [jD]
 | c::r,b=>by
  have h1:=lK r true;have h2:=lK r false
  cases b with
  | true=>simp only [jD,List.length_cons];split <;> omega
  | false=>
   simp only [jD,List.length_cons]
   split
   ·omega
   ·split <;> omega
theorem bB0 {c:UInt8} {r:Bs} (h:rAa [47,47] (c::r)=true):c.toNat=47∧∃ r',r=47::r':=by
 obtain ⟨h1,h2⟩:=gA0 h
 cases r with
 | nil=>simp at h2
 | cons d r'=>simp at h1;exact ⟨by rw [h1.1];rfl,r',by rw [h1.2]⟩
theorem yAo {t:Bs} (h:rAa [47,47] t=true):jD false t=jD true t∧2≤vJ t:=by
 cases t with
 | nil=>simp [rAa] at h
 | cons c r=>
  obtain ⟨h1,r',rfl⟩:=bB0 h;have hb:cN c=false:=by simp [cN,h1]
  have e:(47:UInt8).toNat=47:=rfl;refine ⟨by simp [jD,hb,h,h1],?_⟩;simp [vJ,h1,e]
theorem rAh:∀ (t:Bs) (k:Nat),Qa.mAh 10 t k=if vJ t<t.length then ((k+vJ t:Nat):Int) else -1
 | [],k=>rfl
 | c::r,k=>by
  have ih:=rAh r (k+1);have e:(10:UInt8).toNat=10:=rfl;simp only [Qa.mAh,e]
  by_cases q:c.toNat=10
  ·have:Nat.beq c.toNat 10=true:=by rw [q];rfl
   simp only [this,cond_true,vJ,q,if_true,List.length_cons];rw [if_pos (Nat.succ_pos _)];simp
  ·have:Nat.beq c.toNat 10=false:=by
    cases hb:Nat.beq c.toNat 10 with
    | false=>rfl
    | true=>exact absurd (Nat.eq_of_beq_eq_true hb) q
   simp only [this,cond_false,vJ,q,if_false,List.length_cons,ih]
   by_cases z:vJ r<r.length
   ·rw [if_pos z,if_pos (by omega)];congr 1;omega
   ·rw [if_neg z,if_neg (by omega)]
theorem yQ (c:UInt8) (n:Nat):pA (c.toNat:Int) (n:Int)=decide (c.toNat=n):=by
 rw [eqI];by_cases q:c.toNat=n <;> simp [q] <;> omega
theorem oAk {N:Nat} {s:Bs} (hs:s.length≤3000000) (h:Heap):∀ (M i:Nat),i≤s.length→s.length-i<M→
  ∃ o a b,nAh N M s (i:Int) 0 h=some (o,(a,b,()),h)∧(bif mD o (.exit 0) then a else b)=((i+jD false (s.drop i):Nat):Int):=by
 intro M
 induction M with
 | zero=>intro i _ h;omega
 | succ M ih=>
  intro i hi hM;rw [rAd];unfold uA5;simp only [tP]
  by_cases q:i<s.length
  ·simp only [q,decide_true,cond_true]
   rw [qH q];have b32:=yQ s[i] 32;have b9:=yQ s[i] 9;have b10:=yQ s[i] 10;rw [show ((32:Nat):Int)=32 from rfl] at b32;rw [show ((9:Nat):Int)=9 from rfl] at b9;rw [show ((10:Nat):Int)=10 from rfl] at b10;have nx:cN s[i]=true→((i+1+jD false (s.drop (i+1)):Nat):Int)=((i+jD false (s.drop i):Nat):Int):=fun hb=>by
    rw [drop_cons q];simp only [jD,hb,if_true];congr 1;omega
   obtain ⟨o,a,b,e1,e2⟩:=ih (i+1) q (by omega);simp only [b32]
   by_cases q1:(s[i]).toNat=32
   ·simp only [q1,decide_true,cond_true]
    rw [rB (by omega)];exact ⟨o,a,b,e1,e2.trans (nx (by simp [cN,q1]))⟩
   simp only [q1,decide_false,cond_false];rw [qH q];simp only [b9]
   by_cases q2:(s[i]).toNat=9
   ·simp only [q2,decide_true,cond_true]
    rw [rB (by omega)];exact ⟨o,a,b,e1,e2.trans (nx (by simp [cN,q2]))⟩
   simp only [q2,decide_false,cond_false];rw [qH q];simp only [b10]
   by_cases q3:(s[i]).toNat=10
   ·simp only [q3,decide_true,cond_true]
    rw [rB (by omega)];exact ⟨o,a,b,e1,e2.trans (nx (by simp [cN,q3]))⟩
   simp only [q3,decide_false,cond_false];rw [nU hi];simp only [fA,mB,vAo,aA];have hb:cN s[i]=false:=by simp [cN,q1,q2,q3]
   cases hp:rAa [47,47] (s.drop i) with
   | false=>
    simp only [cond_false];refine ⟨_,_,_,rfl,?_⟩;rw [drop_cons q] at hp ⊢;simp only [jD,hb,hp,if_false,Bool.false_eq_true,Nat.add_zero];rfl
   | true=>
    simp only [cond_true];have hr:=yAo hp;have hl:=qAh (s.drop i);rw [List.length_drop] at hl;rw [nU hi];simp only [fA,mB,wAo,aA];rw [show (10:Int).toNat.toUInt8=10 from rfl,rAh];rw [hr.1,rA3]
    by_cases z:vJ (s.drop i)<(s.drop i).length
    ·rw [if_pos z]
     have:uB ((0+vJ (s.drop i):Nat):Int) 0=false:=by rw [ltI];simp
     simp only [this,cond_false];rw [show ((i:Int)+((0+vJ (s.drop i):Nat):Int))=((i+vJ (s.drop i):Nat):Int) by simp,yS (by omega)];obtain ⟨o,a,b,e1,e2⟩:=ih (i+vJ (s.drop i)) (by omega) (by omega);refine ⟨o,a,b,e1,e2.trans ?_⟩;rw [List.drop_drop];congr 1;omega
    ·rw [if_neg z]
     have:uB (-1) 0=true:=rfl
     simp only [this,cond_true];refine ⟨_,_,_,rfl,?_⟩;rw [List.length_drop] at z;rw [show (s.drop i).drop (vJ (s.drop i))=[] from List.drop_of_length_le (by rw [List.length_drop];omega)];show (Int.ofNat s.length)=_;simp only [jD,Nat.add_zero]
     have:i+vJ (s.drop i)=s.length:=by omega
     rw [this];rfl
  ·simp only [q,decide_false,cond_false]
   refine ⟨_,_,_,rfl,?_⟩;rw [List.drop_of_length_le (by omega)];simp [jD]
theorem nAx {N:Nat} {s:Bs} (hs:s.length≤3000000) (hN:s.length<N) {i:Nat} (hi:i≤s.length) (h:Heap):f90 N s (i:Int) h=some (((i+jD false (s.drop i):Nat):Int),h):=by
 unfold f90;obtain ⟨o,a,b,e1,e2⟩:=oAk hs h N i hi (by omega);rw [e1];simp only [yB]
 cases ho:mD o (.exit 0) with
 | true=>rw [ho] at e2;simp only [cond_true] at e2 ⊢;rw [e2]
 | false=>rw [ho] at e2;simp only [cond_false] at e2 ⊢;rw [e2]
end Qp
namespace Qp
theorem sub_eq (s:Bs) (i n:Nat):(s.take (i+n)).drop i=(s.drop i).take n:=by rw [List.drop_take];congr 1;omega
def dP (p:UInt8→Bool):Bs→Bool
 | []=>false
 | c::_=>p c
def dN (t:Bs):Bool:=decide (1≤t.length)&&decide (t.length≤32)&&dP bD t&&decide (runN t=t.length)
def yG (t:Bs):Bool:=dN t&&!isWord t
def tW:Bs→Nat→Nat
 | [],v=>v
 | c::r,v=>tW r (v * 10+(c.toNat-48))
theorem aAp:∀ (t:Bs) (v:Nat),v≤tW t v
 | [],v=>Nat.le_refl _
 | c::r,v=>by have:=aAp r (v * 10+(c.toNat-48));simp only [tW];omega
def iA0 (t:Bs):Bool:=t.all oD&&Nat.ble (tW t 0) 2147483647&&!(decide (1<t.length)&&dP (fun c=>decide (c.toNat=48)) t)
theorem u8_in {x:Int} (h1:0≤x) (h2:x≤255):bB .u8 x=x:=by
 rw [iJ];exact IntWalk.u8_in x ⟨h1,h2⟩
theorem bAp {c:UInt8} (h:oD c=true) {v:Nat} (hv:v≤3000000000):bB .i64 (bB .i64 ((v:Int) * 10)+bB .i64 (bB .u8 ((c.toNat:Int)-48)))=((v * 10+(c.toNat-48):Nat):Int):=by
 simp only [oD,decide_eq_true_eq] at h;rw [u8_in (by omega) (by omega),lD (x:=(c.toNat:Int)-48) (by omega) (by omega),lD (x:=(v:Int) * 10) (by omega) (by omega),lD (by omega) (by omega)];omega
def tkc (k:Int) (x:Bs) (a:Int):List AV:=[.int .i64 k,.str x,.int .i64 a]
theorem cAv {N:Nat} {s:Bs} (hs:s.length≤3000000) {i j A:Nat} (hj:j≤s.length) {H:Heap} {k0:Int} {x0:Bs} {a0:Int} (hA:H.own A (tkc k0 x0 a0)):∀ (M k v:Nat),k≤j→j-k<M→v≤2147483647→
  yA5 N M s (i:Int) (some (A,0)) 0 (j:Int) (v:Int) (k:Int) H=bif (((s.take j).drop k).all oD&&Nat.ble (tW ((s.take j).drop k) v) 2147483647) then some (.exit 0,(s,(i:Int),some (A,0),0,(j:Int),()),H) else some (.ret,(s,(i:Int),some (A,0),0,(j:Int),()),H.put A (.row (tkc 0 [] 0) .own)):=by
 intro M
 induction M with
 | zero=>intro k v _ h;omega
 | succ M ih=>
  intro k v hk hM hv;rw [oAa];unfold bA0;simp only [pG];have hst:H.store (A,0) [.int .i64 0,.str [],.int .i64 0]=some (H.put A (.row (tkc 0 [] 0) .own)):=hA.store rfl
  by_cases q:k<j
  ·simp only [q,decide_true,cond_true]
   have qk:k<s.length:=by omega
   have et:(s.take j).drop k=s[k]::(s.take j).drop (k+1):=by
    rw [List.drop_eq_getElem_cons (by rw [List.length_take];omega),List.getElem_take]
   rw [et];rw [qH qk];have l48:uB ((s[k]).toNat:Int) 48=decide ((s[k]).toNat<48):=by
    rw [ltI];by_cases z:(s[k]).toNat<48 <;> simp [z] <;> omega
   have l57:uB 57 ((s[k]).toNat:Int)=decide (57<(s[k]).toNat):=by
    rw [ltI];by_cases z:57<(s[k]).toNat <;> simp [z] <;> omega
   simp only [l48]
   by_cases z1:(s[k]).toNat<48
   ·have hd:oD s[k]=false:=by simp [oD];omega
    simp only [z1,decide_true,cond_true,bA,hst,List.all_cons,hd,Bool.false_and,cond_false]
   simp only [z1,decide_false,cond_false];rw [qH qk];simp only [l57]
   by_cases z2:57<(s[k]).toNat
   ·have hd:oD s[k]=false:=by simp [oD];omega
    simp only [z2,decide_true,cond_true,bA,hst,List.all_cons,hd,Bool.false_and,cond_false]
   simp only [z2,decide_false,cond_false];have hd:oD s[k]=true:=by simp [oD];omega
   rw [qH qk,bAp hd (by omega)];have lm:uB 2147483647 ((v * 10+((s[k]).toNat-48):Nat):Int)=decide (2147483647<v * 10+((s[k]).toNat-48)):=by
    rw [ltI];by_cases z:2147483647<v * 10+((s[k]).toNat-48) <;> simp only [z,decide_true,decide_false,decide_eq_true_eq,decide_eq_false_iff_not] <;> omega
   rw [lm];simp only [List.all_cons,hd,Bool.true_and,tW]
   by_cases z3:2147483647<v * 10+((s[k]).toNat-48)
   ·have:=aAp ((s.take j).drop (k+1)) (v * 10+((s[k]).toNat-48))
    have hn:Nat.ble (tW ((s.take j).drop (k+1)) (v * 10+((s[k]).toNat-48))) 2147483647=false:=by
     cases hb:Nat.ble (tW ((s.take j).drop (k+1)) (v * 10+((s[k]).toNat-48))) 2147483647 with
     | false=>rfl
     | true=>rw [Nat.ble_eq] at hb;omega
    simp only [z3,decide_true,cond_true,bA,hst,hn,Bool.and_false,cond_false]
   ·simp only [z3,decide_false,cond_false]
    rw [rB (by omega)];exact ih (k+1) _ q (by omega) (by omega)
  ·simp only [q,decide_false,cond_false]
   have:(s.take j).drop k=[]:=List.drop_of_length_le (by rw [List.length_take];omega)
   rw [this];have hb:Nat.ble v 2147483647=true:=by rw [Nat.ble_eq];exact hv
   simp only [List.all_nil,tW,hb,Bool.and_self,cond_true]
def bAe (i:Nat) (r:zQ×Int×Unit) (o:Option (Int×Bs×Nat)):Prop:=match o with
 | some (k,x,n)=>r=((k,x,(i:Int),()),((i+n:Nat):Int),())
 | none=>r.2.1=0
theorem nJ {H:Heap} {A:Nat} {k:Int} {x:Bs} {a:Int} (hA:H.own A (tkc k x a)) {β:Type} (K:zQ→Option β):iA (.val zG) (H.cells (A,0) 3) K=K (k,x,a,()):=by
 have:H.cells (A,0) 3=some (.agg (tkc k x a)):=hA.cells (j:=0) (m:=3) (Nat.le_refl _)
 rw [this];simp [tkc]
theorem pAk {H:Heap} {A:Nat} {cs:List AV} (hA:H.own A cs) (hl:cs.length=3) (k:Int) (x:Bs) (a:Int) {β:Type} (K:zQ→Heap→Option β) :
  (uA (H.store (A,0) [.int .i64 k,.str x,.int .i64 a]) fun h7=>iA (.val zG) (h7.cells (A,0) 3) fun x8=>K x8 h7)=K (k,x,a,()) (H.put A (.row (tkc k x a) .own)):=by
 have:H.store (A,0) [.int .i64 k,.str x,.int .i64 a]=some (H.put A (.row (tkc k x a) .own)):=hA.store (by rw [hl];rfl)
 rw [this,bA,nJ (iB hA _)]
section
variable {N:Nat} {s:Bs} (hs:s.length≤3000000) (hN:s.length<N) {i:Nat}
include hs hN
theorem cAe (hi:i≤s.length) (h:Heap):∃ r h',f142 N s (i:Int) h=some (r,h')∧Chg [] h h'∧bAe i r (let n:=runN (s.drop i);let x:=(s.drop i).take n;if isWord x=true then some (2,x,n) else if n≤32 then some (1,x,n) else none):=by
 unfold f142;have hn:=wQ (s.drop i);rw [List.length_drop] at hn;have hxl:((s.drop i).take (runN (s.drop i))).length=runN (s.drop i):=by rw [List.length_take,List.length_drop];omega
 have o1:=wA h (tkc 0 [] 0);have c1:=vA h (.row (tkc 0 [] 0) .own);have e1:h.push (.row [(.int .i64 0),(.str []),(.int .i64 0)] .own)=h.push (.row (tkc 0 [] 0) .own):=rfl;rw [e1];generalize h.push (.row (tkc 0 [] 0) .own)=h1 at *;dsimp only;rw [dA6 hs hN hi,aA,gO (by omega) (by omega),sub_eq];simp only [fA,mB,aAe,aA];have cp:∀ k x a,Chg [] h (h1.put h.next (.row (tkc k x a) .own)):=fun k x a=>c1.put (.inr (Nat.le_refl _)) _
 cases hw:isWord ((s.drop i).take (runN (s.drop i))) with
 | true=>
  simp only [cond_true,if_true];rw [pAk o1 rfl];exact ⟨_,_,rfl,cp _ _ _,rfl⟩
 | false=>
  simp only [cond_false,Bool.false_eq_true,if_false];rw [hxl];have e2:uC (Int.ofNat (runN (s.drop i))) 32=decide (runN (s.drop i)≤32):=by
   rw [leI];by_cases q:runN (s.drop i)≤32 <;> simp [q] <;> omega
  rw [e2]
  by_cases q:runN (s.drop i)≤32
  ·simp only [q,decide_true,cond_true,if_true]
   rw [pAk o1 rfl];exact ⟨_,_,rfl,cp _ _ _,rfl⟩
  ·simp only [q,decide_false,cond_false,if_false]
   rw [pAk o1 rfl];exact ⟨_,_,rfl,cp _ _ _,rfl⟩
theorem cAp (hi:i<s.length) (hd0:oD s[i]=true) (h:Heap):∃ r h',f143 N s (i:Int) h=some (r,h')∧Chg [] h h'∧bAe i r (let n:=runN (s.drop i);let x:=(s.drop i).take n;if iA0 x=true then some (4,x,n) else none):=by
 unfold f143;have hn:=wQ (s.drop i);rw [List.length_drop] at hn;have o1:=wA h (tkc 0 [] 0);have c1:=vA h (.row (tkc 0 [] 0) .own);have e1:h.push (.row [(.int .i64 0),(.str []),(.int .i64 0)] .own)=h.push (.row (tkc 0 [] 0) .own):=rfl;rw [e1];generalize h.push (.row (tkc 0 [] 0) .own)=h1 at *;dsimp only;have hn1:1≤runN (s.drop i):=by
  rw [drop_cons hi];simp only [runN]
  have:vQ s[i]=true:=by simp [vQ,hd0]
  simp [this]
 rw [dA6 hs hN (by omega),aA];have lp:=cAv (N:=N) hs (i:=i) (j:=i+runN (s.drop i)) (by omega) o1 N i 0 (by omega) (by omega) (by omega);rw [show ((0:Nat):Int)=0 from rfl] at lp;rw [lp,sub_eq];have hxl:((s.drop i).take (runN (s.drop i))).length=runN (s.drop i):=by rw [List.length_take,List.length_drop];omega
 have hhd:dP (fun c=>decide (c.toNat=48)) ((s.drop i).take (runN (s.drop i)))=decide ((s[i]).toNat=48):=by
  obtain ⟨m,hm⟩:∃ m,runN (s.drop i)=m+1:=⟨runN (s.drop i)-1,by omega⟩;rw [hm,drop_cons hi,List.take_succ_cons];rfl
 have cp:∀ k x a,Chg [] h (h1.put h.next (.row (tkc k x a) .own)):=fun k x a=>c1.put (.inr (Nat.le_refl _)) _;unfold iA0;rw [hhd,hxl]
 cases hok:(((s.drop i).take (runN (s.drop i))).all oD&&Nat.ble (tW ((s.drop i).take (runN (s.drop i))) 0) 2147483647) with
 | false=>
  simp only [Bool.false_eq_true,if_false,yB,Bool.false_and,cond_false];simp only [rZ,cond_false,bA];rw [nJ (iB o1 _)];exact ⟨_,_,rfl,cp _ _ _,rfl⟩
 | true=>
  simp only [yB,Bool.true_and,cond_true];simp only [fE,decide_true,cond_true];rw [qH hi];have b48:=yQ s[i] 48;rw [show ((48:Nat):Int)=48 from rfl] at b48;have w1:bB .i64 (((i+runN (s.drop i):Nat):Int)-(i:Int))=((runN (s.drop i):Nat):Int):=by
   rw [show ((i+runN (s.drop i):Nat):Int)-(i:Int)=((runN (s.drop i):Nat):Int) by omega,yS (by omega)]
  have w2:uB 1 ((runN (s.drop i):Nat):Int)=decide (1<runN (s.drop i)):=by
   rw [ltI];by_cases q:1<runN (s.drop i) <;> simp [q] <;> omega
  rw [b48,w1,w2]
  by_cases z:(s[i]).toNat=48
  ·simp only [z,decide_true,cond_true,Bool.and_true]
   by_cases z2:1<runN (s.drop i)
   ·simp only [z2,decide_true,cond_true,bA,Bool.not_true,Bool.false_eq_true,if_false]
    rw [pAk o1 rfl];exact ⟨_,_,rfl,cp _ _ _,rfl⟩
   ·simp only [z2,decide_false,cond_false,bA,Bool.not_false,if_true]
    rw [gO (by omega) (by omega),sub_eq];simp only [fA,mB];rw [pAk o1 rfl];exact ⟨_,_,rfl,cp _ _ _,rfl⟩
  ·simp only [z,decide_false,cond_false,Bool.and_false,Bool.not_false,if_true,bA]
   rw [gO (by omega) (by omega),sub_eq];simp only [fA,mB];rw [pAk o1 rfl];exact ⟨_,_,rfl,cp _ _ _,rfl⟩
theorem dB0 (hi:i<s.length) (h:Heap):∃ r h',f144 N s (i:Int) h=some (r,h')∧Chg [] h h'∧bAe i r (let t:=s.drop (i+1);let n:=runN t;if dP bD t=true then (if n≤32 then some (3,t.take n,n+1) else none) else none):=by
 unfold f144;have o1:=wA h (tkc 0 [] 0);have c1:=vA h (.row (tkc 0 [] 0) .own);have e1:h.push (.row [(.int .i64 0),(.str []),(.int .i64 0)] .own)=h.push (.row (tkc 0 [] 0) .own):=rfl;rw [e1];generalize h.push (.row (tkc 0 [] 0) .own)=h1 at *;dsimp only;have cp:∀ k x a,Chg [] h (h1.put h.next (.row (tkc k x a) .own)):=fun k x a=>c1.put (.inr (Nat.le_refl _)) _;rw [rB (by omega)];have e2:pA ((i+1:Nat):Int) (Int.ofNat s.length)=decide (i+1=s.length):=by
  rw [eqI];by_cases q:i+1=s.length
  ·simp only [q,decide_true];simp
  ·simp only [q,decide_false,decide_eq_false_iff_not];intro e;exact q (Int.ofNat.inj e)
 rw [e2]
 by_cases q:i+1=s.length
 ·simp only [q,decide_true,cond_true]
  rw [List.drop_of_length_le (Nat.le_refl _)];rw [pAk o1 rfl];exact ⟨_,_,rfl,cp _ _ _,rfl⟩
 ·simp only [q,decide_false,cond_false]
  have hi1:i+1<s.length:=by omega
  rw [qH hi1,yAd,aA];have hh:dP bD (s.drop (i+1))=bD s[i+1]:=by rw [drop_cons hi1];rfl
  rw [hh]
  cases hl:bD s[i+1] with
  | false=>
   simp only [Bool.not_false,cond_true,Bool.false_eq_true,if_false];rw [pAk o1 rfl];exact ⟨_,_,rfl,cp _ _ _,rfl⟩
  | true=>
   simp only [Bool.not_true,cond_false,if_true];have hn:=wQ (s.drop (i+1));rw [List.length_drop] at hn;rw [dA6 hs hN (by omega),aA];have w1:bB .i64 (((i+1+runN (s.drop (i+1)):Nat):Int)-(i:Int))=((1+runN (s.drop (i+1)):Nat):Int):=by
    rw [show ((i+1+runN (s.drop (i+1)):Nat):Int)-(i:Int)=((1+runN (s.drop (i+1)):Nat):Int) by omega,yS (by omega)]
   have w3:bB .i64 (((1+runN (s.drop (i+1)):Nat):Int)-1)=((runN (s.drop (i+1)):Nat):Int):=by
    rw [show ((1+runN (s.drop (i+1)):Nat):Int)-1=((runN (s.drop (i+1)):Nat):Int) by omega,yS (by omega)]
   have w2:uB 32 ((runN (s.drop (i+1)):Nat):Int)=decide (32<runN (s.drop (i+1))):=by
    rw [ltI];by_cases q:32<runN (s.drop (i+1)) <;> simp [q] <;> omega
   rw [w1,w3,w2]
   by_cases z:32<runN (s.drop (i+1))
   ·simp only [z,decide_true,cond_true]
    rw [if_neg (by omega)];rw [pAk o1 rfl];exact ⟨_,_,rfl,cp _ _ _,rfl⟩
   ·simp only [z,decide_false,cond_false]
    rw [if_pos (by omega)];rw [gO (by omega) (by omega),sub_eq];simp only [fA,mB];rw [pAk o1 rfl];refine ⟨_,_,rfl,cp _ _ _,?_⟩;show _=_;rw [show i+(runN (s.drop (i+1))+1)=i+1+runN (s.drop (i+1)) by omega]
end
end Qp
namespace Qp
def two:List Bs:=[[58,58],[45,62],[61,61]]
def bB5:Bs:=[40,41,123,125,60,62,44,59,58,46,42,38,43,45,61,33]
def cB5 (c:UInt8):Bs→Bool
 | []=>false
 | x::r=>bif Nat.beq x.toNat c.toNat then true else cB5 c r
def jA0 (t:Bs):List Bs→Option Bs
 | []=>none
 | p::r=>bif rAa p t then some p else jA0 t r
def eL (t:Bs):Option (Int×Bs×Nat):=match jA0 t two with
 | some p=>some (5,p,2)
 | none=>match t with
  | []=>none
  | c::_=>if cB5 c bB5=true then some (5,[c],1) else none
theorem oU {t:Bs}:∀ {l:List Bs} {p:Bs},jA0 t l=some p→p∈l∧rAa p t=true
 | [],p,h=>by cases h
 | q::r,p,h=>by
  simp only [jA0] at h
  cases hq:rAa q t with
  | true=>rw [hq] at h;simp only [cond_true,Option.some.injEq] at h;subst h;exact ⟨List.mem_cons_self,hq⟩
  | false=>
   rw [hq] at h;simp only [cond_false] at h;obtain ⟨h1,h2⟩:=oU h;exact ⟨List.mem_cons_of_mem _ h1,h2⟩
theorem eB0:∀ p∈two,p.length=2:=by decide
theorem dAp {t p:Bs} (h:jA0 t two=some p):p=t.take 2∧2≤t.length:=by
 obtain ⟨h1,h2⟩:=oU h;obtain ⟨h3,h4⟩:=gA0 h2;rw [eB0 p h1] at h3 h4;exact ⟨h3.symm,h4⟩
theorem eAp (c:UInt8):∀ (l:Bs) (k:Nat),uB (Qa.mAh c l k) 0 = !cB5 c l
 | [],k=>rfl
 | x::r,k=>by
  simp only [Qa.mAh,cB5]
  cases Nat.beq x.toNat c.toNat with
  | true=>simp only [cond_true,Bool.not_true];rw [ltI];simp
  | false=>simp only [cond_false];exact eAp c r (k+1)
section
variable {N:Nat} {s:Bs}
theorem fAp (hs:s.length≤3000000) {i A B:Nat} (hi:i≤s.length) {H:Heap} {l:List Bs} (hB:H.is B (l.map AV.str)) (hl:l.length≤1000) (hA:H.own A (tkc 0 [] 0)):∀ (M j:Nat),j≤l.length→l.length-j<M→
  aA6 N M s (i:Int) (some (A,0)) 0 ⟨some (B,0),l.length,l.length,1⟩ (Int.ofNat l.length) (j:Int) H=match jA0 (s.drop i) (l.drop j) with
   | some p=>some (.ret,(s,(i:Int),some (A,0),((i+2:Nat):Int),()),H.put A (.row (tkc 5 p (i:Int)) .own))
   | none=>some (.exit 0,(s,(i:Int),some (A,0),0,()),H):=by
 intro M
 induction M with
 | zero=>intro j _ h;omega
 | succ M ih=>
  intro j hj hM;rw [pAa];unfold dA0;simp only [tP]
  by_cases q:j<l.length
  ·simp only [q,decide_true,cond_true]
   rw [show ((j:Nat):Int)=Int.ofNat j from rfl,iAa _ _ _ _ _ q];simp only [Nat.zero_add,Nat.mul_one];have hc:=hB.cell j;rw [List.drop_eq_getElem_cons (by simpa using q)] at hc;simp only [List.head?_cons,List.getElem_map] at hc;rw [hc];simp only [fA,mB];rw [nU hi];simp only [fA,mB,vAo,aA];rw [List.drop_eq_getElem_cons q];simp only [jA0]
   cases hq:rAa l[j] (s.drop i) with
   | true=>
    simp only [cond_true,bA];have w3:bB .i64 ((i:Int)+2)=((i+2:Nat):Int):=by rw [lD (by omega) (by omega)];rfl
    rw [w3,show H.store (A,0) [.int .i64 5,.str l[j],.int .i64 (i:Int)]=some (H.put A (.row (tkc 5 l[j] (i:Int)) .own)) from hA.store rfl];rfl
   | false=>
    simp only [cond_false];rw [show Int.ofNat j=(j:Int) from rfl,rB (by omega)];exact ih (j+1) q (by omega)
  ·simp only [q,decide_false,cond_false]
   rw [show l.drop j=[] from List.drop_of_length_le (by omega)];rfl
theorem eA6 (hs:s.length≤3000000) (hN:s.length<N) (hN2:20≤N) {i:Nat} (hi:i<s.length) (h:Heap):∃ r h',f145 N s (i:Int) h=some (r,h')∧Chg [] h h'∧bAe i r (eL (s.drop i)):=by
 unfold f145;have o1:=wA h (tkc 0 [] 0);have c1:=vA h (.row (tkc 0 [] 0) .own);have e1:h.push (.row [(.int .i64 0),(.str []),(.int .i64 0)] .own)=h.push (.row (tkc 0 [] 0) .own):=rfl;rw [e1];generalize h.push (.row (tkc 0 [] 0) .own)=h1 at *;have o2:=Heap.is_push h1 (two.map AV.str);have c2:=vA h1 (.row (two.map AV.str) .own);have o3:=o1.chg c2 (by simp);have e2:h1.push (.row [(.str [58,58]),(.str [45,62]),(.str [61,61])] .own)=h1.push (.row (two.map AV.str) .own):=rfl;dsimp only;rw [e2];have n1:(h1.push (.row (two.map AV.str) .own)).next=h1.next+1:=rfl;generalize h1.push (.row (two.map AV.str) .own)=h2 at *;have lp:=fAp (N:=N) hs (Nat.le_of_lt hi) o2 (by decide) o3 N 0 (Nat.zero_le _) (by show 3-0<N;omega);rw [show ((0:Nat):Int)=0 from rfl,show (⟨some (h1.next,0),two.length,two.length,1⟩:SL)=⟨some (h1.next,0),3,3,1⟩ from rfl,show Int.ofNat two.length=Int.ofNat 3 from rfl,List.drop_zero] at lp;rw [lp];have c3:=c1.trans c2;have cp:∀ k x a,Chg [] h (h2.put h.next (.row (tkc k x a) .own)):=fun k x a=>c3.put (.inr (Nat.le_refl _)) _;unfold eL
 cases hf:jA0 (s.drop i) two with
 | some p=>
  simp only [yB,rZ,cond_false,bA];rw [nJ (iB o3 _)];exact ⟨_,_,rfl,cp _ _ _,rfl⟩
 | none=>
  simp only [yB,fE,decide_true,cond_true];rw [qH hi,wAo,aA];have eb:((s[i]).toNat:Int).toNat.toUInt8=s[i]:=by simp
  rw [eb];rw [drop_cons hi];have en:=eAp s[i] bB5 0;unfold bB5 at en;rw [en];dsimp only
  cases hm:cB5 s[i] [40,41,123,125,60,62,44,59,58,46,42,38,43,45,61,33] with
  | false=>
   simp only [Bool.not_false,cond_true,bA];rw [pAk o3 rfl];refine ⟨_,_,rfl,cp _ _ _,?_⟩;simp only [bB5,hm,Bool.false_eq_true,if_false];rfl
  | true=>
   simp only [Bool.not_true,cond_false,bA];rw [rB (by omega),gO (by omega) (by omega),sub_eq];simp only [fA,mB];rw [pAk o3 rfl];refine ⟨_,_,rfl,cp _ _ _,?_⟩;simp only [bB5,hm,if_true];show _=_;rw [drop_cons hi];rfl
theorem cW {t:Bs} {k:Int} {x:Bs} {n:Nat} (h:eL t=some (k,x,n)):k=5∧x=t.take n∧1≤n∧n≤t.length:=by
 unfold eL at h
 cases hf:jA0 t two with
 | some p=>
  rw [hf] at h;simp only [Option.some.injEq,Prod.mk.injEq] at h;obtain ⟨rfl,rfl,rfl⟩:=h;obtain ⟨h1,h2⟩:=dAp hf;exact ⟨rfl,h1,by omega,h2⟩
 | none=>
  rw [hf] at h
  cases t with
  | nil=>cases h
  | cons c r=>
   simp only at h
   split at h
   ·simp only [Option.some.injEq,Prod.mk.injEq] at h
    obtain ⟨rfl,rfl,rfl⟩:=h;exact ⟨rfl,rfl,Nat.le_refl _,by simp⟩
   ·cases h
end
end Qp
namespace Qp
theorem kA0 (a b:Nat):uC (a:Int) (b:Int)=decide (a≤b):=by
 rw [leI];by_cases q:a≤b <;> simp [q] <;> omega
def pU (t:Bs):Option (Int×Bs×Nat):=let n:=runN t;let x:=t.take n;if isWord x=true then some (2,x,n) else if n≤32 then some (1,x,n) else none
def tA3 (t:Bs):Option (Int×Bs×Nat):=let n:=runN t;let x:=t.take n;if iA0 x=true then some (4,x,n) else none
def qU (t:Bs):Option (Int×Bs×Nat):=let n:=runN t;if dP bD t=true then (if n≤32 then some (3,t.take n,n+1) else none) else none
def jF:Bs→Option (Int×Bs×Nat)
 | []=>none
 | c::r=>if bD c=true then pU (c::r) else if oD c=true then tA3 (c::r) else if c.toNat=39 then qU r else eL (c::r)
section
variable {N:Nat} {s:Bs}
theorem lB7 (hs:s.length≤3000000) (hN:s.length<N) (hN2:20≤N) {i:Nat} (hi:i<s.length) (h:Heap):∃ r h',f91 N s (i:Int) h=some (r,h')∧Chg [] h h'∧bAe i r (jF (s.drop i)):=by
 unfold f91;have o1:=wA h (tkc 0 [] 0);have c1:=vA h (.row (tkc 0 [] 0) .own);have e1:h.push (.row [(.int .i64 0),(.str []),(.int .i64 0)] .own)=h.push (.row (tkc 0 [] 0) .own):=rfl;rw [e1];generalize h.push (.row (tkc 0 [] 0) .own)=h1 at *;dsimp only;rw [qH hi];have l97:uC 97 ((s[i]).toNat:Int)=decide (97≤(s[i]).toNat):=kA0 97 _;have l122:uC ((s[i]).toNat:Int) 122=decide ((s[i]).toNat≤122):=kA0 _ 122;have l65:uC 65 ((s[i]).toNat:Int)=decide (65≤(s[i]).toNat):=kA0 65 _;have l90:uC ((s[i]).toNat:Int) 90=decide ((s[i]).toNat≤90):=kA0 _ 90;have l49:uC 49 ((s[i]).toNat:Int)=decide (49≤(s[i]).toNat):=kA0 49 _;have l57:uC ((s[i]).toNat:Int) 57=decide ((s[i]).toNat≤57):=kA0 _ 57;have e95:pA ((s[i]).toNat:Int) 95=decide ((s[i]).toNat=95):=yQ _ 95;have e48:pA ((s[i]).toNat:Int) 48=decide ((s[i]).toNat=48):=yQ _ 48;have e39:pA ((s[i]).toNat:Int) 39=decide ((s[i]).toNat=39):=yQ _ 39;have nL:bD s[i]=true→jF (s.drop i)=pU (s.drop i):=fun q=>by rw [drop_cons hi];simp only [jF,q,if_true]
 have nD:bD s[i]=false→oD s[i]=true→jF (s.drop i)=tA3 (s.drop i):=fun q q2=>by rw [drop_cons hi];simp [jF,q,q2]
 have nF:bD s[i]=false→oD s[i]=false→(s[i]).toNat=39→jF (s.drop i)=qU (s.drop (i+1)):=fun q q2 q3=>by rw [drop_cons hi];simp [jF,q,q2,q3]
 have nS:bD s[i]=false→oD s[i]=false→(s[i]).toNat≠39→jF (s.drop i)=eL (s.drop i):=fun q q2 q3=>by rw [drop_cons hi];simp [jF,q,q2,q3]
 unfold pU at nL;unfold tA3 at nD;unfold qU at nF
 by_cases q1:97≤(s[i]).toNat
 ·by_cases q2:(s[i]).toNat≤122
  ·simp only [eq_self,l97,l122,l65,l90,e95,e48,l49,l57,e39,decide_true,decide_false,cond_true,cond_false,bA,yA,aB,aA,q1,q2]
   obtain ⟨r,h2,e,c2,t⟩:=cAe hs hN (Nat.le_of_lt hi) h1;have o2:=o1.chg c2 (by simp);have hst:h2.store (h.next,0) [(.int .i64 r.1.1),(.str r.1.2.1),(.int .i64 r.1.2.2.1)]=some (h2.put h.next (.row (tkc r.1.1 r.1.2.1 r.1.2.2.1) .own)):=o2.store rfl;simp only [e,aA,bA,hst,yA,aB];rw [nJ (iB o2 _)];refine ⟨_,_,rfl,(c1.trans c2).put (.inr (Nat.le_refl _)) _,?_⟩;show bAe i r _;rw [nL (by first | (unfold bD;simp only [Bool.or_eq_true,decide_eq_true_eq];omega))];exact t
  ·have z3:65≤(s[i]).toNat:=by omega
   have z4:¬ (s[i]).toNat≤90:=by omega
   have z5:¬ (s[i]).toNat=95:=by omega
   have z6:¬ (s[i]).toNat=48:=by omega
   have z7:49≤(s[i]).toNat:=by omega
   have z8:¬ (s[i]).toNat≤57:=by omega
   have z9:¬ (s[i]).toNat=39:=by omega
   have q9:=z9;have nl:bD s[i]=false:=by unfold bD;simp only [Bool.or_eq_false_iff,decide_eq_false_iff_not];omega
   have nd:oD s[i]=false:=by unfold oD;simp only [decide_eq_false_iff_not];omega
   simp only [eq_self,l97,l122,l65,l90,e95,e48,l49,l57,e39,decide_true,decide_false,cond_true,cond_false,bA,yA,aB,aA,q1,q2,z3,z4,z5,z6,z7,z8,z9];obtain ⟨r,h2,e,c2,t⟩:=eA6 hs hN hN2 hi h1;have o2:=o1.chg c2 (by simp);have hst:h2.store (h.next,0) [(.int .i64 r.1.1),(.str r.1.2.1),(.int .i64 r.1.2.2.1)]=some (h2.put h.next (.row (tkc r.1.1 r.1.2.1 r.1.2.2.1) .own)):=o2.store rfl;simp only [e,aA,bA,hst,yA,aB];rw [nJ (iB o2 _)];refine ⟨_,_,rfl,(c1.trans c2).put (.inr (Nat.le_refl _)) _,?_⟩;show bAe i r _;rw [nS nl nd q9];exact t
 ·by_cases q3:65≤(s[i]).toNat
  ·by_cases q4:(s[i]).toNat≤90
   ·simp only [eq_self,l97,l122,l65,l90,e95,e48,l49,l57,e39,decide_true,decide_false,cond_true,cond_false,bA,yA,aB,aA,q1,q3,q4]
    obtain ⟨r,h2,e,c2,t⟩:=cAe hs hN (Nat.le_of_lt hi) h1;have o2:=o1.chg c2 (by simp);have hst:h2.store (h.next,0) [(.int .i64 r.1.1),(.str r.1.2.1),(.int .i64 r.1.2.2.1)]=some (h2.put h.next (.row (tkc r.1.1 r.1.2.1 r.1.2.2.1) .own)):=o2.store rfl;simp only [e,aA,bA,hst,yA,aB];rw [nJ (iB o2 _)];refine ⟨_,_,rfl,(c1.trans c2).put (.inr (Nat.le_refl _)) _,?_⟩;show bAe i r _;rw [nL (by first | (unfold bD;simp only [Bool.or_eq_true,decide_eq_true_eq];omega))];exact t
   ·by_cases q5:(s[i]).toNat=95
    ·have q5b:decide (95=95)=true:=rfl
     simp only [eq_self,l97,l122,l65,l90,e95,e48,l49,l57,e39,decide_true,decide_false,cond_true,cond_false,bA,yA,aB,aA,q1,q3,q4,decide_eq_true q5];obtain ⟨r,h2,e,c2,t⟩:=cAe hs hN (Nat.le_of_lt hi) h1;have o2:=o1.chg c2 (by simp);have hst:h2.store (h.next,0) [(.int .i64 r.1.1),(.str r.1.2.1),(.int .i64 r.1.2.2.1)]=some (h2.put h.next (.row (tkc r.1.1 r.1.2.1 r.1.2.2.1) .own)):=o2.store rfl;simp only [e,aA,bA,hst,yA,aB];rw [nJ (iB o2 _)];refine ⟨_,_,rfl,(c1.trans c2).put (.inr (Nat.le_refl _)) _,?_⟩;show bAe i r _;rw [nL (by first | (unfold bD;simp only [Bool.or_eq_true,decide_eq_true_eq];omega))];exact t
    ·have z6:¬ (s[i]).toNat=48:=by omega
     have z7:49≤(s[i]).toNat:=by omega
     have z8:¬ (s[i]).toNat≤57:=by omega
     have z9:¬ (s[i]).toNat=39:=by omega
     have q9:=z9;have nl:bD s[i]=false:=by unfold bD;simp only [Bool.or_eq_false_iff,decide_eq_false_iff_not];omega
     have nd:oD s[i]=false:=by unfold oD;simp only [decide_eq_false_iff_not];omega
     simp only [eq_self,l97,l122,l65,l90,e95,e48,l49,l57,e39,decide_true,decide_false,cond_true,cond_false,bA,yA,aB,aA,q1,q3,q4,q5,z6,z7,z8,z9];obtain ⟨r,h2,e,c2,t⟩:=eA6 hs hN hN2 hi h1;have o2:=o1.chg c2 (by simp);have hst:h2.store (h.next,0) [(.int .i64 r.1.1),(.str r.1.2.1),(.int .i64 r.1.2.2.1)]=some (h2.put h.next (.row (tkc r.1.1 r.1.2.1 r.1.2.2.1) .own)):=o2.store rfl;simp only [e,aA,bA,hst,yA,aB];rw [nJ (iB o2 _)];refine ⟨_,_,rfl,(c1.trans c2).put (.inr (Nat.le_refl _)) _,?_⟩;show bAe i r _;rw [nS nl nd q9];exact t
  ·have z5:¬ (s[i]).toNat=95:=by omega
   have nl:bD s[i]=false:=by unfold bD;simp only [Bool.or_eq_false_iff,decide_eq_false_iff_not];omega
   by_cases q6:(s[i]).toNat=48
   ·have dD:oD s[i]=true:=by unfold oD;simp only [decide_eq_true_eq];omega
    simp only [eq_self,l97,l122,l65,l90,e95,e48,l49,l57,e39,decide_true,decide_false,cond_true,cond_false,bA,yA,aB,aA,q1,q3,z5,decide_eq_true q6];obtain ⟨r,h2,e,c2,t⟩:=cAp hs hN hi dD h1;have o2:=o1.chg c2 (by simp);have hst:h2.store (h.next,0) [(.int .i64 r.1.1),(.str r.1.2.1),(.int .i64 r.1.2.2.1)]=some (h2.put h.next (.row (tkc r.1.1 r.1.2.1 r.1.2.2.1) .own)):=o2.store rfl;simp only [e,aA,bA,hst,yA,aB];rw [nJ (iB o2 _)];refine ⟨_,_,rfl,(c1.trans c2).put (.inr (Nat.le_refl _)) _,?_⟩;show bAe i r _;rw [nD nl dD];exact t
   ·by_cases q7:49≤(s[i]).toNat
    ·by_cases q8:(s[i]).toNat≤57
     ·have dD:oD s[i]=true:=by unfold oD;simp only [decide_eq_true_eq];omega
      simp only [eq_self,l97,l122,l65,l90,e95,e48,l49,l57,e39,decide_true,decide_false,cond_true,cond_false,bA,yA,aB,aA,q1,q3,z5,q6,q7,q8];obtain ⟨r,h2,e,c2,t⟩:=cAp hs hN hi dD h1;have o2:=o1.chg c2 (by simp);have hst:h2.store (h.next,0) [(.int .i64 r.1.1),(.str r.1.2.1),(.int .i64 r.1.2.2.1)]=some (h2.put h.next (.row (tkc r.1.1 r.1.2.1 r.1.2.2.1) .own)):=o2.store rfl;simp only [e,aA,bA,hst,yA,aB];rw [nJ (iB o2 _)];refine ⟨_,_,rfl,(c1.trans c2).put (.inr (Nat.le_refl _)) _,?_⟩;show bAe i r _;rw [nD nl dD];exact t
     ·have z9:¬ (s[i]).toNat=39:=by omega
      have q9:=z9;have nd:oD s[i]=false:=by unfold oD;simp only [decide_eq_false_iff_not];omega
      simp only [eq_self,l97,l122,l65,l90,e95,e48,l49,l57,e39,decide_true,decide_false,cond_true,cond_false,bA,yA,aB,aA,q1,q3,z5,q6,q7,q8,z9];obtain ⟨r,h2,e,c2,t⟩:=eA6 hs hN hN2 hi h1;have o2:=o1.chg c2 (by simp);have hst:h2.store (h.next,0) [(.int .i64 r.1.1),(.str r.1.2.1),(.int .i64 r.1.2.2.1)]=some (h2.put h.next (.row (tkc r.1.1 r.1.2.1 r.1.2.2.1) .own)):=o2.store rfl;simp only [e,aA,bA,hst,yA,aB];rw [nJ (iB o2 _)];refine ⟨_,_,rfl,(c1.trans c2).put (.inr (Nat.le_refl _)) _,?_⟩;show bAe i r _;rw [nS nl nd q9];exact t
    ·have nd:oD s[i]=false:=by unfold oD;simp only [decide_eq_false_iff_not];omega
     by_cases q9:(s[i]).toNat=39
     ·simp only [eq_self,l97,l122,l65,l90,e95,e48,l49,l57,e39,decide_true,decide_false,cond_true,cond_false,bA,yA,aB,aA,q1,q3,z5,q6,q7,decide_eq_true q9]
      obtain ⟨r,h2,e,c2,t⟩:=dB0 hs hN hi h1;have o2:=o1.chg c2 (by simp);have hst:h2.store (h.next,0) [(.int .i64 r.1.1),(.str r.1.2.1),(.int .i64 r.1.2.2.1)]=some (h2.put h.next (.row (tkc r.1.1 r.1.2.1 r.1.2.2.1) .own)):=o2.store rfl;simp only [e,aA,bA,hst,yA,aB];rw [nJ (iB o2 _)];refine ⟨_,_,rfl,(c1.trans c2).put (.inr (Nat.le_refl _)) _,?_⟩;show bAe i r _;rw [nF nl nd q9];exact t
     ·simp only [eq_self,l97,l122,l65,l90,e95,e48,l49,l57,e39,decide_true,decide_false,cond_true,cond_false,bA,yA,aB,aA,q1,q3,z5,q6,q7,q9]
      obtain ⟨r,h2,e,c2,t⟩:=eA6 hs hN hN2 hi h1;have o2:=o1.chg c2 (by simp);have hst:h2.store (h.next,0) [(.int .i64 r.1.1),(.str r.1.2.1),(.int .i64 r.1.2.2.1)]=some (h2.put h.next (.row (tkc r.1.1 r.1.2.1 r.1.2.2.1) .own)):=o2.store rfl;simp only [e,aA,bA,hst,yA,aB];rw [nJ (iB o2 _)];refine ⟨_,_,rfl,(c1.trans c2).put (.inr (Nat.le_refl _)) _,?_⟩;show bAe i r _;rw [nS nl nd q9];exact t
end
end Qp
namespace Qp
abbrev Tok:=Int×Bs×Nat
def tAa (q:Tok):D:=.t [.i q.1,.s q.2.1,.i (q.2.2:Int)]
theorem mB7 (h:Heap) (V:Nat→Prop) (q:Tok):Dt h V (tAa q) (tkc q.1 q.2.1 (q.2.2:Int)):=by
 simp only [tAa,tkc,Dt,Dp];exact ⟨[_],[_,_],rfl,rfl,[_],[_],rfl,rfl,[_],[],rfl,rfl,rfl⟩
theorem dAe {h:Heap} {V:Nat→Prop} {q:Tok} {cs:List AV} (x:Dt h V (tAa q) cs):cs=tkc q.1 q.2.1 (q.2.2:Int):=by
 simp only [tAa,Dt,Dp] at x;obtain ⟨a,b,rfl,rfl,a2,b2,rfl,rfl,a3,b3,rfl,rfl,rfl⟩:=x;rfl
theorem jBe:AppN E 57 61 3 100:=AppN.of (by kernel_rfl)
theorem uA3 {h0 H:Heap} {v:SL} {xs:List Tok} (c:Chg [] h0 H) (x:Ow h0.next H v 3 (xs.map tAa)) (hl:xs.length≤2000000) (k:Int) (t:Bs) (a:Nat) :
  ∃ v' H',(∀ {β:Type} (K:SL→Heap→Option β),fG (.val zV2) (pC E 57 57 (.slice v.a v.len v.cap v.sz) (.slice (some (H.next,0)) 1 1 3) (H.push (.row [(.int .i64 k),(.str t),(.int .i64 (a:Int))] .own))) K=K v' H')∧Ow h0.next H' v' 3 ((xs++[(k,t,a)]).map tAa)∧Chg [] h0 H':=by
 obtain ⟨s',h',e,o,c',_⟩:=wS (cs:=tkc k t (a:Int)) jBe (by decide) x (mB7 H _ (k,t,a)) rfl c.next (by rw [List.length_map];omega);refine ⟨s',h',fun K=>?_,?_,c.step c' fun A hA hl=>?_⟩
 ·have e':pC E 57 57 (.slice v.a v.len v.cap v.sz) (.slice (some (H.next,0)) 1 1 3) (H.push (.row [(.int .i64 k),(.str t),(.int .i64 (a:Int))] .own))=some (.slice s'.a s'.len s'.cap s'.sz,h'):=e
  rw [e'];simp only [aG,qA]
 ·rw [List.map_append];exact o
 ·have:=x.ge A (by simpa using hA);omega
def lA0 (h:Heap) (v:AV) (c a:Int):Prop:=∃ A,v=AV.iface 127 (.ptr (some (A,0)))∧h.own A [.int .i64 c,.int .i64 a,AV.iface 78 (.int .i64 c)]
theorem fB0 (N:Nat) {c:Int} (hc:c≠0) (a:Int) (h:Heap):∃ v h',f37 N c a h=some (v,h')∧Chg [] h h'∧lA0 h' v c a:=by
 unfold f37
 have:pA c 0=false:=by rw [eqI];simpa using hc
 simp only [this,cond_false];exact ⟨_,_,rfl,vA _ _,h.next,rfl,wA h _⟩
theorem oJ {t:Bs} {k:Int} {x:Bs} {n:Nat} (h:jF t=some (k,x,n)):1≤n∧n≤t.length:=by
 cases t with
 | nil=>cases h
 | cons c r=>
  have run1:bD c=true∨oD c=true→1≤runN (c::r)∧runN (c::r)≤(c::r).length:=fun q=>by
   refine ⟨?_,wQ _⟩
   have:vQ c=true:=by unfold vQ;rcases q with q | q <;> simp [q]
   simp only [runN,this,if_true];omega
  simp only [jF] at h
  split at h
  ·rename_i q
   have:=run1 (.inl q)
   simp only [pU] at h
   split at h
   ·simp only [Option.some.injEq,Prod.mk.injEq] at h;obtain ⟨_,_,rfl⟩:=h;exact this
   ·split at h
    ·simp only [Option.some.injEq,Prod.mk.injEq] at h;obtain ⟨_,_,rfl⟩:=h;exact this
    ·cases h
  ·split at h
   ·rename_i _ q
    have:=run1 (.inr q)
    simp only [tA3] at h
    split at h
    ·simp only [Option.some.injEq,Prod.mk.injEq] at h;obtain ⟨_,_,rfl⟩:=h;exact this
    ·cases h
   ·split at h
    ·have:=wQ r
     simp only [qU] at h
     split at h
     ·split at h
      ·simp only [Option.some.injEq,Prod.mk.injEq] at h;obtain ⟨_,_,rfl⟩:=h;simp only [List.length_cons];omega
      ·cases h
     ·cases h
    ·have:=cW h;exact ⟨this.2.2.1,this.2.2.2⟩
def oA8:Nat→Bs→Nat→List Tok ⊕ Nat
 | 0,_,a=>.inr a
 | M+1,t,a=>match t with
  | []=>.inl []
  | c::r=>match jF (c::r) with
   | none=>.inr a
   | some (k,x,n)=>match oA8 M ((c::r).drop (n+jD false ((c::r).drop n))) (a+(n+jD false ((c::r).drop n))) with
    | .inl l=>.inl ((k,x,a)::l)
    | .inr e=>.inr e
theorem gAp (M:Nat) (s:Bs) (i:Nat) (hi:i<s.length):oA8 (M+1) (s.drop i) i=match jF (s.drop i) with
  | none=>.inr i
  | some (k,x,n)=>match oA8 M (s.drop (i+(n+jD false (s.drop (i+n))))) (i+(n+jD false (s.drop (i+n)))) with
   | .inl l=>.inl ((k,x,i)::l)
   | .inr e=>.inr e:=by
 have e:∀ n,s.drop (i+n)=(s.drop i).drop n:=fun n=>by rw [List.drop_drop]
 simp only [e];rw [drop_cons hi];rfl
theorem dAv (M:Nat) (s:Bs) (i:Nat) (hi:s.length≤i):oA8 (M+1) (s.drop i) i=.inl []:=by
 rw [List.drop_of_length_le hi];rfl
section
variable {N:Nat} {s:Bs}
theorem eAv (hs:s.length≤1048576) (hN:s.length<N) (hN2:20≤N) {h0:Heap}:∀ (M i:Nat) (v:SL) (xs:List Tok) (H:Heap),i≤s.length→s.length-i<M→xs.length≤i→Chg [] h0 H→Ow h0.next H v 3 (xs.map tAa)→
  match oA8 M (s.drop i) i with
  | .inl l=>∃ v' H',qAa N M s ⟨none,0,0,0⟩ AV.nilIface v (i:Int) H=some (.exit 0,(s,⟨none,0,0,0⟩,AV.nilIface,v',()),H')∧Chg [] h0 H'∧Ow h0.next H' v' 3 ((xs++l).map tAa)∧(xs++l).length≤s.length
  | .inr a=>∃ v' v3 H',qAa N M s ⟨none,0,0,0⟩ AV.nilIface v (i:Int) H=some (.ret,(s,⟨none,0,0,0⟩,v3,v',()),H')∧Chg [] h0 H'∧lA0 H' v3 20 (a:Int):=by
 intro M
 induction M with
 | zero=>intro i _ _ _ _ h;omega
 | succ M ih=>
  intro i v xs H hi hM hx c o;rw [vAd];unfold bA6;simp only [tP]
  by_cases q:i<s.length
  ·rw [gAp M s i q]
   simp only [q,decide_true,cond_true];obtain ⟨r,h2,e,c2,t⟩:=lB7 (by omega) hN hN2 q H;rw [e,aA];have c3:=c.trans c2;have o3:=wA h2 (tkc 0 [] 0);have e3:h2.push (.row [(.int .i64 0),(.str []),(.int .i64 0)] .own)=h2.push (.row (tkc 0 [] 0) .own):=rfl;have c4:=c3.push (.row (tkc 0 [] 0) .own);have hge:h0.next≤h2.next:=c3.next;have hst:(h2.push (.row (tkc 0 [] 0) .own)).store (h2.next,0) [(.int .i64 r.1.1),(.str r.1.2.1),(.int .i64 r.1.2.2.1)]=some ((h2.push (.row (tkc 0 [] 0) .own)).put h2.next (.row (tkc r.1.1 r.1.2.1 r.1.2.2.1) .own)):=o3.store rfl;rw [e3,hst,bA];have o5:=iB o3 (tkc r.1.1 r.1.2.1 r.1.2.2.1);have c5:Chg [] h0 ((h2.push (.row (tkc 0 [] 0) .own)).put h2.next (.row (tkc r.1.1 r.1.2.1 r.1.2.2.1) .own)):=c4.put (.inr hge) _;have c25:Chg [] h2 ((h2.push (.row (tkc 0 [] 0) .own)).put h2.next (.row (tkc r.1.1 r.1.2.1 r.1.2.2.1) .own)):=((Chg.refl [] h2).push _).put (.inr (Nat.le_refl _)) _;have c05:=c2.trans c25;generalize (h2.push (.row (tkc 0 [] 0) .own)).put h2.next (.row (tkc r.1.1 r.1.2.1 r.1.2.2.1) .own)=h5 at *
   cases ht:jF (s.drop i) with
   | none=>
    rw [ht] at t;have z:pA r.2.1 0=true:=by rw [show r.2.1=0 from t];rfl
    simp only [z,cond_true];obtain ⟨vv,h6,e6,c6,f6⟩:=fB0 N (c:=20) (by decide) (i:Int) h5;rw [e6,aA];exact ⟨_,_,_,rfl,c5.trans c6,f6⟩
   | some p=>
    obtain ⟨k,x,n⟩:=p;rw [ht] at t;have hn:=oJ ht;rw [List.length_drop] at hn;have t':r=((k,x,(i:Int),()),((i+n:Nat):Int),()):=t;have z:pA r.2.1 0=false:=by rw [t',eqI];simp;omega
    simp only [z,cond_false];rw [nJ o5,t'];dsimp only;have ox:=o.chg c05 (by simp);obtain ⟨v',H',ea,oa,ca⟩:=uA3 c5 ox (by omega) k x i;rw [ea,nAx (by omega) hN (by omega),aA];have hb:=lK (s.drop (i+n)) false;rw [List.length_drop] at hb
    have:=ih (i+(n+jD false (s.drop (i+n)))) v' (xs++[(k,x,i)]) H' (by omega) (by omega) (by simp;omega) ca oa
    rw [show i+n+jD false (s.drop (i+n))=i+(n+jD false (s.drop (i+n))) by omega]
    cases hl:oA8 M (s.drop (i+(n+jD false (s.drop (i+n))))) (i+(n+jD false (s.drop (i+n)))) with
    | inl l=>
     rw [hl] at this;simp only [List.append_assoc,List.singleton_append] at this;exact this
    | inr a=>rw [hl] at this;exact this
  ·rw [dAv M s i (by omega)]
   simp only [q,decide_false,cond_false];refine ⟨_,_,rfl,c,by rw [List.append_nil];exact o,by rw [List.append_nil];omega⟩
def qAk (N:Nat) (s:Bs):List Tok ⊕ Nat:=match oA8 N (s.drop (jD false s)) (jD false s) with
 | .inl l=>.inl (l++[(0,[],s.length)])
 | .inr a=>.inr a
theorem oAx (hs:s.length≤1048576) (hN:s.length<N) (hN2:20≤N) (h:Heap):∃ r h',f54 N s h=some (r,h')∧Chg [] h h'∧match qAk N s with
  | .inl l=>r.2.1=AV.nilIface∧Ow h.next h' r.1 3 (l.map tAa)∧l.length≤s.length+1
  | .inr a=>lA0 h' r.2.1 20 (a:Int):=by
 unfold f54 qAk;have z:uB 1048576 (Int.ofNat s.length)=false:=by rw [ltI,decide_eq_false_iff_not];show ¬ (1048576:Int)<(s.length:Int);omega
 simp only [z,cond_false];have f9:=nAx (by omega) hN (Nat.zero_le _) h;rw [List.drop_zero,Nat.zero_add] at f9;rw [show ((0:Nat):Int)=0 from rfl] at f9;rw [f9,aA];have hb:=lK s false;have lp:=eAv hs hN hN2 (h0:=h) N (jD false s) ⟨none,0,0,0⟩ [] h hb (by omega) (by simp) (Chg.refl _ _) (Ow.nil _ _ _ _)
 cases hl:oA8 N (s.drop (jD false s)) (jD false s) with
 | inl l=>
  rw [hl] at lp;obtain ⟨v',H',e,c,o,hll⟩:=lp;rw [e];simp only [yB,fE,decide_true,cond_true];obtain ⟨v2,H2,ea,oa,ca⟩:=uA3 c o (by omega) 0 [] s.length;rw [show Int.ofNat s.length=((s.length:Nat):Int) from rfl,ea];refine ⟨_,_,rfl,ca,rfl,oa,?_⟩;simpa using hll
 | inr a=>
  rw [hl] at lp;obtain ⟨v',v3,H',e,c,f⟩:=lp;rw [e];simp only [yB,rZ,cond_false];exact ⟨_,_,rfl,c,f⟩
end
end Qp
namespace Qp
theorem iAp:∀ (t:Bs) (v:Nat),v * 10 ^ t.length≤tW t v
 | [],v=>by simp [tW]
 | c::r,v=>by
  have:=iAp r (v * 10+(c.toNat-48))
  simp only [tW,List.length_cons,Nat.pow_succ];refine Nat.le_trans ?_ this;rw [Nat.mul_comm (10 ^ r.length) 10,← Nat.mul_assoc];exact Nat.mul_le_mul_right _ (by omega)
theorem rAk {c:UInt8} {r:Bs} (hl:10<(c::r).length):iA0 (c::r)=false:=by
 cases hk:iA0 (c::r) with
 | false=>rfl
 | true=>
  exfalso
  simp only [iA0,Bool.and_eq_true,Bool.not_eq_true',List.all_cons,dP,Nat.ble_eq,tW,Nat.zero_mul,Nat.zero_add,List.length_cons,Bool.and_eq_false_imp,decide_eq_true_eq,decide_eq_false_iff_not] at hk;obtain ⟨⟨⟨h1,_⟩,h2⟩,h3⟩:=hk;simp only [oD,decide_eq_true_eq] at h1;simp only [List.length_cons] at hl;have h4:=h3 (by omega)
  have:=iAp r (c.toNat-48)
  have hp:(10:Nat) ^ 10≤10 ^ r.length:=Nat.pow_le_pow_right (by omega) (by omega);have h5:1 * 10 ^ r.length≤(c.toNat-48) * 10 ^ r.length:=Nat.mul_le_mul_right _ (by omega);have hp2:(10000000000:Nat)≤10 ^ r.length:=hp;omega
theorem uAa:∀ t:Bs,runN (t.take (runN t))=runN t
 | []=>rfl
 | c::r=>by
  simp only [runN]
  by_cases q:vQ c=true
  ·simp only [q,if_true,List.take_succ_cons,runN,uAa r]
  ·simp [q,runN]
theorem vA3 (t:Bs):dN (t.take (runN t))=(dP bD t&&decide (runN t≤32)):=by
 cases t with
 | nil=>rfl
 | cons c r=>
  have hr:=wQ (c::r);have hl:((c::r).take (runN (c::r))).length=runN (c::r):=by rw [List.length_take];omega
  unfold dN;rw [hl,uAa]
  by_cases q:bD c=true
  ·have g:vQ c=true:=by simp [vQ,q]
   have h1:1≤runN (c::r):=by simp [runN,g]
   have h2:dP bD ((c::r).take (runN (c::r)))=true:=by
    simp only [runN,g,if_true,List.take_succ_cons,dP];exact q
   rw [h2];simp only [dP,q,h1,decide_true,Bool.true_and,Bool.and_true]
  ·have q':bD c=false:=by simpa using q
   have h2:dP bD ((c::r).take (runN (c::r)))=false:=by
    by_cases g:vQ c=true
    ·simp only [runN,g,if_true,List.take_succ_cons,dP];exact q'
    ·simp [runN,g,dP]
   rw [h2];simp only [dP,q',Bool.false_and,Bool.and_false]
section
variable {s:Bs} {i:Nat}
end
end Qp
namespace Qp
section
variable {N:Nat} {s:Bs}
end
end Qp
namespace Qp
def mA0 (x:Bs):Bool:=(match x with | [c]=>cB5 c bB5 | _=>false)||nAk x two
structure TokOK (q:Tok):Prop where
 word:q.1=2→isWord q.2.1=true
 sign:q.1=5→mA0 q.2.1=true
 len:q.2.1.length≤3000000
 num:q.1=4→iA0 q.2.1=true∧0<q.2.1.length
 name:q.1=1→yG q.2.1=true
 life:q.1=3→dN q.2.1=true
structure Toks (T:List Tok):Prop where
 ok:∀ q∈T,TokOK q
 ends:∀ (i:Nat) (hi:i<T.length),(T[i]).1≠0→i+1<T.length
 len:T.length≤2000000
def tk (T:List Tok) (i:Nat):Tok:=T.getD i (0,[],0)
theorem tAk {T:List Tok} {i:Nat} (hi:i<T.length):tk T i=T[i]:=by simp [tk,hi]
abbrev Er:=Option (Int×Int)
abbrev St:=Nat×Er
def cF (T:List Tok) (c:Int):St→St
 | (i,none)=>(i,some (c,((tk T i).2.2:Int)))
 | (i,some e)=>(i,some e)
def isS (T:List Tok) (w:Bs) (i:Nat):Bool:=decide ((tk T i).1=2∨(tk T i).1=5)&&pB (tk T i).2.1 w
def qB (T:List Tok) (w:Bs):St→Bool×St
 | (i,none)=>if isS T w i=true then (true,(i+1,none)) else (false,(i,none))
 | (i,some e)=>(false,(i,some e))
def aC (T:List Tok) (k:Int):St→Bs×St
 | (i,none)=>if (tk T i).1=k then ((tk T i).2.1,(i+1,none)) else ([],cF T 21 (i,none))
 | (i,some e)=>([],(i,some e))
def eD (T:List Tok) (w:Bs) (σ:St):St:=if (qB T w σ).1=true then (qB T w σ).2 else cF T 21 (qB T w σ).2
def wH (T:List Tok) (σ:St):Bs×St:=
 let a:=aC T 1 σ
 let b:=qB T [58,58] a.2
 if b.1=true then let c:=aC T 1 b.2;(a.1++[58,58]++c.1,c.2) else (a.1,b.2)
def ErrV (h:Heap) (P:Nat) (X:List Nat) (v:AV):Er→Prop
 | none=>v=AV.nilIface
 | some (c,a)=>∃ A,v=AV.iface 127 (.ptr (some (A,0)))∧(A≠P∧A ∉ X)∧h.own A [.int .i64 c,.int .i64 a,AV.iface 78 (.int .i64 c)]
structure PA (T:List Tok) (P:Nat) (X:List Nat) (h:Heap) (σ:St) (st:Int):Prop where
 ex:∃ s v,h.own P [SL.av s,.int .i64 (σ.1:Int),.int .i64 st,v]∧Sl h (fun C=>C<P) s (T.map tAa)∧(s.sz=3)∧ErrV h P X v σ.2
 lt:σ.1<T.length
 xl:∀ A∈X,P<A∧A<h.next
theorem ErrV.chg {h h':Heap} {P:Nat} {X:List Nat} {v:AV} {e:Er} {M:List Nat} (x:ErrV h P X v e) (c:Chg M h h') (hM:∀ A∈M,A=P∨A∈X):ErrV h' P X v e:=by
 cases e with
 | none=>exact x
 | some q=>
  obtain ⟨A,h1,h2,h3⟩:=x;exact ⟨A,h1,h2,h3.chg c fun hm=>by rcases hM A hm with q | q;exact h2.1 q;exact h2.2 q⟩
section
variable {T:List Tok} {P:Nat} {X:List Nat} {h h':Heap} {σ:St} {st:Int}
theorem PA.P_lt (x:PA T P X h σ st):P<h.next:=by
 obtain ⟨⟨s,v,h1,h2,h3,h4⟩,h5,h6⟩:=x;exact h1.2
theorem PA.chgM {M:List Nat} (x:PA T P X h σ st) (c:Chg M h h') (hM:∀ A∈M,A∈X):PA T P X h' σ st:=by
 obtain ⟨⟨s,v,h1,h2,h3,h4⟩,h5,h6⟩:=x;refine ⟨⟨s,v,h1.chg c (fun hm=>by have:=h6 P (hM P hm);omega),h2.chg c (fun A hA hm=>by have:=h6 A (hM A hm);have hA:A<P:=hA;omega),h3,h4.chg c fun A hA=>.inr (hM A hA)⟩,h5,fun A hA=>?_⟩
 have:=h6 A hA
 exact ⟨this.1,Nat.lt_of_lt_of_le this.2 c.next⟩
theorem PA.chg (x:PA T P X h σ st) (c:Chg [] h h'):PA T P X h' σ st:=x.chgM c (by simp)
theorem PA.chg1 {A:Nat} (x:PA T P X h σ st) (c:Chg [A] h h') (hA:A∈X):PA T P X h' σ st:=x.chgM c (by simpa using hA)
theorem PA.free {i:Nat} (x:PA T P X h (i,none) st) {X':List Nat} (hX:∀ A∈X',P<A∧A<h.next):PA T P X' h (i,none) st:=by
 obtain ⟨⟨s,v,h1,h2,h3,h4⟩,h5,h6⟩:=x;exact ⟨⟨s,v,h1,h2,h3,h4⟩,h5,hX⟩
theorem PA.sub (x:PA T P X h σ st) {X':List Nat} (hX:∀ A∈X',A∈X):PA T P X' h σ st:=by
 obtain ⟨⟨s,v,h1,h2,h3,h4⟩,h5,h6⟩:=x;refine ⟨⟨s,v,h1,h2,h3,?_⟩,h5,fun A hA=>h6 A (hX A hA)⟩;obtain ⟨i,e⟩:=σ
 cases e with
 | none=>exact h4
 | some q=>obtain ⟨A,g1,g2,g3⟩:=h4;exact ⟨A,g1,⟨g2.1,fun hm=>g2.2 (hX A hm)⟩,g3⟩
theorem PA.add (x:PA T P X h σ st) (c:Chg [] h h') {A:Nat} (h1:h.next≤A) (h2:A<h'.next):PA T P (A::X) h' σ st:=by
 have hP:=x.P_lt;obtain ⟨⟨s,v,g1,g2,g3,g4⟩,g5,g6⟩:=x.chg c;obtain ⟨⟨s',v',f1,f2,f3,f4⟩,f5,f6⟩:=x;refine ⟨⟨s',v',f1.chg c (by simp),f2.chg c (by simp),f3,?_⟩,g5,fun C hC=>?_⟩
 ·obtain ⟨i,e⟩:=σ
  cases e with
  | none=>exact f4
  | some q=>
   obtain ⟨C,k1,k2,k3⟩:=f4;refine ⟨C,k1,⟨k2.1,fun hm=>?_⟩,k3.chg c (by simp)⟩;rcases List.mem_cons.1 hm with rfl | hm
   ·have:=k3.2;omega
   ·exact k2.2 hm
 ·rcases List.mem_cons.1 hC with rfl | hC
  ·omega
  ·exact g6 C hC
end
theorem nB7 (N:Nat) {c:Int} (hc:c≠0) (a:Int) (h:Heap):∃ h',f37 N c a h=some (AV.iface 127 (.ptr (some (h.next,0))),h')∧Chg [] h h'∧h'.own h.next [.int .i64 c,.int .i64 a,AV.iface 78 (.int .i64 c)]:=by
 unfold f37
 have:pA c 0=false:=by rw [eqI];simpa using hc
 simp only [this,cond_false];exact ⟨_,rfl,vA _ _,wA h _⟩
theorem eq_nil (k:Nat):wJ E .eql 29 (.tmp k) (.const .nilIface) AV.nilIface AV.nilIface=some (.bool true):=by kernel_rfl
theorem iO (k:Nat) (v:AV):wJ E .eql 29 (.tmp k) (.const .nilIface) (AV.iface 127 v) AV.nilIface=some (.bool false):=by kernel_rfl
theorem ne_nil (k:Nat):wJ E .neq 29 (.tmp k) (.const .nilIface) AV.nilIface AV.nilIface=some (.bool false):=by kernel_rfl
theorem jO (k:Nat) (v:AV):wJ E .neq 29 (.tmp k) (.const .nilIface) (AV.iface 127 v) AV.nilIface=some (.bool true):=by kernel_rfl
theorem ErrV.eq {h:Heap} {P:Nat} {X:List Nat} {v:AV} {e:Er} (x:ErrV h P X v e) (k:Nat):wJ E .eql 29 (.tmp k) (.const .nilIface) v AV.nilIface=some (.bool e.isNone):=by
 cases e with
 | none=>rw [show v=AV.nilIface from x];exact eq_nil k
 | some q=>obtain ⟨A,h1,_⟩:=x;rw [h1];exact iO k _
theorem ErrV.ne {h:Heap} {P:Nat} {X:List Nat} {v:AV} {e:Er} (x:ErrV h P X v e) (k:Nat):wJ E .neq 29 (.tmp k) (.const .nilIface) v AV.nilIface=some (.bool e.isSome):=by
 cases e with
 | none=>rw [show v=AV.nilIface from x];exact ne_nil k
 | some q=>obtain ⟨A,h1,_⟩:=x;rw [h1];exact jO k _
theorem fA6 {h:Heap} {V:Nat→Prop} {s:SL} {T:List Tok} (hs:Sl h V s (T.map tAa)) (h3:s.sz=3) {i:Nat} (hi:i<T.length):h.cells (s.at i 3) 3=some (.agg (tkc (tk T i).1 (tk T i).2.1 ((tk T i).2.2:Int)))∧s.a.isSome=true∧i<s.len:=by
 obtain ⟨cs,e⟩:=hs.elt (i:=i) (by rw [List.length_map];exact hi);rw [h3] at e;have hd:=e.dt;rw [List.getElem_map] at hd;rw [tAk hi,e.whole,dAe hd];exact ⟨rfl,hs.isSome (by rw [List.length_map];omega),by rw [hs.len,List.length_map];exact hi⟩
theorem fBg {β:Type} (k:Int) (x:Bs) (a:Int) (K:zQ→Option β):iA (.val zG) (some (.agg (tkc k x a))) K=K (k,x,a,()):=by
 simp [tkc]
abbrev TT:=Int×zA3×Int×Unit
def tAh (q:Tok):TT:=(q.1,q.2.1,(q.2.2:Int),())
section
variable {N:Nat} {T:List Tok} {P:Nat} {X:List Nat} {h:Heap} {σ:St} {st:Int}
theorem iM (x:PA T P X h σ st):∃ h',f56 N (some (P,0)) h=some (tAh (tk T σ.1),h')∧Chg [] h h':=by
 obtain ⟨⟨s,v,h1,h2,h3,h4⟩,h5,h6⟩:=x;unfold f56;have o1:=wA h (tkc 0 [] 0);have c1:=vA h (.row (tkc 0 [] 0) .own);have e1:h.push (.row [(.int .i64 0),(.str []),(.int .i64 0)] .own)=h.push (.row (tkc 0 [] 0) .own):=rfl;rw [e1];generalize h.push (.row (tkc 0 [] 0) .own)=hh at *;dsimp only;have g1:=h1.chg c1 (by simp);have k0:hh.cell (P,0)=some (SL.av s):=g1.cell 0;have k1:hh.cell (P,1)=some (.int .i64 (σ.1:Int)):=g1.cell 1;obtain ⟨d1,d2,d3⟩:=fA6 (h2.chg c1 (by simp)) h3 h5;simp only [bA,Nat.add_zero,Nat.zero_add,k0,k1,fA,SL.av,qA,kB];rw [oA3 d2 d3,d1,fBg];rw [pAk o1 rfl];exact ⟨_,rfl,c1.put (.inr (Nat.le_refl _)) _⟩
theorem PA.setErr {i:Nat} {c a:Int} (x:PA T P X h (i,none) st) {A:Nat} (hA:A≠P∧A ∉ X) (ho:h.own A [.int .i64 c,.int .i64 a,AV.iface 78 (.int .i64 c)]):∃ h',h.store (P,3) [AV.iface 127 (.ptr (some (A,0)))]=some h'∧Chg [P] h h'∧PA T P X h' (i,some (c,a)) st:=by
 obtain ⟨⟨s,v0,h1,h2,h3,h4⟩,h5,h6⟩:=x;exact ⟨_,h1.store1 (j:=3) (by show 3<4;omega) _,h1.put _,⟨s,_,iB h1 _,h2.chg (h1.put _) (by intro C hC hm;rw [List.mem_singleton] at hm;have hC:C<P:=hC;omega),h3,A,rfl,hA,ho.chg (h1.put _) (by rw [List.mem_singleton];exact hA.1)⟩,h5,h6⟩
theorem PA.setI {i:Nat} (x:PA T P X h (i,none) st) {j:Nat} (hj:j<T.length):∃ h',h.store (P,1) [.int .i64 (j:Int)]=some h'∧Chg [P] h h'∧PA T P X h' (j,none) st:=by
 obtain ⟨⟨s,v0,h1,h2,h3,h4⟩,h5,h6⟩:=x;exact ⟨_,h1.store1 (j:=1) (by show 1<4;omega) (.int .i64 (j:Int)),h1.put _,⟨s,v0,iB h1 _,h2.chg (h1.put _) (by intro C hC hm;rw [List.mem_singleton] at hm;have hC:C<P:=hC;omega),h3,h4⟩,hj,h6⟩
theorem PA.readI (x:PA T P X h σ st):h.cell (P,1)=some (.int .i64 (σ.1:Int)):=by
 obtain ⟨⟨s,v0,h1,h2,h3,h4⟩,h5,h6⟩:=x;exact h1.cell 1
theorem PA.readE (x:PA T P X h σ st):∃ v,h.cell (P,3)=some v∧ErrV h P X v σ.2:=by
 obtain ⟨⟨s,v0,h1,h2,h3,h4⟩,h5,h6⟩:=x;exact ⟨v0,h1.cell 3,h4⟩
theorem nA0 (x:PA T P X h σ st) {c:Int} (hc:c≠0):∃ h',f57 N (some (P,0)) c h=some ((),h')∧Chg [P] h h'∧PA T P X h' (cF T c σ) st:=by
 unfold f57;obtain ⟨v,k3,hv⟩:=x.readE;simp only [bA,Nat.zero_add,k3,fA,wD,hv.eq 7,jB];obtain ⟨i,e⟩:=σ
 cases e with
 | some q=>exact ⟨_,rfl,Chg.refl _ _,x⟩
 | none=>
  simp only [Option.isNone_none,cond_true];obtain ⟨h2,e2,c2⟩:=iM (N:=N) x;rw [e2,aA];obtain ⟨h3,e3,c3,o3⟩:=nB7 N hc ((tk T i).2.2:Int) h2;simp only [tAh];rw [e3,aA];have x3:=(x.chg c2).chg c3;obtain ⟨h4,e4,c4,x4⟩:=PA.setErr x3 ⟨by have:=(x.chg c2).P_lt;omega,fun hm=>by have:=(x.chg c2).xl _ hm;omega⟩ o3;rw [show AV.single (AV.iface 127 (.ptr (some (h2.next,0))))=true from rfl,yC,e4,bA];exact ⟨_,rfl,((c2.trans c3).mono (by simp)).trans c4,x4⟩
end
end Qp
namespace Qp
theorem oB7 {T:List Tok} (hT:Toks T) {i:Nat} (hi:i<T.length):TokOK (tk T i):=by rw [tAk hi];exact hT.ok _ (List.getElem_mem hi)
theorem jAp {T:List Tok} (hT:Toks T) {i:Nat} (hi:i<T.length) (h0:(tk T i).1≠0):i+1<T.length:=hT.ends i hi (by rw [← tAk hi];exact h0)
theorem eqB {a b:Bs}:pB a b=true↔a=b:=by rw [yF,beq_iff_eq]
theorem fAv {T:List Tok} {w:Bs} {i:Nat} (ok:TokOK (tk T i)) (hw:mA0 w=false):isS T w i=(decide ((tk T i).1=2)&&pB (tk T i).2.1 w):=by
 unfold isS
 by_cases q2:(tk T i).1=2
 ·simp [q2]
 ·by_cases q5:(tk T i).1=5
  ·have:pB (tk T i).2.1 w=false:=by
    cases e:pB (tk T i).2.1 w with
    | false=>rfl
    | true=>
     have:=ok.sign q5
     rw [eqB.1 e,hw] at this;cases this
   simp [q2,q5,this]
  ·simp [q2,q5]
theorem uAh {T:List Tok} {w:Bs} {i:Nat} (ok:TokOK (tk T i)) (hw:isWord w=false):isS T w i=(decide ((tk T i).1=5)&&pB (tk T i).2.1 w):=by
 unfold isS
 by_cases q5:(tk T i).1=5
 ·simp [q5]
 ·by_cases q2:(tk T i).1=2
  ·have:pB (tk T i).2.1 w=false:=by
    cases e:pB (tk T i).2.1 w with
    | false=>rfl
    | true=>
     have:=ok.word q2
     rw [eqB.1 e,hw] at this;cases this
   simp [q2,q5,this]
  ·simp [q2,q5]
section
variable {N:Nat} {T:List Tok} {P:Nat} {X:List Nat} {h:Heap} {σ:St} {st:Int}
theorem vAh (h:Heap) (q:Tok):∃ h',(h.push (.row [(.int .i64 0),(.str []),(.int .i64 0)] .own)).store (h.next,0) [(.int .i64 (tAh q).1),(.str (tAh q).2.1),(.int .i64 (tAh q).2.2.1)]=some h'∧Chg [] h h'∧h'.own h.next (tkc q.1 q.2.1 (q.2.2:Int)):=by
 have o1:=wA h (tkc 0 [] 0);exact ⟨_,o1.store rfl,(vA h _).put (.inr (Nat.le_refl _)) _,iB o1 _⟩
theorem eAe (x:PA T P X h σ st) (k:Int) (w:Bs):∃ h',f146 N (some (P,0)) k w h=some (σ.2.isNone&&(decide ((tk T σ.1).1=k)&&pB (tk T σ.1).2.1 w),h')∧Chg [] h h':=by
 unfold f146;obtain ⟨h2,e2,c2⟩:=iM (N:=N) x;rw [e2,aA];obtain ⟨h4,e4,c4,o4⟩:=vAh h2 (tk T σ.1);dsimp only;rw [e4,bA];have c5:=c2.trans c4;obtain ⟨v,k3,hv⟩:=(x.chg c5).readE;simp only [bA,Nat.zero_add,k3,fA,wD,hv.eq 13,jB]
 cases σ.2.isNone with
 | false=>exact ⟨_,rfl,c5⟩
 | true=>
  simp only [cond_true,Bool.true_and,Nat.add_zero];have r0:h4.cell (h2.next,0)=some (.int .i64 (tk T σ.1).1):=o4.cell 0;have r1:h4.cell (h2.next,1)=some (.str (tk T σ.1).2.1):=o4.cell 1;simp only [r0,r1,fA,kB,mB,eqI]
  by_cases q:(tk T σ.1).1=k
  ·simp only [q,decide_true,cond_true,Bool.true_and];exact ⟨_,rfl,c5⟩
  ·simp only [q,decide_false,cond_false,Bool.false_and];exact ⟨_,rfl,c5⟩
theorem gB0 {i:Nat} (hT:Toks T) (hi:i<T.length):bB .i64 ((i:Int)+1)=((i+1:Nat):Int):=rB (by have:=hT.len;omega)
theorem wAh (hT:Toks T) (x:PA T P X h σ st) {w:Bs} {b:Bool} {h2:Heap} (c2:Chg [] h h2) (hb:b=(σ.2.isNone&&isS T w σ.1)) :
  ∃ h',(let x3:Bool:=!b
   (bif x3 then
    some (false,h2)
    else
    (uA (some (P,0)) fun q4=>
    (iA (.val zY2) (h2.cell (q4.1,q4.2+1)) fun (x5:Int)=>
    let x6:Int:=bB .i64 (x5+1)
    (uA (some (P,0)) fun q7=>
    (uA (h2.store (q7.1,q7.2+1) [(.int .i64 x6)]) fun h8=>
    some (true,h8)))))))=some ((qB T w σ).1,h')∧Chg [P] h h'∧PA T P X h' (qB T w σ).2 st:=by
 have x2:=x.chg c2;obtain ⟨i,e⟩:=σ;subst hb
 cases e with
 | some q=>exact ⟨_,rfl,c2.mono (by simp),x2⟩
 | none=>
  simp only [Option.isNone_none,Bool.true_and,qB]
  cases hs:isS T w i with
  | false=>simp only [Bool.not_false,cond_true,Bool.false_eq_true,if_false];exact ⟨_,rfl,c2.mono (by simp),x2⟩
  | true=>
   simp only [Bool.not_true,cond_false,if_true,bA,Nat.zero_add,x2.readI,fA,kB];have h0:(tk T i).1≠0:=by
    intro e0;simp [isS,e0] at hs
   have hn:=jAp hT x.lt h0;rw [gB0 hT x.lt];obtain ⟨h8,e8,c8,x8⟩:=PA.setI x2 hn;rw [e8,bA];exact ⟨_,rfl,(c2.mono (by simp)).trans c8,x8⟩
theorem yAh (hT:Toks T) (x:PA T P X h σ st) {w:Bs} (hw:mA0 w=false):∃ h',f92 N (some (P,0)) w h=some ((qB T w σ).1,h')∧Chg [P] h h'∧PA T P X h' (qB T w σ).2 st:=by
 unfold f92;obtain ⟨h2,e2,c2⟩:=eAe (N:=N) x 2 w;rw [e2,aA];exact wAh hT x c2 (by rw [fAv (oB7 hT x.lt) hw])
theorem wA3 (hT:Toks T) (x:PA T P X h σ st) {w:Bs} (hw:isWord w=false):∃ h',f93 N (some (P,0)) w h=some ((qB T w σ).1,h')∧Chg [P] h h'∧PA T P X h' (qB T w σ).2 st:=by
 unfold f93;obtain ⟨h2,e2,c2⟩:=eAe (N:=N) x 5 w;rw [e2,aA];exact wAh hT x c2 (by rw [uAh (oB7 hT x.lt) hw])
theorem vAa (hT:Toks T) (x:PA T P X h σ st) {k:Int} (hk:k≠0):∃ h',f94 N (some (P,0)) k h=some ((aC T k σ).1,h')∧Chg [P] h h'∧PA T P X h' (aC T k σ).2 st:=by
 unfold f94;obtain ⟨h2,e2,c2⟩:=iM (N:=N) x;rw [e2,aA];obtain ⟨h4,e4,c4,o4⟩:=vAh h2 (tk T σ.1);dsimp only;rw [e4,bA];have c5:=c2.trans c4;have x5:=x.chg c5;obtain ⟨v,k3,hv⟩:=x5.readE;simp only [bA,Nat.zero_add,k3,fA,wD,hv.ne 11,jB];obtain ⟨i,e⟩:=σ
 cases e with
 | some q=>
  simp only [Option.isSome_some,cond_true,aC];obtain ⟨h9,e9,c9,x9⟩:=nA0 (N:=N) x5 (c:=21) (by decide);rw [e9,aA];exact ⟨_,rfl,(c5.mono (by simp)).trans c9,x9⟩
 | none=>
  simp only [Option.isSome_none,cond_false,Nat.add_zero];have r0:h4.cell (h2.next,0)=some (.int .i64 (tk T i).1):=o4.cell 0;simp only [r0,fA,kB,eqI,aC]
  by_cases q:(tk T i).1=k
  ·simp only [q,decide_true,Bool.not_true,cond_false,if_true,x5.readI,fA,kB,bA]
   have hn:=jAp hT x.lt (by rw [q];exact hk);rw [gB0 hT x.lt];obtain ⟨h8,e8,c8,x8⟩:=PA.setI x5 hn;rw [e8,bA];have hP:h2.next≠P:=by have:=(x.chg c2).P_lt;omega
   have r1:h8.cell (h2.next,1)=some (.str (tk T i).2.1):=(o4.chg c8 (by simpa using hP)).cell 1;simp only [r1,fA,mB];exact ⟨_,rfl,(c5.mono (by simp)).trans c8,x8⟩
  ·simp only [q,decide_false,Bool.not_false,cond_true,if_false]
   obtain ⟨h9,e9,c9,x9⟩:=nA0 (N:=N) x5 (c:=21) (by decide);rw [e9,aA];exact ⟨_,rfl,(c5.mono (by simp)).trans c9,x9⟩
theorem wAa (hT:Toks T) (k:Int) (hi:σ.1<T.length):(aC T k σ).1.length≤3000000:=by
 obtain ⟨i,e⟩:=σ
 cases e with
 | some q=>simp [aC]
 | none=>
  simp only [aC]
  split
  ·exact (oB7 hT hi).len
  ·simp
theorem pAx {a b:Bs} (h:a.length+b.length≤1099511627776):gP .add a b=some (.str (a++b)):=by
 have:Nat.ble (a.length+b.length) 1099511627776=true:=by rw [Nat.ble_eq];exact h
 simp only [gP,this,cond_true]
theorem qAx (hT:Toks T) (x:PA T P X h σ st):∃ h',f95 N (some (P,0)) h=some ((wH T σ).1,h')∧Chg [P] h h'∧PA T P X h' (wH T σ).2 st:=by
 unfold f95;obtain ⟨h2,e2,c2,x2⟩:=vAa (N:=N) hT x (k:=1) (by decide);have l2:=wAa hT 1 x.lt;rw [e2,aA];obtain ⟨h4,e4,c4,x4⟩:=wA3 (N:=N) hT x2 (w:=[58,58]) (by decide);rw [e4,aA];have c5:=c2.trans c4;simp only [wH]
 cases hb:(qB T [58,58] (aC T 1 σ).2).1 with
 | false=>simp only [cond_false,Bool.false_eq_true,if_false];exact ⟨_,rfl,c5,x4⟩
 | true=>
  simp only [cond_true,if_true];obtain ⟨h7,e7,c7,x7⟩:=vAa (N:=N) hT x4 (k:=1) (by decide);have l7:=wAa hT 1 x4.lt;rw [pAx (by simp only [List.length_cons,List.length_nil];omega)];simp only [fA,mB];rw [e7,aA,pAx (by simp only [List.length_append,List.length_cons,List.length_nil];omega)];simp only [fA,mB];exact ⟨_,rfl,c5.trans c7,x7⟩
theorem fAe (x:PA T P X h σ st) (n:Nat):∃ h',f188 N (some (P,0)) (n:Int) h=some (((if 64≤n then cF T 5 σ else σ).2).isNone,h')∧Chg [P] h h'∧PA T P X h' (if 64≤n then cF T 5 σ else σ) st:=by
 unfold f188;have z:uC 64 (n:Int)=decide (64≤n):=kA0 64 n;simp only [z]
 by_cases q:64≤n
 ·simp only [q,decide_true,cond_true,if_true]
  obtain ⟨h2,e2,c2,x2⟩:=nA0 (N:=N) x (c:=5) (by decide);rw [e2,aA];obtain ⟨v,k3,hv⟩:=x2.readE;simp only [bA,Nat.zero_add,k3,fA,wD,hv.eq 12,jB];exact ⟨_,rfl,c2,x2⟩
 ·simp only [q,decide_false,cond_false,if_false]
  obtain ⟨v,k3,hv⟩:=x.readE;simp only [bA,Nat.zero_add,k3,fA,wD,hv.eq 12,jB];exact ⟨_,rfl,Chg.refl _ _,x⟩
theorem kAp (hT:Toks T) (x:PA T P X h σ st) {w:Bs} (hw:isWord w=false):∃ h',f149 N (some (P,0)) w h=some ((),h')∧Chg [P] h h'∧PA T P X h' (eD T w σ) st:=by
 unfold f149 eD;obtain ⟨h2,e2,c2,x2⟩:=wA3 (N:=N) hT x hw;rw [e2,aA]
 cases hb:(qB T w σ).1 with
 | true=>simp only [Bool.not_true,cond_false,if_true];exact ⟨_,rfl,c2,x2⟩
 | false=>
  simp only [Bool.not_false,cond_true,Bool.false_eq_true,if_false];obtain ⟨h3,e3,c3,x3⟩:=nA0 (N:=N) x2 (c:=21) (by decide);rw [e3,aA];exact ⟨_,rfl,c2.trans c3,x3⟩
end
end Qp
namespace Qp
def eI (T:List Tok):Nat→St→List Bs×St
 | 0,σ=>([],cF T 5 σ)
 | g+1,σ=>let a:=aC T 3 σ;let b:=qB T [44] a.2;if b.1=true then ((a.1::(eI T g b.2).1),(eI T g b.2).2) else ([a.1],b.2)
def fI (T:List Tok) (σ:St):List Bs×St:=
 let b:=qB T [60] σ
 if b.1=true then ((eI T 64 b.2).1,eD T [62] (eI T 64 b.2).2) else ([],b.2)
theorem qF {T:List Tok} {w:Bs} {σ:St} (h:(qB T w σ).1=true):(qB T w σ).2=(σ.1+1,none)∧σ.2=none:=by
 obtain ⟨i,e⟩:=σ
 cases e with
 | some q=>simp [qB] at h
 | none=>
  simp only [qB] at h ⊢
  split at h
  ·rename_i q;rw [if_pos q];simp
  ·cases h
theorem lAp:AppN E 38 9 1 100:=AppN.of (by kernel_rfl)
theorem pJ (h:Heap) (V:Nat→Prop) (x:Bs):Dt h V (.s x) [.str x]:=by simp only [Dt]
section
variable {N:Nat} {T:List Tok} {P:Nat} {X:List Nat} {st:Int}
theorem uAk {h0 H:Heap} {M:List Nat} {v:SL} {xs:List Bs} (c:Chg M h0 H) (x:Ow h0.next H v 1 (xs.map D.s)) (hl:xs.length≤2000000) (t:Bs) :
  ∃ v' H',(∀ {β:Type} (K:SL→Heap→Option β),fG (.val zV2) (pC E 38 38 (.slice v.a v.len v.cap v.sz) (.slice (some (H.next,0)) 1 1 1) (H.push (.row [(.str t)] .own))) K=K v' H')∧Ow h0.next H' v' 1 ((xs++[t]).map D.s)∧Chg v.blk.toList H H':=by
 obtain ⟨s',h',e,o,c',_⟩:=wS (cs:=[AV.str t]) lAp (by decide) x (pJ H _ t) rfl c.next (by rw [List.length_map];omega);refine ⟨s',h',fun K=>?_,?_,c'⟩
 ·have e':pC E 38 38 (.slice v.a v.len v.cap v.sz) (.slice (some (H.next,0)) 1 1 1) (H.push (.row [(.str t)] .own))=some (.slice s'.a s'.len s'.cap s'.sz,h'):=e
  rw [e'];simp only [aG,qA]
 ·rw [List.map_append];exact o
theorem iB0 (hT:Toks T) {h0 h:Heap} {O Q i:Nat} (x:PA T P X h (i,none) st) (hX:O∈X) (c:Chg [P,O] h0 h) (hO:P<O∧O<h0.next) (hQ:Q≠P∧Q≠O∧Q<h0.next) {v:SL} {xs:List Bs} (oO:h.own O [SL.av v]) (oQ:h.own Q [.ptr (some (P,0))]) (ow:Ow h0.next h v 1 (xs.map D.s)) (hl:xs.length≤2000000) :
  ∃ v' h',f148 N (some (O,0)) (some (Q,0)) h=some ((),h')∧PA T P X h' (aC T 3 (i,none)).2 st∧Chg [P,O] h0 h'∧h'.own O [SL.av v']∧h'.own Q [.ptr (some (P,0))]∧Ow h0.next h' v' 1 ((xs++[(aC T 3 (i,none)).1]).map D.s):=by
 unfold f148;have rO:h.cell (O,0)=some (SL.av v):=oO.cell 0;have rQ:h.cell (Q,0)=some (.ptr (some (P,0))):=oQ.cell 0;have hn:=c.next;have hge:∀ A∈v.blk.toList,h0.next≤A∧A<h.next:=fun A hA=>ow.ge A (by simpa using hA);have xr:=x.free (X':=v.blk.toList++X) (fun A hA=>by
  rcases List.mem_append.1 hA with hA | hA
  ·have:=hge A hA;omega
  ·exact x.xl A hA)
 obtain ⟨h6,e6,c6,x6⟩:=vAa (N:=N) hT xr (k:=3) (by decide);simp only [bA,rO,rQ,SL.av,fA,qA,wB];rw [e6,aA];have oO6:h6.own O [SL.av v]:=oO.chg c6 (by simp;omega);have oQ6:h6.own Q [.ptr (some (P,0))]:=oQ.chg c6 (by simp;omega);have c06:Chg [P,O] h0 h6:=c.trans (c6.mono (by simp));have ow6:Ow h0.next h6 v 1 (xs.map D.s):=ow.chg c6 (by intro A hA;rw [List.mem_singleton] at hA;omega);obtain ⟨v',h9,e9,o9,c9⟩:=uAk c06 ow6 hl (aC T 3 (i,none)).1;rw [e9];have oO9:h9.own O [SL.av v]:=oO6.chg c9 (by intro hm;have:=hge O hm;omega);have oQ9:h9.own Q [.ptr (some (P,0))]:=oQ6.chg c9 (by intro hm;have:=hge Q hm;omega);have hst:h9.store (O,0) [SL.av v']=some (h9.put O (.row [SL.av v'] .own)):=oO9.store rfl;simp only [SL.av] at hst;rw [hst,bA];have r7:(h6.push (.row [(.str (aC T 3 (i,none)).1)] .own)).cell (O,0)=some (SL.av v):=(oO6.chg (vA h6 _) (by simp)).cell 0;have r6:h6.cell (O,0)=some (SL.av v):=oO6.cell 0;simp only [pE,rQ,r7,r6,rO,SL.av,rD,cond_true,yC];have x9:PA T P (v.blk.toList++X) h9 (aC T 3 (i,none)).2 st:=x6.chgM c9 (fun A hA=>List.mem_append_left _ hA);have x10:=x9.chg1 (oO9.put [SL.av v']) (List.mem_append_right _ hX);have c09:Chg [P,O] h0 h9:=c06.step c9 (fun A hA hlt=>by have:=hge A hA;omega);refine ⟨v',_,rfl,x10.sub (fun A hA=>List.mem_append_right _ hA),c09.put (.inl (by simp)) _,iB oO9 _,oQ9.chg (oO9.put [SL.av v']) (by simp;omega),o9.chg (oO9.put [SL.av v']) (by intro A hA;rw [List.mem_singleton] at hA;omega)⟩
theorem mAp (hT:Toks T) {h0:Heap} {O Q:Nat} (hX:O∈X) (hO:P<O∧O<h0.next) (hQ:Q≠P∧Q≠O∧Q<h0.next):∀ (g M:Nat) (i:Nat) (h:Heap) (v:SL) (xs:List Bs),g<M→g≤64→xs.length≤64-g→PA T P X h (i,none) st→Chg [P,O] h0 h→h.own O [SL.av v]→h.own Q [.ptr (some (P,0))]→Ow h0.next h v 1 (xs.map D.s)→
  ∃ o v' h',dL N M (some (P,0)) [44] ((some (O,0)),(some (Q,0)),()) ((64-g:Nat):Int) h=some (o,(),h')∧PA T P X h' (eI T g (i,none)).2 st∧Chg [P,O] h0 h'∧h'.own O [SL.av v']∧h'.own Q [.ptr (some (P,0))]∧Ow h0.next h' v' 1 ((xs++(eI T g (i,none)).1).map D.s):=by
 intro g
 induction g with
 | zero=>
  intro M i h v xs hM hg hx x c oO oQ ow;obtain ⟨M,rfl⟩:∃ m,M=m+1:=⟨M-1,by omega⟩;rw [gM];unfold kI;obtain ⟨h2,e2,c2,x2⟩:=fAe (N:=N) x (64-0);rw [e2,aA];simp only [show 64≤64-0 by omega,if_true,cF,Option.isNone_some,cond_false] at x2 ⊢;refine ⟨_,v,h2,rfl,x2,c.trans (c2.mono (by simp)),oO.chg c2 (by simp;omega),oQ.chg c2 (by simp;omega),?_⟩;simp only [eI,List.append_nil];exact ow.chg c2 (by intro A hA;rw [List.mem_singleton] at hA;omega)
 | succ g ih=>
  intro M i h v xs hM hg hx x c oO oQ ow;obtain ⟨M,rfl⟩:∃ m,M=m+1:=⟨M-1,by omega⟩;rw [gM];unfold kI;obtain ⟨h2,e2,c2,x2⟩:=fAe (N:=N) x (64-(g+1));rw [e2,aA];have z:¬ 64≤64-(g+1):=by omega
  simp only [z,if_false,Option.isNone_none,cond_true] at x2 ⊢;have c02:=c.trans (c2.mono (N:=[P,O]) (by simp));obtain ⟨v',h4,e4,x4,c4,o4,q4,w4⟩:=iB0 (N:=N) hT x2 hX c02 hO hQ (oO.chg c2 (by simp;omega)) (oQ.chg c2 (by simp;omega)) (ow.chg c2 (by intro A hA;rw [List.mem_singleton] at hA;omega)) (by omega);rw [e4,aA];obtain ⟨h6,e6,c6,x6⟩:=wA3 (N:=N) hT x4 (w:=[44]) (by decide);rw [e6,aA];have c06:=c4.trans (c6.mono (N:=[P,O]) (by simp));have o6:=o4.chg c6 (by simp;omega);have q6:=q4.chg c6 (by simp;omega);have w6:=w4.chg c6 (by intro A hA;rw [List.mem_singleton] at hA;omega);simp only [eI]
  cases hb:(qB T [44] (aC T 3 (i,none)).2).1 with
  | false=>
   simp only [Bool.not_false,cond_true,Bool.false_eq_true,if_false];exact ⟨_,v',h6,rfl,x6,c06,o6,q6,w6⟩
  | true=>
   simp only [Bool.not_true,cond_false,if_true];have hs:=(qF hb).1;rw [hs] at x6 ⊢;rw [rB (by omega),show 64-(g+1)+1=64-g by omega]
   have:=ih M _ h6 v' (xs++[(aC T 3 (i,none)).1]) (by omega) (by omega) (by simp;omega) x6 c06 o6 q6 w6
   simpa only [List.append_assoc,List.singleton_append] using this
theorem rAx (hT:Toks T) (hN:100≤N) {h:Heap} {σ:St} (x:PA T P X h σ st):∃ v h',f96 N (some (P,0)) h=some (v,h')∧PA T P X h' (fI T σ).2 st∧Chg [P] h h'∧Sl h' (fun C=>h.next≤C) v ((fI T σ).1.map D.s):=by
 unfold f96;have oQ:=wA h [AV.ptr (some (P,0))];have cQ:=vA h (.row [AV.ptr (some (P,0))] .own);have nQ:(h.push (.row [AV.ptr (some (P,0))] .own)).next=h.next+1:=rfl;dsimp only;generalize h.push (.row [AV.ptr (some (P,0))] .own)=h1 at *;have oO:(h1.push (.row [(.slice none 0 0 0)] .own)).own h1.next [SL.av ⟨none,0,0,0⟩]:=wA h1 _;have cO:=vA h1 (.row [(.slice none 0 0 0)] .own);have nO:(h1.push (.row [(.slice none 0 0 0)] .own)).next=h1.next+1:=rfl;generalize h1.push (.row [(.slice none 0 0 0)] .own)=h2 at *;have oQ2:=oQ.chg cO (by simp);have x2:=(x.chg cQ).add cO (A:=h1.next) (Nat.le_refl _) (by omega);have c02:=cQ.trans cO;have r2:h2.cell (h.next,0)=some (.ptr (some (P,0))):=oQ2.cell 0;have hP:=x.P_lt;simp only [r2,fA,wB];obtain ⟨h5,e5,c5,x5⟩:=wA3 (N:=N) hT x2 (w:=[60]) (by decide);rw [e5,aA];have oO5:=oO.chg c5 (by simp;omega);have oQ5:=oQ2.chg c5 (by simp;omega);simp only [fI]
 cases hb:(qB T [60] σ).1 with
 | false=>
  simp only [cond_false,Bool.false_eq_true,if_false];have r5:h5.cell (h1.next,0)=some (SL.av ⟨none,0,0,0⟩):=oO5.cell 0;simp only [r5,SL.av,fA,qA];exact ⟨_,_,rfl,x5.sub (by simp +contextual),(c02.mono (by simp)).trans c5,Sl.nil _ _ _⟩
 | true=>
  simp only [cond_true,if_true];have hs:=(qF hb).1;rw [hs] at x5 ⊢;have r5:h5.cell (h.next,0)=some (.ptr (some (P,0))):=oQ5.cell 0;simp only [r5,fA,wB];unfold cA6;obtain ⟨o,v',h8,e8,x8,c8,o8,q8,w8⟩:=mAp (N:=N) hT (h0:=h2) (X:=h1.next::X) (O:=h1.next) (Q:=h.next) (by simp) (by omega) (by omega) 64 N _ h5 ⟨none,0,0,0⟩ [] (by omega) (Nat.le_refl _) (by simp) x5 (c5.mono (by simp)) oO5 oQ5 (Ow.nil _ _ _ _);rw [show ((64-64:Nat):Int)=0 from rfl] at e8;rw [e8];have hc:Chg [P] h h8:=(c02.mono (by simp)).step c8 (fun A hA hlt=>by
   simp only [List.mem_cons,List.not_mem_nil,or_false] at hA ⊢;omega)
  have r8:h8.cell (h.next,0)=some (.ptr (some (P,0))):=q8.cell 0;have fin:∀ (K:Option (SL×Heap)),(iA (.val zU2) (h8.cell (h.next,0)) fun (x9:zT2)=>
  (kA (f149 N x9 [62] h8) fun (x10:(Unit)) h11=>
  (iA (.val zV2) (h11.cell (h1.next,0)) fun (x12:SL)=>
  some (x12,h11))))=K→(eE (some (o,((),h8))) fun o9 (j10:Unit) h11=>(bif mD o9 (.exit 0) then some ((),h11) else some ((),h11)))=some ((),h8):=fun K _=>by
   simp only [yB];cases mD o (.exit 0) <;> rfl
  have e81:(eE (some (o,((),h8))) fun o9 (j10:Unit) h11=>(bif mD o9 (.exit 0) then some ((),h11) else some ((),h11)))=some ((),h8):=fin _ rfl;rw [e81,aA];simp only [r8,fA,wB];obtain ⟨h11,e11,c11,x11⟩:=kAp (N:=N) hT x8 (w:=[62]) (by decide);rw [e11,aA];have r11:h11.cell (h1.next,0)=some (SL.av v'):=(o8.chg c11 (by simp;omega)).cell 0;simp only [r11,SL.av,fA,qA];refine ⟨_,_,rfl,x11.sub (by simp +contextual),hc.trans c11,?_⟩;have w11:=w8.chg c11 (by intro A hA;rw [List.mem_singleton] at hA;omega);rw [List.nil_append] at w11;exact w11.sl.weak (fun C hC _=>by omega)
end
end Qp
namespace Qp
abbrev TyV:=Int×zA3×SL×SL×Unit
abbrev sl0:SL:=⟨none,0,0,0⟩
def tyc (r:TyV):List AV:=[.int .i64 r.1,.str r.2.1,SL.av r.2.2.1,SL.av r.2.2.2.1]
def tyD (k:Int) (x:Bs) (lv:List Bs) (el:List D):D:=.t [.i k,.s x,.l (lv.map D.s),.l el]
theorem eN {h:Heap} {V:Nat→Prop} {k:Int} {x:Bs} {lv:List Bs} {el:List D} {cs:List AV}:Dt h V (tyD k x lv el) cs↔∃ s1 s2,cs=tyc (k,x,s1,s2,())∧Sl h V s1 (lv.map D.s)∧Sl h V s2 el:=by
 simp only [tyD,Dt,Dp];constructor
 ·rintro ⟨a,b,rfl,rfl,a2,b2,rfl,rfl,a3,b3,rfl,⟨s1,v1,rfl,p1,p2,p3,p4,p5⟩,a4,b4,rfl,⟨s2,v2,rfl,q1,q2,q3,q4,q5⟩,rfl⟩
  exact ⟨s1,s2,rfl,⟨p1,p2,p3,v1,p4,p5⟩,⟨q1,q2,q3,v2,q4,q5⟩⟩
 ·rintro ⟨s1,s2,rfl,⟨p1,p2,p3,v1,p4,p5⟩,⟨q1,q2,q3,v2,q4,q5⟩⟩
  exact ⟨[_],_,rfl,rfl,[_],_,rfl,rfl,[_],_,rfl,⟨s1,v1,rfl,p1,p2,p3,p4,p5⟩,[_],[],rfl,⟨s2,v2,rfl,q1,q2,q3,q4,q5⟩,rfl⟩
theorem fN (h:Heap) (V:Nat→Prop) (k:Int) (x:Bs):Dt h V (tyD k x [] []) (tyc (k,x,sl0,sl0,())):=eN.2 ⟨sl0,sl0,rfl,Sl.nil _ _ _,Sl.nil _ _ _⟩
theorem tAx {h:Heap} {V:Nat→Prop} {A n:Nat} {cs:List AV} {d:D} (o:h.own A cs) (hl:cs.length=n) (hA:V A) (hd:Dt h V d cs):Sl h V ⟨some (A,0),1,1,n⟩ [d]:=by
 refine ⟨rfl,Nat.le_refl _,fun C hC=>?_,cs,⟨by simp [hl],fun ha=>(by cases ha),fun A' off ha=>?_⟩,?_⟩
 ·simp [SL.blk] at hC;subst hC;exact hA
 ·simp only [Option.some.injEq,Prod.mk.injEq] at ha
  obtain ⟨rfl,rfl⟩:=ha;refine ⟨o.2,cs,by rw [o.1];rfl,by rw [List.drop_zero];exact List.take_of_length_le (Nat.le_refl _)⟩
 ·simp only [De]
  exact ⟨cs,[],by simp,hl,hd,rfl⟩
theorem vAk {β:Type} (r:TyV) (K:TyV→Option β):iA (.val zC) (some (.agg (tyc r))) K=K r:=by
 obtain ⟨k,x,s1,s2,_⟩:=r;simp [tyc,SL.av]
theorem yAa {H:Heap} {A:Nat} {r:TyV} (o:H.own A (tyc r)) {β:Type} (K:TyV→Option β):iA (.val zC) (H.cells (A,0) 4) K=K r:=by
 have:H.cells (A,0) 4=some (.agg (tyc r)):=o.cells (j:=0) (m:=4) (Nat.le_refl _)
 rw [this,vAk]
theorem yA3 {H:Heap} {A:Nat} {r0:TyV} (o:H.own A (tyc r0)) (r:TyV):H.store (A,0) [.int .i64 r.1,.str r.2.1,.slice r.2.2.1.a r.2.2.1.len r.2.2.1.cap r.2.2.1.sz,.slice r.2.2.2.1.a r.2.2.2.1.len r.2.2.2.1.cap r.2.2.2.1.sz]=some (H.put A (.row (tyc r) .own)):=o.store rfl
theorem uAx {H:Heap} {A:Nat} {r0:TyV} (o:H.own A (tyc r0)) (r:TyV) {β:Type} (K:TyV→Heap→Option β) :
  (uA (H.store (A,0) [.int .i64 r.1,.str r.2.1,.slice r.2.2.1.a r.2.2.1.len r.2.2.1.cap r.2.2.1.sz,.slice r.2.2.2.1.a r.2.2.2.1.len r.2.2.2.1.cap r.2.2.2.1.sz]) fun h7=>iA (.val zC) (h7.cells (A,0) 4) fun x8=>K x8 h7)=K r (H.put A (.row (tyc r) .own)):=by
 rw [yA3 o,bA,yAa (iB o _)]
def pA0 (T:List Tok) (σ:St):List Bs×St:=if (tk T σ.1).1=3 then ([(aC T 3 σ).1],(aC T 3 σ).2) else ([],σ)
def fL (T:List Tok):Nat→St→D×St
 | 0,σ=>(tyD 0 [] [] [],cF T 6 σ)
 | _+1,(i,some e)=>(tyD 0 [] [] [],(i,some e))
 | g+1,(i,none)=>
  let a:=qB T [105,110,116] (i,none)
  if a.1=true then (tyD 1 [] [] [],a.2) else
  let b:=qB T [98,111,111,108] a.2
  if b.1=true then (tyD 2 [] [] [],b.2) else
  let c:=qB T [38] b.2
  if c.1=true then
   let d:=pA0 T c.2
   let m:=qB T [109,117,116] d.2
   (tyD (if m.1=true then 5 else 4) [] d.1 [(fL T g m.2).1],(fL T g m.2).2)
  else
   let n:=wH T c.2
   let l:=fI T n.2
   (tyD 3 n.1 l.1 [],l.2)
section
variable {N:Nat} {T:List Tok} {P:Nat} {X:List Nat} {st:Int} {h:Heap} {σ:St}
theorem nAp (hT:Toks T) (x:PA T P X h σ st) {A:Nat} {deep:Int} {R:zT2} (oA:h.own A (tyc (4,[],sl0,sl0,()))) (hX:A∈X) :
  ∃ s1 h38,(kA (f56 N (some (P,0)) h) fun (x30:zQ) h31=>
    let x32:Bool:=pA x30.1 3
    (bif x32 then
    (kA (f94 N (some (P,0)) 3 h31) fun (x33:zA3) h34=>
    let h35:Heap:=h34.push (.row [(.str x33)] .own)
    (uA (h35.store ((A,0).1,(A,0).2+2) [(.slice (some (h34.next,0)) 1 1 1)]) fun h36=>
    some ((some (P,0),deep,R,(some (A,0)),()),h36)))
    else
    some ((some (P,0),deep,R,(some (A,0)),()),h31)))=some ((some (P,0),deep,R,(some (A,0)),()),h38)∧PA T P X h38 (pA0 T σ).2 st∧Chg [P,A] h h38∧h38.own A (tyc (4,[],s1,sl0,()))∧Sl h38 (fun C=>h.next≤C) s1 ((pA0 T σ).1.map D.s):=by
 obtain ⟨h31,e31,c31⟩:=iM (N:=N) x;rw [e31,aA];have x31:=x.chg c31;have o31:=oA.chg c31 (by simp);simp only [tAh,eqI,pA0]
 by_cases q:(tk T σ.1).1=3
 ·simp only [q,decide_true,cond_true,if_true]
  obtain ⟨h34,e34,c34,x34⟩:=vAa (N:=N) hT x31 (k:=3) (by decide);rw [e34,aA];have o34:=o31.chg c34 (by have:=(x.xl A hX).1;simp;omega);have oB:=wA h34 [AV.str (aC T 3 σ).1];have cB:=vA h34 (.row [AV.str (aC T 3 σ).1] .own);generalize h34.push (.row [AV.str (aC T 3 σ).1] .own)=h35 at *;have o35:=o34.chg cB (by simp);have hst:h35.store (A,2) [SL.av ⟨some (h34.next,0),1,1,1⟩]=some (h35.put A (.row (tyc (4,[],⟨some (h34.next,0),1,1,1⟩,sl0,())) .own)):=o35.store1 (j:=2) (by show 2<4;omega) _;simp only [SL.av] at hst;simp only [Nat.zero_add];rw [hst,bA];have cp:=o35.put (tyc (4,[],⟨some (h34.next,0),1,1,1⟩,sl0,()));have hAl:A<h34.next:=o34.2;refine ⟨_,_,rfl,(x34.chg cB).chg1 cp hX,((c31.mono (by simp)).trans (c34.mono (by simp))).trans ((cB.mono (by simp)).trans (cp.mono (by simp))),iB o35 _,?_⟩
  have:=tAx (V:=fun C=>h.next≤C) (oB.chg cp (by rw [List.mem_singleton];omega)) rfl (Nat.le_trans c31.next c34.next) (pJ _ _ _)
  exact this
 ·simp only [q,decide_false,cond_false,if_false]
  exact ⟨sl0,_,rfl,x31,c31.mono (by simp),o31,Sl.nil _ _ _⟩
theorem gAv (hT:Toks T) (x:PA T P X h σ st) {A:Nat} {deep:Int} {R:zT2} {s1:SL} (oA:h.own A (tyc (4,[],s1,sl0,()))) (hX:A∈X) :
  ∃ h44,(kA (f92 N (some (P,0)) [109,117,116] h) fun (x39:Bool) h40=>
    (bif x39 then
    (uA (some (A,0)) fun q41=>
    (uA (h40.store (q41.1,q41.2+0) [(.int .i64 5)]) fun h42=>
    some ((some (P,0),deep,R,(some (A,0)),()),h42)))
    else
    some ((some (P,0),deep,R,(some (A,0)),()),h40)))=some ((some (P,0),deep,R,(some (A,0)),()),h44)∧PA T P X h44 (qB T [109,117,116] σ).2 st∧Chg [P,A] h h44∧h44.own A (tyc ((if (qB T [109,117,116] σ).1=true then 5 else 4),[],s1,sl0,())):=by
 obtain ⟨h40,e40,c40,x40⟩:=yAh (N:=N) hT x (w:=[109,117,116]) (by decide);rw [e40,aA];have o40:=oA.chg c40 (by have:=(x.xl A hX).1;simp;omega)
 cases hb:(qB T [109,117,116] σ).1 with
 | false=>
  simp only [cond_false,Bool.false_eq_true,if_false];exact ⟨_,rfl,x40,c40.mono (by simp),o40⟩
 | true=>
  simp only [cond_true,if_true,bA,Nat.zero_add,Nat.add_zero];have hst:h40.store (A,0) [.int .i64 5]=some (h40.put A (.row (tyc (5,[],s1,sl0,())) .own)):=o40.store1 (j:=0) (by show 0<4;omega) _;rw [hst,bA];have cp:=o40.put (tyc (5,[],s1,sl0,()));exact ⟨_,rfl,x40.chg1 cp hX,(c40.mono (by simp)).trans (cp.mono (by simp)),iB o40 _⟩
end
end Qp
namespace Qp
theorem tD {T:List Tok} {w:Bs} {σ:St} (h:(qB T w σ).1=false):(qB T w σ).2=σ:=by
 obtain ⟨i,e⟩:=σ
 cases e with
 | some q=>rfl
 | none=>
  simp only [qB] at h ⊢
  split at h
  ·cases h
  ·rename_i q;rw [if_neg q]
abbrev zt:List AV:=tyc (0,[],sl0,sl0,())
section
variable {N:Nat} {T:List Tok} {P:Nat} {st:Int}
theorem vAx (hT:Toks T) (hN:100≤N):∀ (g M:Nat) (h:Heap) (σ:St) (X:List Nat),g<M→g≤64→PA T P X h σ st→
  ∃ r h',f55 N M (some (P,0)) ((65-g:Nat):Int) h=some (r,h')∧PA T P X h' (fL T g σ).2 st∧Chg [P] h h'∧Dt h' (fun C=>h.next≤C) (fL T g σ).1 (tyc r):=by
 intro g
 induction g with
 | zero=>
  intro M h σ X hM hg x;obtain ⟨M,rfl⟩:∃ m,M=m+1:=⟨M-1,by omega⟩;rw [oAh];unfold aAv;have o1:=wA h zt;have c1:=vA h (.row zt .own);have x1:=x.add c1 (A:=h.next) (Nat.le_refl _) (Nat.lt_succ_self _);have e1:h.push (.row [(.int .i64 0),(.str []),(.slice none 0 0 0),(.slice none 0 0 0)] .own)=h.push (.row zt .own):=rfl;rw [e1];generalize h.push (.row zt .own)=h1 at *;have z:uB 64 ((65-0:Nat):Int)=true:=rfl;have hP:=x.P_lt;dsimp only;rw [z];simp only [cond_true];obtain ⟨h4,e4,c4,x4⟩:=nA0 (N:=N) x1 (c:=6) (by decide);rw [e4];simp only [aA,bA,Nat.zero_add];obtain ⟨v,k3,hv⟩:=x4.readE;simp only [k3,fA,wD,hv.ne 15,jB];have hs:(cF T 6 σ).2.isSome=true:=by obtain ⟨i,e⟩:=σ;cases e <;> rfl
  rw [hs];simp only [cond_true];have o4:=o1.chg c4 (by simp;omega);have cp:=o4.put zt;refine ⟨(0,[],sl0,sl0,()),_,uAx o4 (0,[],sl0,sl0,()) (fun x h=>some (x,h)),(x4.chg1 cp (by simp)).sub (by simp +contextual),?_,fN _ _ _ _⟩;exact ((c1.mono (by simp)).trans c4).step cp (fun A hA hl=>by rw [List.mem_singleton] at hA;omega)
 | succ g ih=>
  intro M h σ X hM hg x;obtain ⟨M,rfl⟩:∃ m,M=m+1:=⟨M-1,by omega⟩;rw [oAh];unfold aAv;have o1:=wA h zt;have c1:=vA h (.row zt .own);have x1:=x.add c1 (A:=h.next) (Nat.le_refl _) (Nat.lt_succ_self _);have e1:h.push (.row [(.int .i64 0),(.str []),(.slice none 0 0 0),(.slice none 0 0 0)] .own)=h.push (.row zt .own):=rfl;rw [e1];have n1:(h.push (.row zt .own)).next=h.next+1:=rfl;generalize h.push (.row zt .own)=h1 at *;have z:uB 64 ((65-(g+1):Nat):Int)=false:=by
   rw [show (64:Int)=((64:Nat):Int) from rfl,pG,decide_eq_false_iff_not];omega
  have hP:=x.P_lt;dsimp only;rw [z];simp only [cond_false,aA,bA,Nat.zero_add];obtain ⟨v,k3,hv⟩:=x1.readE;simp only [k3,fA,wD,hv.ne 15,jB];have fin:∀ {h':Heap} (c:Chg [P] h1 h') (r:TyV),Chg [P] h (h'.put h.next (.row (tyc r) .own)):=fun c r=>
   ((c1.mono (by simp)).trans c).put (.inr (Nat.le_refl _)) _
  obtain ⟨i,e⟩:=σ
  cases e with
  | some q=>
   simp only [Option.isSome_some,cond_true,fL];have cp:=o1.put zt;exact ⟨(0,[],sl0,sl0,()),_,uAx o1 (0,[],sl0,sl0,()) (fun x h=>some (x,h)),(x1.chg1 cp (by simp)).sub (by simp +contextual),fin (Chg.refl _ _) (0,[],sl0,sl0,()),fN _ _ _ _⟩
  | none=>
   simp only [Option.isSome_none,cond_false,fL];obtain ⟨h15,e15,c15,x15⟩:=yAh (N:=N) hT x1 (w:=[105,110,116]) (by decide);rw [e15,aA];have o15:=o1.chg c15 (by simp;omega)
   cases hb1:(qB T [105,110,116] (i,none)).1 with
   | true=>
    simp only [cond_true,if_true];have cp:=o15.put (tyc (1,[],sl0,sl0,()));exact ⟨(1,[],sl0,sl0,()),_,uAx o15 (1,[],sl0,sl0,()) (fun x h=>some (x,h)),(x15.chg1 cp (by simp)).sub (by simp +contextual),fin c15 (1,[],sl0,sl0,()),fN _ _ _ _⟩
   | false=>
   rw [tD hb1] at x15 ⊢;simp only [cond_false,Bool.false_eq_true,if_false];obtain ⟨h21,e21,c21,x21⟩:=yAh (N:=N) hT x15 (w:=[98,111,111,108]) (by decide);rw [e21,aA];have o21:=o15.chg c21 (by simp;omega);have c121:=c15.trans c21
   cases hb2:(qB T [98,111,111,108] (i,none)).1 with
   | true=>
    simp only [cond_true,if_true];have cp:=o21.put (tyc (2,[],sl0,sl0,()));exact ⟨(2,[],sl0,sl0,()),_,uAx o21 (2,[],sl0,sl0,()) (fun x h=>some (x,h)),(x21.chg1 cp (by simp)).sub (by simp +contextual),fin c121 (2,[],sl0,sl0,()),fN _ _ _ _⟩
   | false=>
   rw [tD hb2] at x21 ⊢;simp only [cond_false,Bool.false_eq_true,if_false];obtain ⟨h27,e27,c27,x27⟩:=wA3 (N:=N) hT x21 (w:=[38]) (by decide);rw [e27,aA];have o27:=o21.chg c27 (by simp;omega);have c127:=c121.trans c27;have hge:h.next+1≤h27.next:=by have:=c127.next;omega
   cases hb3:(qB T [38] (i,none)).1 with
   | true=>
    simp only [cond_true,if_true];have oA0:=wA h27 zt;have cA0:=vA h27 (.row zt .own);have eA:h27.push (.row [(.int .i64 0),(.str []),(.slice none 0 0 0),(.slice none 0 0 0)] .own)=h27.push (.row zt .own):=rfl;have hstA:=yA3 oA0 (4,[],sl0,sl0,());have nA:(h27.push (.row zt .own)).next=h27.next+1:=rfl;rw [eA,show (h27.push (.row zt .own)).store (h27.next,0) [(.int .i64 4),(.str []),(.slice none 0 0 0),(.slice none 0 0 0)]=_ from hstA,bA];have oA:=iB oA0 (tyc (4,[],sl0,sl0,()));have cA:Chg [] h27 ((h27.push (.row zt .own)).put h27.next (.row (tyc (4,[],sl0,sl0,())) .own)):=cA0.put (.inr (Nat.le_refl _)) _;have x29:=x27.add cA (A:=h27.next) (Nat.le_refl _) (Nat.lt_succ_self _);have n29:((h27.push (.row zt .own)).put h27.next (.row (tyc (4,[],sl0,sl0,())) .own)).next=h27.next+1:=rfl;have oR:=o27.chg cA (by simp);generalize (h27.push (.row zt .own)).put h27.next (.row (tyc (4,[],sl0,sl0,())) .own)=h29 at *;obtain ⟨s1,h38,e38,x38,c38,oA38,sl38⟩:=nAp (N:=N) hT x29 (deep:=((65-(g+1):Nat):Int)) (R:=some (h.next,0)) oA (by simp);simp only [Nat.zero_add] at e38;rw [e38,aA];obtain ⟨h44,e44,x44,c44,oA44⟩:=gAv (N:=N) hT x38 (deep:=((65-(g+1):Nat):Int)) (R:=some (h.next,0)) oA38 (by simp);simp only [bA,Nat.zero_add,Nat.add_zero] at e44;dsimp only;simp only [bA,Nat.zero_add,Nat.add_zero];rw [e44,aA];dsimp only;rw [rB (by omega),show 65-(g+1)+1=65-g by omega];obtain ⟨r,h47,e47,x47,c47,d47⟩:=ih M h44 _ _ (by omega) (by omega) x44;rw [e47,aA];have c2947:Chg [P,h27.next] h29 h47:=(c38.trans c44).trans (c47.mono (by simp));have oA47:=oA44.chg c47 (by simp;omega);have oR47:=oR.chg c2947 (by simp;omega);have hg47:=c2947.next;have h44n:h29.next≤h44.next:=(c38.trans c44).next;have oC:=wA h47 (tyc r);have cC:=vA h47 (.row (tyc r) .own);have eC:h47.push (.row [(.int .i64 r.1),(.str r.2.1),(.slice r.2.2.1.a r.2.2.1.len r.2.2.1.cap r.2.2.1.sz),(.slice r.2.2.2.1.a r.2.2.2.1.len r.2.2.2.1.cap r.2.2.2.1.sz)] .own)=h47.push (.row (tyc r) .own):=rfl;rw [eC];have oA48:=oA47.chg cC (by simp);have oR48:=oR47.chg cC (by simp);have x48:=x47.chg cC;have d48:=d47.chg cC (by simp);have nC:(h47.push (.row (tyc r) .own)).next=h47.next+1:=rfl;generalize h47.push (.row (tyc r) .own)=h48 at *;generalize hk:(if (qB T [109,117,116] (pA0 T (qB T [38] (i,none)).2).2).1=true then (5:Int) else 4)=k at *;have hst:h48.store (h27.next,3) [SL.av ⟨some (h47.next,0),1,1,4⟩]=some (h48.put h27.next (.row (tyc (k,[],s1,⟨some (h47.next,0),1,1,4⟩,())) .own)):=oA48.store1 (j:=3) (by show 3<4;omega) _;simp only [SL.av] at hst;simp only [bA,Nat.zero_add];rw [hst,bA];have cA5:=oA48.put (tyc (k,[],s1,⟨some (h47.next,0),1,1,4⟩,()));have oA5:=iB oA48 (tyc (k,[],s1,⟨some (h47.next,0),1,1,4⟩,()));have oR5:=oR48.chg cA5 (by simp;omega);have oC5:=oC.chg cA5 (by simp;omega);have x5:=x48.chg1 cA5 (by simp);have d5:=d48.chg cA5 (fun C hC=>by simp;omega);generalize h48.put h27.next (.row (tyc (k,[],s1,⟨some (h47.next,0),1,1,4⟩,())) .own)=h50 at *;rw [yAa oA5];have cR:=oR5.put (tyc (k,[],s1,⟨some (h47.next,0),1,1,4⟩,()));have cAll:Chg [P] h h50:=by
     have a1:Chg [P] h h27:=(c1.mono (by simp)).trans c127;have a2:Chg [P] h h29:=a1.trans (cA.mono (by simp));have a3:Chg [P] h h47:=a2.step c2947 (fun A hA hl=>by
      simp only [List.mem_cons,List.not_mem_nil,or_false] at hA ⊢;omega)
     have a4:Chg [P] h h48:=a3.trans (cC.mono (by simp));exact a4.step cA5 (fun A hA hl=>by rw [List.mem_singleton] at hA;omega)
    refine ⟨(k,[],s1,⟨some (h47.next,0),1,1,4⟩,()),_,uAx oR5 (k,[],s1,⟨some (h47.next,0),1,1,4⟩,()) (fun x h=>some (x,h)),(x5.chg1 cR (by simp)).sub (by simp +contextual),cAll.put (.inr (Nat.le_refl _)) _,?_⟩;refine eN.2 ⟨_,_,rfl,?_,?_⟩
    ·have hs:=sl38.chg c44 (fun C hC=>by simp;omega)
     have hs2:=hs.chg c47 (fun C hC=>by simp;omega);have hs3:=((hs2.chg cC (by simp)).chg cA5 (fun C hC=>by simp;omega)).chg cR (fun C hC=>by simp;omega);exact hs3.weak (fun C hC _=>by omega)
    ·refine tAx (V:=fun C=>h.next≤C) (oC5.chg cR (by simp;omega)) rfl (by omega) ?_
     exact (d5.chg cR (fun C hC=>by simp;omega)).weak (fun C hC _=>by omega)
   | false=>
    rw [tD hb3] at x27 ⊢;simp only [cond_false,Bool.false_eq_true,if_false];obtain ⟨h58,e58,c58,x58⟩:=qAx (N:=N) hT x27;rw [e58,aA];have o58:=o27.chg c58 (by simp;omega);have c158:=c127.trans c58;generalize hnm:(wH T (i,none)).1=nm at *;have hge2:h.next+1≤h58.next:=by have:=c158.next;omega
    have oA0:=wA h58 zt;have cA0:=vA h58 (.row zt .own);have eA:h58.push (.row [(.int .i64 0),(.str []),(.slice none 0 0 0),(.slice none 0 0 0)] .own)=h58.push (.row zt .own):=rfl;have hstA:=yA3 oA0 (3,nm,sl0,sl0,());rw [eA,show (h58.push (.row zt .own)).store (h58.next,0) [(.int .i64 3),(.str nm),(.slice none 0 0 0),(.slice none 0 0 0)]=_ from hstA,bA];have oA:=iB oA0 (tyc (3,nm,sl0,sl0,()));have cA:Chg [] h58 ((h58.push (.row zt .own)).put h58.next (.row (tyc (3,nm,sl0,sl0,())) .own)):=cA0.put (.inr (Nat.le_refl _)) _;have x60:=x58.add cA (A:=h58.next) (Nat.le_refl _) (Nat.lt_succ_self _);have n60:((h58.push (.row zt .own)).put h58.next (.row (tyc (3,nm,sl0,sl0,())) .own)).next=h58.next+1:=rfl;have oR:=o58.chg cA (by simp);generalize (h58.push (.row zt .own)).put h58.next (.row (tyc (3,nm,sl0,sl0,())) .own)=h60 at *;obtain ⟨s1,h62,e62,x62,c62,sl62⟩:=rAx (N:=N) hT hN x60;rw [e62,aA];have oA62:=oA.chg c62 (by simp;omega);have oR62:=oR.chg c62 (by simp;omega);have hst:h62.store (h58.next,2) [SL.av s1]=some (h62.put h58.next (.row (tyc (3,nm,s1,sl0,())) .own)):=oA62.store1 (j:=2) (by show 2<4;omega) _;simp only [SL.av] at hst;rw [hst,bA];have cA5:=oA62.put (tyc (3,nm,s1,sl0,()));have oA5:=iB oA62 (tyc (3,nm,s1,sl0,()));have oR5:=oR62.chg cA5 (by simp;omega);have x5:=x62.chg1 cA5 (by simp);have sl5:=sl62.chg cA5 (fun C hC=>by simp;omega);have hg62:=c62.next;generalize h62.put h58.next (.row (tyc (3,nm,s1,sl0,())) .own)=h63 at *;rw [yAa oA5];have cR:=oR5.put (tyc (3,nm,s1,sl0,()));have cAll:Chg [P] h h63:=by
     have a1:Chg [P] h h58:=(c1.mono (by simp)).trans c158;have a3:Chg [P] h h62:=(a1.trans (cA.mono (by simp))).trans c62;exact a3.step cA5 (fun A hA hl=>by rw [List.mem_singleton] at hA;omega)
    refine ⟨(3,nm,s1,sl0,()),_,uAx oR5 (3,nm,s1,sl0,()) (fun x h=>some (x,h)),(x5.chg1 cR (by simp)).sub (by simp +contextual),cAll.put (.inr (Nat.le_refl _)) _,?_⟩;refine eN.2 ⟨_,_,rfl,?_,Sl.nil _ _ _⟩;exact (sl5.chg cR (fun C hC=>by simp;omega)).weak (fun C hC _=>by omega)
end
end Qp
namespace Qp
structure PB (T:List Tok) (P:Nat) (h:Heap) (σ:St) (it st:Int):Prop where
 ex:∃ s c a,h.own P [SL.av s,.int .i64 (σ.1:Int),.int .i64 c,.int .i64 a,.int .i64 it,.int .i64 st]∧Sl h (fun C=>C<P) s (T.map tAa)∧(s.sz=3)∧(match σ.2 with
  | none=>c=0
  | some (c',a')=>c=c'∧a=a'∧c'≠0)
 lt:σ.1<T.length
section
variable {N:Nat} {T:List Tok} {P:Nat} {h h':Heap} {σ:St} {it st:Int}
end
end Qp
namespace Qp
section
variable {N:Nat} {T:List Tok} {P:Nat} {h h':Heap} {σ:St} {it st:Int}
end
end Qp
namespace Qp
section
variable {N:Nat} {T:List Tok} {P:Nat} {it st:Int} {h:Heap} {σ:St}
end
end Qp
namespace Qp
theorem aAb {t:Bs}:∀ {l:List Bs},t∈l→nAk t l=true
 | w::r,h=>by
  simp only [nAk];rcases List.mem_cons.1 h with rfl | h
  ·rw [eqB.2 rfl];rfl
  ·rw [aAb h];cases pB t w <;> rfl
theorem bAb {t:Bs} {k:Int} {x:Bs} {n:Nat} (h:eL t=some (k,x,n)):mA0 x=true:=by
 unfold eL at h
 cases hf:jA0 t two with
 | some p=>
  rw [hf] at h;simp only [Option.some.injEq,Prod.mk.injEq] at h;obtain ⟨rfl,rfl,rfl⟩:=h;simp only [mA0,aAb (oU hf).1,Bool.or_true]
 | none=>
  rw [hf] at h
  cases t with
  | nil=>cases h
  | cons c r=>
   simp only at h
   split at h
   ·rename_i hm
    simp only [Option.some.injEq,Prod.mk.injEq] at h;obtain ⟨rfl,rfl,rfl⟩:=h;simp only [mA0,hm,Bool.true_or]
   ·cases h
theorem wAk {t:Bs} {k:Int} {x:Bs} {n:Nat} (ht:t.length≤3000000) (h:jF t=some (k,x,n)) (a:Nat):TokOK (k,x,a)∧k≠0:=by
 cases t with
 | nil=>cases h
 | cons c r=>
  have hl:∀ n,((c::r).take n).length≤3000000:=fun n=>by rw [List.length_take];omega
  simp only [jF] at h
  split at h
  ·rename_i hc
   simp only [pU] at h
   split at h
   ·rename_i hw
    simp only [Option.some.injEq,Prod.mk.injEq] at h;obtain ⟨rfl,rfl,rfl⟩:=h;exact ⟨⟨fun _=>hw,fun h=>by simp at h,hl _,fun h=>by simp at h,fun h=>by simp at h,fun h=>by simp at h⟩,by decide⟩
   ·rename_i hw
    split at h
    ·rename_i h32
     simp only [Option.some.injEq,Prod.mk.injEq] at h;obtain ⟨rfl,rfl,rfl⟩:=h;refine ⟨⟨fun h=>by simp at h,fun h=>by simp at h,hl _,fun h=>by simp at h,fun _=>?_,fun h=>by simp at h⟩,by decide⟩;show yG _=true;unfold yG;rw [vA3];simp only [dP,hc,decide_eq_true h32,Bool.true_and,Bool.not_eq_true'] at hw ⊢;simpa using hw
    ·cases h
  ·split at h
   ·rename_i hd
    simp only [tA3] at h
    split at h
    ·rename_i hk
     simp only [Option.some.injEq,Prod.mk.injEq] at h;obtain ⟨rfl,rfl,rfl⟩:=h;have h1:runN (c::r)=runN r+1:=by simp [runN,vQ,hd]
     exact ⟨⟨fun h=>by simp at h,fun h=>by simp at h,hl _,fun _=>⟨hk,by rw [List.length_take,List.length_cons];omega⟩,fun h=>by simp at h,fun h=>by simp at h⟩,by decide⟩
    ·cases h
   ·split at h
    ·simp only [qU] at h
     split at h
     ·rename_i hh
      split at h
      ·rename_i h32
       simp only [Option.some.injEq,Prod.mk.injEq] at h;obtain ⟨rfl,rfl,rfl⟩:=h;simp only [List.length_cons] at ht;exact ⟨⟨fun h=>by simp at h,fun h=>by simp at h,by simp only [List.length_take];omega,fun h=>by simp at h,fun h=>by simp at h,fun _=>by rw [vA3,hh,decide_eq_true h32];rfl⟩,by decide⟩
      ·cases h
     ·cases h
    ·have hs:=bAb h
     obtain ⟨rfl,rfl,h1,h2⟩:=cW h;exact ⟨⟨fun h=>by simp at h,fun _=>hs,hl _,fun h=>by simp at h,fun h=>by simp at h,fun h=>by simp at h⟩,by decide⟩
theorem oAp:∀ (M:Nat) (t:Bs) (a:Nat) (l:List Tok),t.length≤3000000→oA8 M t a=.inl l→∀ q∈l,TokOK q∧q.1≠0
 | 0,t,a,l,_,h=>by cases h
 | M+1,[],a,l,_,h=>by
  simp only [oA8,Sum.inl.injEq] at h;subst h;simp
 | M+1,c::r,a,l,ht,h=>by
  simp only [oA8] at h
  split at h
  ·cases h
  ·rename_i k x n hn
   have h0:=wAk ht hn a
   split at h
   ·rename_i l' hl
    simp only [Sum.inl.injEq] at h;subst h;have ih:=oAp M _ _ l' (by rw [List.length_drop];omega) hl;intro q hq;rcases List.mem_cons.1 hq with rfl | hq
    ·exact h0
    ·exact ih q hq
   ·cases h
theorem qA0 {N:Nat} {s:Bs} (hs:s.length≤3000000) {T:List Tok} (h:qAk N s=.inl T) (hl:T.length≤2000000):Toks T∧0<T.length:=by
 unfold qAk at h
 split at h
 ·rename_i l hg
  simp only [Sum.inl.injEq] at h;subst h;have ok:=oAp N _ _ l (by rw [List.length_drop];omega) hg;refine ⟨⟨fun q hq=>?_,fun i hi h0=>?_,hl⟩,by simp⟩
  ·rcases List.mem_append.1 hq with hq | hq
   ·exact (ok q hq).1
   ·rw [List.mem_singleton] at hq;subst hq
    exact ⟨fun h=>by simp at h,fun h=>by simp at h,by simp,fun h=>by simp at h,fun h=>by simp at h,fun h=>by simp at h⟩
  ·rw [List.length_append,List.length_singleton] at hi ⊢
   by_cases q:i<l.length
   ·omega
   ·rw [List.getElem_append_right (by omega)] at h0
    simp at h0
 ·cases h
def iAv (N:Nat) (s:Bs):D×Er:=match qAk N s with
 | .inr a=>(tyD 0 [] [] [],some (20,(a:Int)))
 | .inl T=>
  let r:=fL T 64 (0,none)
  let σ:=if (tk T r.2.1).1=0 then r.2 else cF T 21 r.2
  if σ.2=none then (r.1,none) else (tyD 0 [] [] [],σ.2)
def gBg (h:Heap) (v:AV):Er→Prop
 | none=>v=AV.nilIface
 | some (c,a)=>lA0 h v c a
theorem pAp {h:Heap} {A B:Nat} {cs ds:List AV} (x:h.own A cs) (y:h.own B ds) (hl:cs.length≠ds.length):A≠B:=by
 intro e;subst e
 have:=x.1.symm.trans y.1
 simp only [Option.some.injEq,Blk.row.injEq,and_true] at this;exact hl (by rw [this])
section
variable {N:Nat} {s:Bs}
theorem pB7 (hs:s.length≤1000000) (hN:s.length<N) (hN2:100≤N) (h:Heap):∃ r h',f23 N s h=some (r,h')∧Chg [] h h'∧Dt h' (fun C=>h.next≤C) (iAv N s).1 (tyc r.1)∧gBg h' r.2.1 (iAv N s).2:=by
 unfold f23 iAv;have o1:=wA h zt;have c1:=vA h (.row zt .own);have e1:h.push (.row [(.int .i64 0),(.str []),(.slice none 0 0 0),(.slice none 0 0 0)] .own)=h.push (.row zt .own):=rfl;have n1:(h.push (.row zt .own)).next=h.next+1:=rfl;rw [e1];generalize h.push (.row zt .own)=h1 at *;dsimp only;obtain ⟨r2,h3,e3,c3,p3⟩:=oAx (by omega) hN (by omega) h1;rw [e3,aA];have o3:=o1.chg c3 (by simp);have c03:=c1.trans c3;have hn3:=c3.next
 cases hl:qAk N s with
 | inr a=>
  rw [hl] at p3;obtain ⟨F,f1,f2⟩:=p3;rw [f1,jO];simp only [fA,jB,cond_true];have hne:=pAp o3 f2 (by show (4:Nat)≠3;decide);have cp:=o3.put zt;exact ⟨((0,[],sl0,sl0,()),AV.iface 127 (.ptr (some (F,0))),()),_,uAx o3 (0,[],sl0,sl0,()) (fun x h=>some ((x,AV.iface 127 (.ptr (some (F,0))),()),h)),c03.put (.inr (Nat.le_refl _)) _,fN _ _ _ _,F,rfl,f2.chg cp (by simpa using fun e=>hne e.symm)⟩
 | inl T=>
  rw [hl] at p3;obtain ⟨pe,po,pl⟩:=p3;obtain ⟨hT,hT0⟩:=qA0 (by omega) hl (by omega);rw [pe,ne_nil];simp only [fA,jB,cond_false];have sl3:=po.sl;have hz:r2.1.sz=3:=by
   rcases po with ⟨_,_,_,h4⟩ | ⟨A,cs,st',vs,_,h2,_⟩
   ·have:T.length=0:=by rw [← List.length_map (f:=tAa),h4];rfl
    omega
   ·exact h2
  have oP:=wA h3 [SL.av r2.1,.int .i64 0,.int .i64 0,AV.nilIface];have cP:=vA h3 (.row [SL.av r2.1,.int .i64 0,.int .i64 0,AV.nilIface] .own);have eP:h3.push (.row [(.slice r2.1.a r2.1.len r2.1.cap r2.1.sz),(.int .i64 0),(.int .i64 0),AV.nilIface] .own)=h3.push (.row [SL.av r2.1,.int .i64 0,.int .i64 0,AV.nilIface] .own):=rfl;have nP:(h3.push (.row [SL.av r2.1,.int .i64 0,.int .i64 0,AV.nilIface] .own)).next=h3.next+1:=rfl;rw [eP];generalize h3.push (.row [SL.av r2.1,.int .i64 0,.int .i64 0,AV.nilIface] .own)=h7 at *;have x7:PA T h3.next [] h7 (0,none) 0:=⟨⟨r2.1,AV.nilIface,oP,(sl3.weak (W:=fun C=>C<h3.next) (fun C _ hlt=>hlt)).chg cP (by simp),hz,rfl⟩,hT0,by simp⟩;have oR7:=o3.chg cP (by simp);obtain ⟨r8,h9,e9,x9,c9,d9⟩:=vAx (N:=N) hT hN2 64 N h7 _ _ (by omega) (by omega) x7;rw [show ((65-64:Nat):Int)=1 from rfl] at e9;rw [e9,aA];have oR9:=oR7.chg c9 (by simp;omega);have oB0:=wA h9 zt;have cB0:=vA h9 (.row zt .own);have eB:h9.push (.row [(.int .i64 0),(.str []),(.slice none 0 0 0),(.slice none 0 0 0)] .own)=h9.push (.row zt .own):=rfl;have nB:(h9.push (.row zt .own)).next=h9.next+1:=rfl;have hstB:=yA3 oB0 r8;rw [eB,hstB,bA];have oB:=iB oB0 (tyc r8);have cB:Chg [] h9 ((h9.push (.row zt .own)).put h9.next (.row (tyc r8) .own)):=cB0.put (.inr (Nat.le_refl _)) _;have nB2:((h9.push (.row zt .own)).put h9.next (.row (tyc r8) .own)).next=h9.next+1:=rfl;generalize (h9.push (.row zt .own)).put h9.next (.row (tyc r8) .own)=h11 at *;have x11:=x9.chg cB;have oR11:=oR9.chg cB (by simp);have d11:=d9.chg cB (by simp);have hn9:=c9.next;obtain ⟨h13,e13,c13⟩:=iM (N:=N) x11;rw [e13,aA];have x13:=x11.chg c13;have oR13:=oR11.chg c13 (by simp);have oB13:=oB.chg c13 (by simp);have d13:=d11.chg c13 (by simp);have c013:Chg [h3.next] h h13:=(((c03.mono (by simp)).trans (cP.mono (by simp))).trans c9).trans ((cB.trans c13).mono (by simp));generalize fL T 64 (0,none)=rr at *;have tail:∀ (hh:Heap) (σ:St),PA T h3.next [] hh σ 0→Chg [h3.next] h13 hh→∃ r h',
    (iA (.val zZ2) (hh.cell (h3.next,3)) fun (x17:AV)=>
    (iA (.val zX2) (wJ E .neq 29 (.tmp 31) (.const .nilIface) x17 AV.nilIface) fun (x18:Bool)=>
    (bif x18 then
     (iA (.val zZ2) (hh.cell (h3.next,3)) fun (x19:AV)=>
     (uA (hh.store (h.next,0) [(.int .i64 0),(.str []),(.slice none 0 0 0),(.slice none 0 0 0)]) fun h20=>
     (uE (bif (mC (h20.cell (h3.next,3)) x19) then (bif (mC (hh.cell (h3.next,3)) x19) then true else false) else false) (
     (iA (.val zC) (h20.cells (h.next,0) 4) fun (x21:zP)=>
     some (((x21.1,x21.2.1,x21.2.2.1,x21.2.2.2.1,()),x19,()),h20))))))
    else
     (iA (.val zC) (hh.cells (h9.next,0) 4) fun (x22:zP)=>
     (uA (hh.store (h.next,0) [(.int .i64 x22.1),(.str x22.2.1),(.slice x22.2.2.1.a x22.2.2.1.len x22.2.2.1.cap x22.2.2.1.sz),(.slice x22.2.2.2.1.a x22.2.2.2.1.len x22.2.2.2.1.cap x22.2.2.2.1.sz)]) fun h23=>
     (iA (.val zC) (h23.cells (h.next,0) 4) fun (x24:zP)=>
     some (((x24.1,x24.2.1,x24.2.2.1,x24.2.2.2.1,()),AV.nilIface,()),h23)))))))=some (r,h')∧Chg [] h h'∧Dt h' (fun C=>h.next≤C) (if σ.2=none then (rr.1,none) else (tyD 0 [] [] [],σ.2):D×Er).1 (tyc r.1)∧gBg h' r.2.1 (if σ.2=none then (rr.1,none) else (tyD 0 [] [] [],σ.2):D×Er).2:=by
   intro hh σ x c;obtain ⟨v,k3,hv⟩:=x.readE;have oR:=oR13.chg c (by simp;omega);have oBh:=oB13.chg c (by simp;omega);have dh:=d13.chg c (by intro C hC;simp;omega);have c0:Chg [h3.next] h hh:=c013.trans c;have oPh:∃ cs,hh.own h3.next cs:=by obtain ⟨⟨s',v',g1,_⟩,_⟩:=x;exact ⟨_,g1⟩
   simp only [k3,fA,wD,hv.ne 31,jB];obtain ⟨i,e⟩:=σ
   cases e with
   | none=>
    simp only [Option.isSome_none,cond_false,if_true];rw [yAa oBh];have cR:=oR.put (tyc r8);refine ⟨(r8,AV.nilIface,()),_,uAx oR r8 (fun x h=>some ((x,AV.nilIface,()),h)),(c0.put (.inr (Nat.le_refl _)) _).cut (fun A hA hlt=>?_),?_,rfl⟩
    ·rw [List.mem_singleton] at hA;omega
    ·exact (dh.chg cR (fun C hC=>by simp;omega)).weak (fun C hC _=>by omega)
   | some q=>
    obtain ⟨c',a'⟩:=q;simp only [Option.isSome_some,cond_true];obtain ⟨F,f1,f2,f3⟩:=hv;have hst:hh.store (h.next,0) [(.int .i64 0),(.str []),(.slice none 0 0 0),(.slice none 0 0 0)]=some (hh.put h.next (.row zt .own)):=yA3 oR (0,[],sl0,sl0,());have cR:=oR.put zt;obtain ⟨⟨s',v',g1,g2⟩,g3⟩:=x;have hv':v'=v:=by
     have:=g1.cell 3
     rw [k3] at this;simpa using this.symm
    have kP:(hh.put h.next (.row zt .own)).cell (h3.next,3)=some v:=by
     rw [(g1.chg cR (by simp;omega)).cell 3,← hv'];rfl
    rw [hst,bA];simp only [kP,k3,rD,cond_true,yC];have hne:=pAp oR f3 (by show (4:Nat)≠3;decide);rw [yAa (iB oR _)];refine ⟨((0,[],sl0,sl0,()),v,()),_,rfl,(c0.put (.inr (Nat.le_refl _)) _).cut (fun A hA hlt=>?_),fN _ _ _ _,F,f1,f3.chg cR (by simpa using fun e=>hne e.symm)⟩;rw [List.mem_singleton] at hA;omega
  simp only [tAh,eqI,Nat.zero_add]
  by_cases q0:(tk T rr.2.1).1=0
  ·simp only [q0,decide_true,Bool.not_true,cond_false,if_true]
   exact tail h13 rr.2 x13 (Chg.refl _ _)
  ·simp only [q0,decide_false,Bool.not_false,cond_true,if_false]
   obtain ⟨h16,e16,c16,x16⟩:=nA0 (N:=N) x13 (c:=21) (by decide);rw [e16,aA];exact tail h16 _ x16 c16
end
end Qp
namespace Qp
section
variable {N:Nat} {s:Bs}
end
end Qp
namespace Qp
def isTy:Nat→D→Prop
 | 0,_=>False
 | m+1,d=>∃ k x lv el,d=tyD k x lv el∧lv.length≤1000∧el.length≤1000∧∀ e∈el,isTy m e
theorem isTy.up:∀ {m:Nat} {d:D},isTy m d→∀ {m':Nat},m≤m'→isTy m' d
 | m+1,d,⟨k,x,lv,el,h1,h2,h3,h4⟩,m'+1,hm=>⟨k,x,lv,el,h1,h2,h3,fun e he=>(h4 e he).up (Nat.le_of_succ_le_succ hm)⟩
theorem aA4 (T:List Tok):∀ (g:Nat) (σ:St),(eI T g σ).1.length≤g
 | 0,σ=>by simp [eI]
 | g+1,σ=>by
  simp only [eI]
  split
  ·have:=aA4 T g (qB T [44] (aC T 3 σ).2).2
   simp only [List.length_cons];omega
  ·simp
theorem bA4 (T:List Tok) (σ:St):(fI T σ).1.length≤64:=by
 simp only [fI]
 split
 ·exact aA4 _ _ _
 ·simp
theorem qAp (T:List Tok):∀ (g:Nat) (σ:St),isTy (g+1) (fL T g σ).1
 | 0,σ=>⟨0,[],[],[],rfl,by simp,by simp,by simp⟩
 | g+1,(i,some e)=>⟨0,[],[],[],rfl,by simp,by simp,by simp⟩
 | g+1,(i,none)=>by
  simp only [fL]
  split
  ·exact ⟨1,[],[],[],rfl,by simp,by simp,by simp⟩
  split
  ·exact ⟨2,[],[],[],rfl,by simp,by simp,by simp⟩
  split
  ·refine ⟨_,_,_,_,rfl,?_,by simp,fun e he=>?_⟩
   ·simp only [pA0];split <;> simp
   ·rw [List.mem_singleton] at he;subst he;exact qAp T g _
  ·exact ⟨_,_,_,_,rfl,by have:=bA4 T (wH T (qB T [38] (qB T [98,111,111,108] (qB T [105,110,116] (i,none)).2).2).2).2;omega,by simp,by simp⟩
section
variable {N:Nat} {h h':Heap} {V W:Nat→Prop}
theorem cAb {s:SL} {xs:List Bs} (x:Sl h V s (xs.map D.s)) {i:Nat} (hi:i<xs.length):h.cell (s.at i 1)=some (.str xs[i]):=by
 obtain ⟨cs,e⟩:=x.elt (i:=i) (by rw [List.length_map];exact hi);have hd:=e.dt;rw [List.getElem_map] at hd;simp only [Dt] at hd;have hl:=e.len;rw [hd] at hl;have hz:s.sz=1:=by simpa using hl.symm
 have:=e.cell 0 (by omega)
 rw [hz,hd] at this;simpa using this
theorem aT {β:Type} (p:zT2) (K:zW→Option β):iA (.tup [zU2,zX2]) (vI E (.iface 127 (.ptr p)) 127 true) K=K (p,true,()):=by
 have:vI E (.iface 127 (.ptr p)) 127 true=some (rA8 true (.ptr p)):=by kernel_rfl
 rw [this];rfl
theorem aAi {β:Type} (c:Int) (K:zW→Option β):iA (.tup [zU2,zX2]) (vI E (.iface 78 (.int .i64 c)) 127 true) K=K (none,false,()):=by
 have:vI E (.iface 78 (.int .i64 c)) 127 true=dV E 127 true:=by kernel_rfl
 rw [this]
 have:dV E 127 true=some (.tuple [.ptr none,.bool false]):=by kernel_rfl
 rw [this];rfl
end
end Qp
namespace Qp
end Qp
namespace Qz
open Qa
def asF (a b:AV) (h:Heap):Option (Bool×Heap):=match asN [a,b] h with
 | some (.bool r,h')=>some (r,h')
 | _=>none
theorem gA6 (_N:Nat):cD Tryz.prog 192 [(.one .any),(.one .any)] (.val (.one .bool)) (fun x h=>asF x.1 x.2.1 h):=by
 intro xs h r h' hx μ w args' hr hv;have hx':asF xs.1 xs.2.1 h=some (r,h'):=hx;unfold asF at hx'
 split at hx'
 ·rename_i b hh he
  simp only [Option.some.injEq,Prod.mk.injEq] at hx';obtain ⟨rfl,rfl⟩:=hx';exact nBd he hr hv
 ·cases hx'
end Qz
namespace Qw
open Go.RowKit Go.Stop
theorem rAp (w:World):Calls Tryz.prog 258 #[.string ⟨#[]⟩] w fun e w'=>e=.returned (.string ⟨#[]⟩)∧w'=w:=by
 go_enter Tryz.func258,Tryz.ntmps258
 go_wp2
 all_goals (go_ret;exact ⟨rfl,rfl⟩)
theorem wBg (s:ByteArray) (T:TypeId) (a:Addr) (w:World) (hg:w.cell? ⟨3,0,none⟩=some (.iface T (.pointer (some a)))):Calls Tryz.prog 246 #[.string s,.string ⟨#[]⟩] w fun e w'=>e=.returned (.pointer (some ⟨w.heap.size,0,none⟩))∧(w'.Alike (w.alloc (.cells #[.string s,.string ⟨#[]⟩,.iface T (.pointer (some a))] 271))∧w'.tape=w.tape):=by
 go_enter Tryz.func246,Tryz.ntmps246
 go_wp2
 go_region_with (go_at_call 258;refine (rAp _).mono ?_;rintro e w' ⟨rfl,rfl⟩)
 all_goals (try go_wp2)
 all_goals (go_ret;exact ⟨rfl,⟨rfl,rfl,rfl⟩,rfl⟩)
set_option maxRecDepth 100000 in
theorem kBe (s:ByteArray) (T:TypeId) (a:Addr) (n m:Int) (w:World) (hg:w.cell? ⟨3,0,none⟩=some (.iface T (.pointer (some a)))):Calls Tryz.prog 234 #[.string s,.string ⟨#[]⟩,.int .i64 n,.int .i64 m,.iface 256 (.int .i64 2)] w fun e w'=>e=.returned (.iface 259 (.pointer (some ⟨w.heap.size,0,none⟩)))∧(w'.Alike (w.alloc (.cells #[.string s,.string ⟨#[]⟩,.iface T (.pointer (some a))] 271))∧w'.tape=w.tape):=by
 have he:∀ w,(binOp .eql 29 (.iface 256 (.int .i64 2)) (.iface 256 (.int .i64 2))).run Tryz.prog w=.ok (.bool true) w:=fun w=>by kernel_rfl
 go_enter Tryz.func234,Tryz.ntmps234
 go_wp2_with (go_at_call 246;refine (wBg s T a _ hg).mono ?_;rintro e w' ⟨rfl,hw⟩)
 all_goals (go_ret;exact ⟨rfl,hw⟩)
open Ai Qa
def jB0:Ai.Loc:=⟨3,0,1,false⟩
def sen:AV:=.iface 275 (.ptr (some (3,0)))
def pinned (h:Heap):Bool:=Qx.pinned h&&yZ 2 jB0 h.pins&&tA5 (h.t.get 2) [sen]
def uBc:AV→Bool
 | .iface t (.int .i64 n)=>Nat.beq t 256&&pA n 2
 | _=>false
def dAb (s u:List UInt8) (_n _m:Int) (e:AV) (h:Heap):Option (AV×Heap):=bif pB u []&&uBc e&&pinned h then some (.iface 259 (.ptr (some (h.next,0))),h.push (.row [.str s,.str [],sen] .own)) else none
theorem kB0 {e:AV} (h:uBc e=true):e=.iface 256 (.int .i64 2):=by
 unfold uBc at h
 split at h
 ·rename_i t n
  simp only [Bool.and_eq_true] at h;have h2:=h.2;rw [fAa,decide_eq_true_eq] at h2;rw [Nat.eq_of_beq_eq_true h.1,h2]
 ·cases h
theorem gAe (_N:Nat):cD Tryz.prog 234 [(.one .str),(.one .str),(.one (.int .i64)),(.one (.int .i64)),(.one .any)] (.val (.one .any)) (fun x h=>dAb x.1 x.2.1 x.2.2.1 x.2.2.2.1 x.2.2.2.2.1 h):=by
 intro xs h r h' hx μ w args' hr hv;obtain ⟨s,u,n,m,e,_⟩:=xs;have hx':dAb s u n m e h=some (r,h'):=hx;unfold dAb at hx'
 cases hb:(pB u []&&uBc e&&pinned h) with
 | false=>rw [hb] at hx';cases hx'
 | true=>
  rw [hb] at hx';simp only [cond_true,Option.some.injEq,Prod.mk.injEq] at hx';obtain ⟨rfl,rfl⟩:=hx';simp only [Bool.and_eq_true,pinned] at hb;obtain ⟨⟨b1,b2⟩,⟨_,b3⟩,b4⟩:=hb;rw [yF,beq_iff_eq] at b1;subst b1;have b2:=kB0 b2;subst b2;have hv':VRs μ [.str s,.str [],.int .i64 n,.int .i64 m,.iface 256 (.int .i64 2)] args'.toList:=hv;simp only [VRs,VR] at hv';obtain ⟨y1,ys1,e1,rfl,y2,ys2,e2,rfl,y3,ys3,e3,rfl,y4,ys4,e4,rfl,y5,ys5,e5,⟨z,rfl,rfl⟩,e6⟩:=hv';subst e2 e3 e4 e5 e6;have ea:args' = #[.string ⟨s.toArray⟩,.string ⟨[].toArray⟩,.int .i64 n,.int .i64 m,.iface 256 (.int .i64 2)]:=by rw [← Array.toList_inj,e1]
  subst ea;have hm2:=hr.pin _ (wM b3);have hrow:RowR μ w jB0 [sen]:=hr.blk 2 jB0 _ hm2 (lAh b4);obtain ⟨y,h1,h2⟩:=hrow.cell 0 sen rfl;have hse:=h2;simp only [sen,VR] at h2;obtain ⟨x',rfl,l,hl,rfl⟩:=h2;refine ⟨mA5 mBd (fn:=Tryz.f234) (by kernel_rfl) (by kernel_rfl) _ _,(kBe ⟨s.toArray⟩ 275 ⟨l.b,l.sh+0,none⟩ n m w h1).mono ?_⟩;rintro ev w' ⟨rfl,⟨q1,q2,q3⟩,q4⟩;have hvs:VRs μ [.str s,.str [],sen] (#[.string ⟨s.toArray⟩,.string ⟨#[]⟩,.iface 275 (.pointer (some ⟨l.b,l.sh+0,none⟩))]:Array Value).toList:=VRs.cons (by simp only [VR]) (VRs.cons (by simp only [VR]) (VRs.cons hse VRs.nil));obtain ⟨l',g1,g2,g3,g4,g5,g6⟩:=hr.pushRow _ _ 271 hvs;have hbel:Below (w.alloc (.cells #[.string ⟨s.toArray⟩,.string ⟨#[]⟩,.iface 275 (.pointer (some ⟨l.b,l.sh+0,none⟩))] 271)).heap.size (w.alloc (.cells #[.string ⟨s.toArray⟩,.string ⟨#[]⟩,.iface 275 (.pointer (some ⟨l.b,l.sh+0,none⟩))] 271)) w':=⟨q2,q4,q3,by rw [q1];exact Nat.le_refl _,fun k _=>by rw [q1]⟩;refine ⟨_,rfl,μ.add h.next l',?_,g5.below hbel,Ext.trans hr g6 (Ext.of_below hbel)⟩;show VR _ (.iface 259 (.ptr (some (h.next,0)))) _;simp only [VR];refine ⟨_,rfl,l',by simp [Mu.add],?_⟩;rw [g1,g2]
end Qw
namespace Qp
noncomputable section
def f154 (N:Nat) (a0:zT2) (h:Heap):Option (zG1×Heap):=let h1:=h.push (.row yZF .own);(kA (f94 N a0 1 h1) fun (x2:zA3) h3=>let h4:=h3.push (.row yZF .own);(uA (h4.store (h3.next,0) [(.bool false),(.str x2),(.int .i64 0),(.str []),(.slice none 0 0 0),(.slice none 0 0 0)]) fun h5=>(kA (f149 N a0 [58] h5) fun (x6:(Unit)) h7=>(kA (f55 N N a0 1 h7) fun (x8:zP) h9=>(uA (h9.store ((h3.next,0).1,(h3.next,0).2+2) (yRC x8)) fun h10=>(iA (.val zJ) (h10.cells (h3.next,0) 6) fun (x11:zG1)=>(uA (h10.store (h.next,0) (yRG x11)) fun h12=>(iA (.val zJ) (h12.cells (h.next,0) 6) fun (x13:zG1)=>some ((x13.1,x13.2.1,x13.2.2.1,x13.2.2.2.1,x13.2.2.2.2.1,x13.2.2.2.2.2.1,()),h12)))))))))
def qB7:Ann:=.n
theorem iAe (N:Nat):cD Tryz.prog 154 [zU2] (.val zJ) (fun x h=>f154 N x.1 h):=pD (dA (aN N) (dA (uAo N) (dA (bJ N) lA))) N qB7 Tryz.f154
def f153 (N:Nat) (a0 a1:zT2) (h:Heap):Option ((Unit)×Heap):=(uA a0 fun q1=>(iA (.val zV2) (h.cell (q1.1,q1.2+3)) fun (x2:SL)=>(uA a1 fun q3=>(iA (.val zU2) (h.cell q3) fun (x4:zT2)=>(kA (f154 N x4 h) fun (x5:zG1) h6=>let h7:=h6.push (.row (yRG x5) .own);(fG (.val zV2) (pC E 37 37 (.slice x2.a x2.len x2.cap x2.sz) (.slice (some (h6.next,0)) 1 1 6) h7) fun (x8:SL) h9=>(uA a0 fun q10=>(uA (h9.store (q10.1,q10.2+3) [(.slice x8.a x8.len x8.cap x8.sz)]) fun h11=>(uE (bif (pE a1 fun q=>mC (h.cell q) (.ptr x4)) then (bif (mC (h7.cell (q1.1,q1.2+3)) (.slice x2.a x2.len x2.cap x2.sz)) then (bif (mC (h6.cell (q1.1,q1.2+3)) (.slice x2.a x2.len x2.cap x2.sz)) then (bif (mC (h.cell (q1.1,q1.2+3)) (.slice x2.a x2.len x2.cap x2.sz)) then true else false) else false) else false) else false) ( some ((()),h11)))))))))))
def rB7:Ann:=.n
theorem lB0 (N:Nat):cD Tryz.prog 153 [zU2,zU2] (.tup []) (fun x h=>f153 N x.1 x.2.1 h):=pD (dA (iAe N) lA) N rB7 Tryz.f153
def gL (N:Nat) (go:zT2→zA3→zM→Int→Heap→Option (Out×(Unit)×Heap)) (v0:zT2) (v1:zA3) (v2:zM) (v6:Int) (h:Heap):Option (Out×(Unit)×Heap):=(kA (f188 N v0 v6 h) fun (x1:Bool) h2=>(bif x1 then(kA (f153 N v2.1 v2.2.1 h2) fun (x3:(Unit)) h4=>(kA (f93 N v0 v1 h4) fun (x5:Bool) h6=>let x7:=!x5;(bif x7 then some (Out.ret,(()),h6)else let x8:=bB .i64 (v6+1);go v0 v1 (v2.1,v2.2.1,()) x8 h6)))else some ((Out.exit 0),(()),h2)))
def iL (N M:Nat) (v0:zT2) (v1:zA3) (v2:zM) (v6:Int) (h:Heap):Option (Out×(Unit)×Heap):=iter (fun go s h=>gL N (fun v0 v1 v2 v6 h=>go (v0,v1,v2,v6,()) h) s.1 s.2.1 s.2.2.1 s.2.2.2.1 h) M (v0,v1,v2,v6,()) h
theorem uW (N M v0 v1 v2 v6 h):iL N (M+1) v0 v1 v2 v6 h=gL N (iL N M) v0 v1 v2 v6 h:=rfl
def aY (N:Nat) (a0:zT2) (a1:zA3) (a2:zM) (h:Heap):Option ((Unit)×Heap):=(eE (iL N N a0 a1 (a2.1,a2.2.1,()) 0 h) fun o9 (j10:(Unit)) h11=>(bif mD o9 (.exit 0) then some ((()),h11)else some ((()),h11)))
def yAk:Ann:=(.two .n (.two (.loop [(0,zU2),(1,zW2),(2,(.clo 153 [.ptr,.ptr])),(6,zY2)] [(.exit 0),.ret] [] .n) .n))
theorem jAe (N:Nat):cD Tryz.prog 147 [zU2,zW2,(.clo 153 [.ptr,.ptr])] (.tup []) (fun x h=>aY N x.1 x.2.1 x.2.2.1 h):=pD (dA (qG N) (dA (bN N) (dA (lB0 N) lA))) N yAk Tryz.f147
def f102 (N:Nat) (a0:zT2) (a1:Bool) (a2:Int) (h:Heap):Option (zD1×Heap):=let h1:=h.push (.row [(.ptr a0)] .own);let h2:=h1.push (.row yZG .own);(iA (.val zU2) (h2.cell (h.next,0)) fun (x3:zT2)=>(kA (f94 N x3 1 h2) fun (x4:zA3) h5=>let h6:=h5.push (.row yZG .own);(uA (h6.store (h5.next,0) [(.bool a1),(.str x4),(.slice none 0 0 0),(.slice none 0 0 0),(.int .i64 a2)]) fun h7=>(iA (.val zU2) (h7.cell (h.next,0)) fun (x8:zT2)=>(kA (f96 N x8 h7) fun (x9:SL) h10=>(uA (h10.store ((h5.next,0).1,(h5.next,0).2+2) [(.slice x9.a x9.len x9.cap x9.sz)]) fun h11=>(iA (.val zU2) (h11.cell (h.next,0)) fun (x12:zT2)=>(kA (f149 N x12 [123] h11) fun (x13:(Unit)) h14=>(iA (.val zU2) (h14.cell (h.next,0)) fun (x15:zT2)=>(kA (f93 N x15 [125] h14) fun (x16:Bool) h17=>let x18:=!x16;(bif x18 then(iA (.val zU2) (h17.cell (h.next,0)) fun (x19:zT2)=>(kA (aY N x19 [44] ((some (h5.next,0)),(some (h.next,0)),()) h17) fun (x20:(Unit)) h21=>(iA (.val zU2) (h21.cell (h.next,0)) fun (x22:zT2)=>(kA (f149 N x22 [125] h21) fun (x23:(Unit)) h24=>(iA (.val zH) (h24.cells (h5.next,0) 5) fun (x25:zD1)=>(uA (h24.store (h1.next,0) (yRH x25)) fun h26=>(iA (.val zH) (h26.cells (h1.next,0) 5) fun (x27:zD1)=>some ((x27.1,x27.2.1,x27.2.2.1,x27.2.2.2.1,x27.2.2.2.2.1,()),h26))))))))else(iA (.val zH) (h17.cells (h5.next,0) 5) fun (x28:zD1)=>(uA (h17.store (h1.next,0) (yRH x28)) fun h29=>(iA (.val zH) (h29.cells (h1.next,0) 5) fun (x30:zD1)=>some ((x30.1,x30.2.1,x30.2.2.1,x30.2.2.2.1,x30.2.2.2.2.1,()),h29)))))))))))))))
def tB7:Ann:=.n
theorem mB0 (N:Nat):cD Tryz.prog 102 [zU2,zX2,zY2] (.val zH) (fun x h=>f102 N x.1 x.2.1 x.2.2.1 h):=pD (dA (mAx N) (dA (aN N) (dA (qG N) (dA (bJ N) (qC (sel:=fun a=>bL 2 153 a) (jAe N) lA))))) N tB7 Tryz.f102
def f192 (N:Nat) (a0 a1:AV) (h:Heap):Option (Bool×Heap):=Qz.asF a0 a1 h
theorem gA6 (N:Nat):cD Tryz.prog 192 [zZ2,zZ2] (.val zX2) (fun x h=>f192 N x.1 x.2.1 h):=Qz.gA6 N
def f191 (N:Nat) (a0:AV) (h:Heap):Option (zT2×Heap):=let h1:=h.push (.row [(.ptr none)] .own);(iA (.val zX2) (wJ E .neq 29 (.tmp 4) (.const .nilIface) a0 AV.nilIface) fun (x2:Bool)=>(bif x2 then(kA (f192 N a0 (AV.iface 214 (.ptr (some (h.next,0)))) h1) fun (x3:Bool) h4=>(bif x3 then(iA (.val zU2) (h4.cell (h.next,0)) fun (x5:zT2)=>some (x5,h4))else some (none,h4)))else some (none,h1)))
def uB7:Ann:=.n
theorem nB0 (N:Nat):cD Tryz.prog 191 [zZ2] (.val zU2) (fun x h=>f191 N x.1 h):=pD (dA (gA6 N) lA) N uB7 Tryz.f191
def f159 (N:Nat) (a0:AV) (h:Heap):Option (Int×Heap):=(iA (.val zX2) (wJ E .eql 29 (.tmp 5) (.const .nilIface) a0 AV.nilIface) fun (x1:Bool)=>(bif x1 then some (0,h)else(kA (f191 N a0 h) fun (x2:zT2) h3=>let x4:Bool:=(!x2.isNone);(bif x4 then(uA x2 fun q5=>(iA (.val zY2) (h3.cell (q5.1,q5.2+0)) fun (x6:Int)=>some (x6,h3)))else let h7:=h3.push (.row yZL .own);(kA (f192 N a0 (AV.iface 199 (.ptr (some (h3.next,0)))) h7) fun (x8:Bool) h9=>(bif x8 then(iA (.val zY2) (h9.cell (h3.next,0)) fun (x10:Int)=>some (x10,h9))else some (1,h9)))))))
def vB7:Ann:=.n
theorem pB0 (N:Nat):cD Tryz.prog 159 [zZ2] (.val zY2) (fun x h=>f159 N x.1 h):=pD (dA (gA6 N) (dA (nB0 N) lA)) N vB7 Tryz.f159
def wAx:Ann:=.n
def f104 (N:Nat) (a0:AV) (a1:Int) (h:Heap):Option (AV×Heap):=runK E (aJ 159 [zZ2] (.val zY2) (fun x h=>f159 N x.1 h) uAn) N wAx Tryz.f104 (Tryz.f104.body.getD .skip) (.val zZ2) [a0,.int .i64 a1] h
theorem qB0 (N:Nat):cD Tryz.prog 104 [zZ2,zY2] (.val zZ2) (fun x h=>f104 N x.1 x.2.1 h):=dAo jB6 pBd (dA (pB0 N) lA) (N:=N) (x:=wAx) (fn:=Tryz.f104) (c:=Tryz.f104.body.getD .skip) (by kernel_rfl) (by kernel_rfl) (by kernel_rfl) (by kernel_rfl) (fun _ _=>rfl)
theorem jAv (N:Nat) (a1:Int) (h:Heap):f104 N AV.nilIface a1 h=some (AV.nilIface,h):=by kernel_rfl
theorem aAl (N:Nat) (p:zT2) (a1:Int) (h:Heap):f104 N (AV.iface 127 (.ptr p)) a1 h=(kA (f159 N (AV.iface 127 (.ptr p)) h) fun (x2:Int) h3=>
  let h4:=h3.push (.row [(.int .i64 x2),(.int .i64 a1),(AV.iface 127 (.ptr p))] .own)
  some ((AV.iface 127 (.ptr (some (h3.next,0)))),h4)):=by kernel_rfl
def f189 (N:Nat) (a0 a1:zT2) (h:Heap):Option ((Unit)×Heap):=(uA a0 fun q1=>(iA (.val zV2) (h.cell (q1.1,q1.2+1)) fun (x2:SL)=>(uA a1 fun q3=>(iA (.val zU2) (h.cell q3) fun (x4:zT2)=>(kA (f94 N x4 3 h) fun (x5:zA3) h6=>let h7:=h6.push (.row [(.str x5)] .own);(fG (.val zV2) (pC E 38 38 (.slice x2.a x2.len x2.cap x2.sz) (.slice (some (h6.next,0)) 1 1 1) h7) fun (x8:SL) h9=>(uA a0 fun q10=>(uA (h9.store (q10.1,q10.2+1) [(.slice x8.a x8.len x8.cap x8.sz)]) fun h11=>(uE (bif (pE a1 fun q=>mC (h.cell q) (.ptr x4)) then (bif (mC (h7.cell (q1.1,q1.2+1)) (.slice x2.a x2.len x2.cap x2.sz)) then (bif (mC (h6.cell (q1.1,q1.2+1)) (.slice x2.a x2.len x2.cap x2.sz)) then (bif (mC (h.cell (q1.1,q1.2+1)) (.slice x2.a x2.len x2.cap x2.sz)) then true else false) else false) else false) else false) ( some ((()),h11)))))))))))
def wB7:Ann:=.n
theorem rB0 (N:Nat):cD Tryz.prog 189 [zU2,zU2] (.tup []) (fun x h=>f189 N x.1 x.2.1 h):=pD (dA (aN N) lA) N wB7 Tryz.f189
def jL (N:Nat) (go:zT2→zA3→zM→Int→Heap→Option (Out×(Unit)×Heap)) (v0:zT2) (v1:zA3) (v2:zM) (v6:Int) (h:Heap):Option (Out×(Unit)×Heap):=(kA (f188 N v0 v6 h) fun (x1:Bool) h2=>(bif x1 then(kA (f189 N v2.1 v2.2.1 h2) fun (x3:(Unit)) h4=>(kA (f93 N v0 v1 h4) fun (x5:Bool) h6=>let x7:=!x5;(bif x7 then some (Out.ret,(()),h6)else let x8:=bB .i64 (v6+1);go v0 v1 (v2.1,v2.2.1,()) x8 h6)))else some ((Out.exit 0),(()),h2)))
def kL (N M:Nat) (v0:zT2) (v1:zA3) (v2:zM) (v6:Int) (h:Heap):Option (Out×(Unit)×Heap):=iter (fun go s h=>jL N (fun v0 v1 v2 v6 h=>go (v0,v1,v2,v6,()) h) s.1 s.2.1 s.2.2.1 s.2.2.2.1 h) M (v0,v1,v2,v6,()) h
theorem vW (N M v0 v1 v2 v6 h):kL N (M+1) v0 v1 v2 v6 h=jL N (kL N M) v0 v1 v2 v6 h:=rfl
def bY (N:Nat) (a0:zT2) (a1:zA3) (a2:zM) (h:Heap):Option ((Unit)×Heap):=(eE (kL N N a0 a1 (a2.1,a2.2.1,()) 0 h) fun o9 (j10:(Unit)) h11=>(bif mD o9 (.exit 0) then some ((()),h11)else some ((()),h11)))
def bAl:Ann:=(.two .n (.two (.loop [(0,zU2),(1,zW2),(2,(.clo 189 [.ptr,.ptr])),(6,zY2)] [(.exit 0),.ret] [] .n) .n))
theorem kAe (N:Nat):cD Tryz.prog 147 [zU2,zW2,(.clo 189 [.ptr,.ptr])] (.tup []) (fun x h=>bY N x.1 x.2.1 x.2.2.1 h):=pD (dA (qG N) (dA (rB0 N) (dA (bN N) lA))) N bAl Tryz.f147
def f156 (N:Nat) (a0:zT2) (h:Heap):Option (zY×Heap):=let h1:=h.push (.row [(.ptr a0)] .own);let h2:=h1.push (.row yZJ .own);(iA (.val zU2) (h2.cell (h.next,0)) fun (x3:zT2)=>(kA (f94 N x3 3 h2) fun (x4:zA3) h5=>let h6:=h5.push (.row yZJ .own);(uA (h6.store (h5.next,0) [(.str x4),(.slice none 0 0 0)]) fun h7=>(iA (.val zU2) (h7.cell (h.next,0)) fun (x8:zT2)=>(kA (f93 N x8 [58] h7) fun (x9:Bool) h10=>(bif x9 then(iA (.val zU2) (h10.cell (h.next,0)) fun (x11:zT2)=>(kA (bY N x11 [43] ((some (h5.next,0)),(some (h.next,0)),()) h10) fun (x12:(Unit)) h13=>(iA (.val zI) (h13.cells (h5.next,0) 2) fun (x14:zY)=>(uA (h13.store (h1.next,0) (yRI x14)) fun h15=>(iA (.val zI) (h15.cells (h1.next,0) 2) fun (x16:zY)=>some ((x16.1,x16.2.1,()),h15))))))else(iA (.val zI) (h10.cells (h5.next,0) 2) fun (x17:zY)=>(uA (h10.store (h1.next,0) (yRI x17)) fun h18=>(iA (.val zI) (h18.cells (h1.next,0) 2) fun (x19:zY)=>some ((x19.1,x19.2.1,()),h18))))))))))
def yB7:Ann:=.n
theorem tB0 (N:Nat):cD Tryz.prog 156 [zU2] (.val zI) (fun x h=>f156 N x.1 h):=pD (dA (aN N) (dA (qG N) (qC (sel:=fun a=>bL 2 189 a) (kAe N) lA))) N yB7 Tryz.f156
def f155 (N:Nat) (a0 a1:zT2) (h:Heap):Option ((Unit)×Heap):=(uA a0 fun q1=>(iA (.val zV2) (h.cell (q1.1,q1.2+2)) fun (x2:SL)=>(uA a1 fun q3=>(iA (.val zU2) (h.cell q3) fun (x4:zT2)=>(kA (f156 N x4 h) fun (x5:zY) h6=>let h7:=h6.push (.row (yRI x5) .own);(fG (.val zV2) (pC E 36 36 (.slice x2.a x2.len x2.cap x2.sz) (.slice (some (h6.next,0)) 1 1 2) h7) fun (x8:SL) h9=>(uA a0 fun q10=>(uA (h9.store (q10.1,q10.2+2) [(.slice x8.a x8.len x8.cap x8.sz)]) fun h11=>(uE (bif (pE a1 fun q=>mC (h.cell q) (.ptr x4)) then (bif (mC (h7.cell (q1.1,q1.2+2)) (.slice x2.a x2.len x2.cap x2.sz)) then (bif (mC (h6.cell (q1.1,q1.2+2)) (.slice x2.a x2.len x2.cap x2.sz)) then (bif (mC (h.cell (q1.1,q1.2+2)) (.slice x2.a x2.len x2.cap x2.sz)) then true else false) else false) else false) else false) ( some ((()),h11)))))))))))
def aB8:Ann:=.n
theorem uB0 (N:Nat):cD Tryz.prog 155 [zU2,zU2] (.tup []) (fun x h=>f155 N x.1 x.2.1 h):=pD (dA (tB0 N) lA) N aB8 Tryz.f155
def lL (N:Nat) (go:zT2→zA3→zM→Int→Heap→Option (Out×(Unit)×Heap)) (v0:zT2) (v1:zA3) (v2:zM) (v6:Int) (h:Heap):Option (Out×(Unit)×Heap):=(kA (f188 N v0 v6 h) fun (x1:Bool) h2=>(bif x1 then(kA (f155 N v2.1 v2.2.1 h2) fun (x3:(Unit)) h4=>(kA (f93 N v0 v1 h4) fun (x5:Bool) h6=>let x7:=!x5;(bif x7 then some (Out.ret,(()),h6)else let x8:=bB .i64 (v6+1);go v0 v1 (v2.1,v2.2.1,()) x8 h6)))else some ((Out.exit 0),(()),h2)))
def mL (N M:Nat) (v0:zT2) (v1:zA3) (v2:zM) (v6:Int) (h:Heap):Option (Out×(Unit)×Heap):=iter (fun go s h=>lL N (fun v0 v1 v2 v6 h=>go (v0,v1,v2,v6,()) h) s.1 s.2.1 s.2.2.1 s.2.2.2.1 h) M (v0,v1,v2,v6,()) h
theorem wW (N M v0 v1 v2 v6 h):mL N (M+1) v0 v1 v2 v6 h=lL N (mL N M) v0 v1 v2 v6 h:=rfl
def bT (N:Nat) (a0:zT2) (a1:zA3) (a2:zM) (h:Heap):Option ((Unit)×Heap):=(eE (mL N N a0 a1 (a2.1,a2.2.1,()) 0 h) fun o9 (j10:(Unit)) h11=>(bif mD o9 (.exit 0) then some ((()),h11)else some ((()),h11)))
def cAl:Ann:=(.two .n (.two (.loop [(0,zU2),(1,zW2),(2,(.clo 155 [.ptr,.ptr])),(6,zY2)] [(.exit 0),.ret] [] .n) .n))
theorem lAe (N:Nat):cD Tryz.prog 147 [zU2,zW2,(.clo 155 [.ptr,.ptr])] (.tup []) (fun x h=>bT N x.1 x.2.1 x.2.2.1 h):=pD (dA (qG N) (dA (bN N) (dA (uB0 N) lA))) N cAl Tryz.f147
def f157 (N:Nat) (a0 a1:zT2) (h:Heap):Option ((Unit)×Heap):=(uA a0 fun q1=>(iA (.val zU2) (h.cell q1) fun (x2:zT2)=>(kA (f92 N x2 [109,117,116] h) fun (x3:Bool) h4=>(uA a0 fun q5=>(iA (.val zU2) (h4.cell q5) fun (x6:zT2)=>(kA (f154 N x6 h4) fun (x7:zG1) h8=>let h9:=h8.push (.row yZF .own);(uA (h9.store (h8.next,0) (yRG x7)) fun h10=>(uA (h10.store ((h8.next,0).1,(h8.next,0).2+0) [(.bool x3)]) fun h11=>(uA a1 fun q12=>(iA (.val zV2) (h11.cell (q12.1,q12.2+3)) fun (x13:SL)=>(iA (.val zJ) (h11.cells (h8.next,0) 6) fun (x14:zG1)=>let h15:=h11.push (.row (yRG x14) .own);(fG (.val zV2) (pC E 37 37 (.slice x13.a x13.len x13.cap x13.sz) (.slice (some (h11.next,0)) 1 1 6) h15) fun (x16:SL) h17=>(uA a1 fun q18=>(uA (h17.store (q18.1,q18.2+3) [(.slice x16.a x16.len x16.cap x16.sz)]) fun h19=>some ((()),h19)))))))))))))))
def bB8:Ann:=.n
theorem vB0 (N:Nat):cD Tryz.prog 157 [zU2,zU2] (.tup []) (fun x h=>f157 N x.1 x.2.1 h):=pD (dA (bW N) (dA (iAe N) lA)) N bB8 Tryz.f157
def oL (N:Nat) (go:zT2→zA3→zM→Int→Heap→Option (Out×(Unit)×Heap)) (v0:zT2) (v1:zA3) (v2:zM) (v6:Int) (h:Heap):Option (Out×(Unit)×Heap):=(kA (f188 N v0 v6 h) fun (x1:Bool) h2=>(bif x1 then(kA (f157 N v2.1 v2.2.1 h2) fun (x3:(Unit)) h4=>(kA (f93 N v0 v1 h4) fun (x5:Bool) h6=>let x7:=!x5;(bif x7 then some (Out.ret,(()),h6)else let x8:=bB .i64 (v6+1);go v0 v1 (v2.1,v2.2.1,()) x8 h6)))else some ((Out.exit 0),(()),h2)))
def pL (N M:Nat) (v0:zT2) (v1:zA3) (v2:zM) (v6:Int) (h:Heap):Option (Out×(Unit)×Heap):=iter (fun go s h=>oL N (fun v0 v1 v2 v6 h=>go (v0,v1,v2,v6,()) h) s.1 s.2.1 s.2.2.1 s.2.2.2.1 h) M (v0,v1,v2,v6,()) h
theorem yW (N M v0 v1 v2 v6 h):pL N (M+1) v0 v1 v2 v6 h=oL N (pL N M) v0 v1 v2 v6 h:=rfl
def cT (N:Nat) (a0:zT2) (a1:zA3) (a2:zM) (h:Heap):Option ((Unit)×Heap):=(eE (pL N N a0 a1 (a2.1,a2.2.1,()) 0 h) fun o9 (j10:(Unit)) h11=>(bif mD o9 (.exit 0) then some ((()),h11)else some ((()),h11)))
def dAl:Ann:=(.two .n (.two (.loop [(0,zU2),(1,zW2),(2,(.clo 157 [.ptr,.ptr])),(6,zY2)] [(.exit 0),.ret] [] .n) .n))
theorem mAe (N:Nat):cD Tryz.prog 147 [zU2,zW2,(.clo 157 [.ptr,.ptr])] (.tup []) (fun x h=>cT N x.1 x.2.1 x.2.2.1 h):=pD (dA (qG N) (dA (bN N) (dA (vB0 N) lA))) N dAl Tryz.f147
def dT (N:Nat) (go:zT2→zT2→zT2→Heap→Option (Out×zM×Heap)) (v0 v2 v3:zT2) (h:Heap):Option (Out×zM×Heap):=(kA (f93 N v0 [46] h) fun (x6:Bool) h7=>(bif x6 then(uA v3 fun q8=>(iA (.val zV2) (h7.cell (q8.1,q8.2+1)) fun (x9:SL)=>(kA (f188 N v0 (Int.ofNat x9.len) h7) fun (x10:Bool) h11=>(bif x10 then(kA (f93 N v0 [42] h11) fun (x12:Bool) h13=>(bif x12 then(uA v3 fun q14=>(iA (.val zV2) (h13.cell (q14.1,q14.2+1)) fun (x15:SL)=>let h16:=h13.push (.row [(.str [42])] .own);(fG (.val zV2) (pC E 38 38 (.slice x15.a x15.len x15.cap x15.sz) (.slice (some (h13.next,0)) 1 1 1) h16) fun (x17:SL) h18=>(uA v3 fun q19=>(uA (h18.store (q19.1,q19.2+1) [(.slice x17.a x17.len x17.cap x17.sz)]) fun h20=>go v0 v2 v3 h20)))))else(uA v3 fun q21=>(iA (.val zV2) (h13.cell (q21.1,q21.2+1)) fun (x22:SL)=>(kA (f94 N v0 1 h13) fun (x23:zA3) h24=>let h25:=h24.push (.row [(.str x23)] .own);(fG (.val zV2) (pC E 38 38 (.slice x22.a x22.len x22.cap x22.sz) (.slice (some (h24.next,0)) 1 1 1) h25) fun (x26:SL) h27=>(uA v3 fun q28=>(uA (h27.store (q28.1,q28.2+1) [(.slice x26.a x26.len x26.cap x26.sz)]) fun h29=>(uE (bif (mC (h25.cell (q21.1,q21.2+1)) (.slice x22.a x22.len x22.cap x22.sz)) then (bif (mC (h24.cell (q21.1,q21.2+1)) (.slice x22.a x22.len x22.cap x22.sz)) then (bif (mC (h13.cell (q21.1,q21.2+1)) (.slice x22.a x22.len x22.cap x22.sz)) then true else false) else false) else false) ( go v0 v2 v3 h29))))))))))else some ((Out.exit 0),(v2,v3,()),h11)))))
 else some ((Out.exit 0),(v2,v3,()),h7)))
def iA6 (N M:Nat) (v0 v2 v3:zT2) (h:Heap):Option (Out×zM×Heap):=iter (fun go s h=>dT N (fun v0 v2 v3 h=>go (v0,v2,v3,()) h) s.1 s.2.1 s.2.2.1 h) M (v0,v2,v3,()) h
theorem dW (N M v0 v2 v3 h):iA6 N (M+1) v0 v2 v3 h=dT N (iA6 N M) v0 v2 v3 h:=rfl
def f221 (N:Nat) (a0:zT2) (h:Heap):Option (zY×Heap):=let h1:=h.push (.row yZJ .own);(kA (f94 N a0 1 h1) fun (x2:zA3) h3=>let h4:=h3.push (.row yZJ .own);(uA (h4.store (h3.next,0) [(.str x2),(.slice none 0 0 0)]) fun h5=>(eE (iA6 N N a0 (some (h.next,0)) (some (h3.next,0)) h5) fun _ (j31:zM) h32=>(uA j31.2.1 fun q33=>(iA (.val zI) (h32.cells q33 2) fun (x34:zY)=>(uA j31.1 fun q36=>(uA (h32.store q36 (yRI x34)) fun h35=>(uA j31.1 fun q37=>(iA (.val zI) (h35.cells q37 2) fun (x38:zY)=>some ((x38.1,x38.2.1,()),h35))))))))))
def cB8:Ann:=(.two .n (.two .n (.two (.two (.loop [(0,zU2),(2,zU2),(3,zU2)] [(.exit 0)] [(2,zU2),(3,zU2)] .n) .n) .n)))
theorem nAe (N:Nat):cD Tryz.prog 221 [zU2] (.val zI) (fun x h=>f221 N x.1 h):=pD (dA (aN N) (dA (qG N) (dA (bN N) lA))) N cB8 Tryz.f221
def f262 (N:Nat) (a0:Int) (h:Heap):Option (Int×Heap):=(iA (.val (.one (.int .u8))) (aAn .or .u8 a0 32) fun (x1:Int)=>some (x1,h))
def dB8:Ann:=.n
theorem tAp (N:Nat):cD Tryz.prog 262 [(.one (.int .u8))] (.val (.one (.int .u8))) (fun x h=>f262 N x.1 h):=pD lA N dB8 Tryz.f262
def uAp (N:Nat) (go:zA3→Bool→Int→Int→Bool→Heap→Option (Out×zN2×Heap)) (v0:zA3) (v2:Bool) (v3 v4:Int) (v5:Bool) (h:Heap):Option (Out×zN2×Heap):=let x34:=uB v4 (Int.ofNat v0.length);(bif x34 then(eJ v0 v4 fun x35=>let x36:Bool:=uC 48 x35;(bif x36 then(eJ v0 v4 fun x37=>let x38:Bool:=uC x37 57;(bif x38 then let x39:=bB .i64 (v4+1);go v0 v2 48 x39 v5 h else(bif v5 then(eJ v0 v4 fun x40=>(kA (f262 N x40 h) fun (x41:Int) h42=>let x43:Bool:=uC 97 x41;(bif x43 then(eJ v0 v4 fun x44=>(kA (f262 N x44 h42) fun (x45:Int) h46=>let x47:Bool:=uC x45 102;(bif x47 then let x48:=bB .i64 (v4+1);go v0 v2 48 x48 v5 h46 else(eJ v0 v4 fun x49=>let x50:=pA x49 95;(bif x50 then let x51:=!pA v3 48;(bif x51 then some (Out.ret,(false,v3,()),h46)else let x52:=bB .i64 (v4+1);go v0 v2 95 x52 v5 h46)else let x53:=pA v3 95;(bif x53 then some (Out.ret,(false,v3,()),h46)else let x54:=bB .i64 (v4+1);go v0 v2 33 x54 v5 h46))))))else(eJ v0 v4 fun x55=>let x56:=pA x55 95;(bif x56 then let x57:=!pA v3 48;(bif x57 then some (Out.ret,(false,v3,()),h42)else let x58:=bB .i64 (v4+1);go v0 v2 95 x58 v5 h42)else let x59:=pA v3 95;(bif x59 then some (Out.ret,(false,v3,()),h42)else let x60:=bB .i64 (v4+1);go v0 v2 33 x60 v5 h42))))))else(eJ v0 v4 fun x61=>let x62:=pA x61 95;(bif x62 then let x63:=!pA v3 48;(bif x63 then some (Out.ret,(false,v3,()),h)else let x64:=bB .i64 (v4+1);go v0 v2 95 x64 v5 h)else let x65:=pA v3 95;(bif x65 then some (Out.ret,(false,v3,()),h)
 else let x66:=bB .i64 (v4+1);go v0 v2 33 x66 v5 h))))))else(bif v5 then(eJ v0 v4 fun x67=>(kA (f262 N x67 h) fun (x68:Int) h69=>let x70:Bool:=uC 97 x68;(bif x70 then(eJ v0 v4 fun x71=>(kA (f262 N x71 h69) fun (x72:Int) h73=>let x74:Bool:=uC x72 102;(bif x74 then let x75:=bB .i64 (v4+1);go v0 v2 48 x75 v5 h73 else(eJ v0 v4 fun x76=>let x77:=pA x76 95;(bif x77 then let x78:=!pA v3 48;(bif x78 then some (Out.ret,(false,v3,()),h73)else let x79:=bB .i64 (v4+1);go v0 v2 95 x79 v5 h73)else let x80:=pA v3 95;(bif x80 then some (Out.ret,(false,v3,()),h73)else let x81:=bB .i64 (v4+1);go v0 v2 33 x81 v5 h73))))))else(eJ v0 v4 fun x82=>let x83:=pA x82 95;(bif x83 then let x84:=!pA v3 48;(bif x84 then some (Out.ret,(false,v3,()),h69)else let x85:=bB .i64 (v4+1);go v0 v2 95 x85 v5 h69)else let x86:=pA v3 95;(bif x86 then some (Out.ret,(false,v3,()),h69)else let x87:=bB .i64 (v4+1);go v0 v2 33 x87 v5 h69))))))else(eJ v0 v4 fun x88=>let x89:=pA x88 95;(bif x89 then let x90:=!pA v3 48;(bif x90 then some (Out.ret,(false,v3,()),h)else let x91:=bB .i64 (v4+1);go v0 v2 95 x91 v5 h)else let x92:=pA v3 95;(bif x92 then some (Out.ret,(false,v3,()),h)else let x93:=bB .i64 (v4+1);go v0 v2 33 x93 v5 h))))))else some ((Out.exit 0),(v2,v3,()),h))
def wB0 (N M:Nat) (v0:zA3) (v2:Bool) (v3 v4:Int) (v5:Bool) (h:Heap):Option (Out×zN2×Heap):=iter (fun go s h=>uAp N (fun v0 v2 v3 v4 v5 h=>go (v0,v2,v3,v4,v5,()) h) s.1 s.2.1 s.2.2.1 s.2.2.2.1 s.2.2.2.2.1 h) M (v0,v2,v3,v4,v5,()) h
def f263 (N:Nat) (a0:zA3) (h:Heap):Option (Bool×Heap):=(kA (α:=zO2) ((kA (α:=zU1) ( let x1:Bool:=uC 1 (Int.ofNat a0.length);(bif x1 then(eJ a0 0 fun x2=>let x3:=pA x2 45;(bif x3 then some ((a0,false,94,0,true,()),h)else(eJ a0 0 fun x4=>let x5:=pA x4 43;some ((a0,false,94,0,x5,()),h))))else some ((a0,false,94,0,false,()),h))) fun (j6:zU1) h7=>(bif j6.2.2.2.2.1 then(iA (.val zW2) (qD E h7 9 (.str j6.1) (some (.int .i64 1)) none) fun (x8:zA3)=>some ((x8,j6.2.1,j6.2.2.1,j6.2.2.2.1,()),h7))else some ((j6.1,j6.2.1,j6.2.2.1,j6.2.2.2.1,()),h7)))) fun (j9:zO2) h10=>(kA (α:=zU1) ((kA (α:=zI2) ( let x11:Bool:=uC 2 (Int.ofNat j9.1.length);(bif x11 then(eJ j9.1 0 fun x12=>let x13:=pA x12 48;(bif x13 then(eJ j9.1 1 fun x14=>(kA (f262 N x14 h10) fun (x15:Int) h16=>let x17:=pA x15 98;(bif x17 then some ((j9.1,j9.2.1,j9.2.2.1,j9.2.2.2.1,false,true,()),h16)else(eJ j9.1 1 fun x18=>(kA (f262 N x18 h16) fun (x19:Int) h20=>let x21:=pA x19 111;(bif x21 then some ((j9.1,j9.2.1,j9.2.2.1,j9.2.2.2.1,false,true,()),h20)else(eJ j9.1 1 fun x22=>(kA (f262 N x22 h20) fun (x23:Int) h24=>let x25:=pA x23 120;some ((j9.1,j9.2.1,j9.2.2.1,j9.2.2.2.1,false,x25,()),h24)))))))))else some ((j9.1,j9.2.1,j9.2.2.1,j9.2.2.2.1,false,false,()),h10)))else some ((j9.1,j9.2.1,j9.2.2.1,j9.2.2.2.1,false,false,()),h10))) fun (j26:zI2) h27=>(bif j26.2.2.2.2.2.1 then(eJ j26.1 1 fun x28=>(kA (f262 N x28 h27) fun (x29:Int) h30=>let x31:=pA x29 120;some ((j26.1,j26.2.1,48,2,x31,()),h30)))
 else some ((j26.1,j26.2.1,j26.2.2.1,j26.2.2.2.1,j26.2.2.2.2.1,()),h27)))) fun (j32:zU1) h33=>(eE (wB0 N N j32.1 j32.2.1 j32.2.2.1 j32.2.2.2.1 j32.2.2.2.2.1 h33) fun o94 (j95:zN2) h96=>(bif mD o94 (.exit 0) then let x97:=!pA j95.2.1 95;some (x97,h96)else some (j95.1,h96)))))
def eB8:Ann:=(.two .n (.two .n (.two .n (.two (.join [(0,zW2),(2,zX2),(3,(.one (.int .i32))),(4,zY2)] (.two (.join [(0,zW2),(2,zX2),(3,(.one (.int .i32))),(4,zY2),(18,zX2)] .n) .n)) (.two .n (.two (.join [(0,zW2),(2,zX2),(3,(.one (.int .i32))),(4,zY2),(5,zX2)] (.two (.join [(0,zW2),(2,zX2),(3,(.one (.int .i32))),(4,zY2),(5,zX2),(46,zX2)] .n) .n)) (.two (.two (.loop [(0,zW2),(2,zX2),(3,(.one (.int .i32))),(4,zY2),(5,zX2)] [(.exit 0),.ret] [(2,zX2),(3,(.one (.int .i32)))] .n) .n) .n)))))))
theorem yB0 (N:Nat):cD Tryz.prog 263 [zW2] (.val zX2) (fun x h=>f263 N x.1 h):=pD (dA (tAp N) lA) N eB8 Tryz.f263
def vAp (N:Nat) (go:Int→Int→AV→Bool→zA3→Int→Int→Bool→Int→SL→Int→Int→Heap→Option (Out×zH1×Heap)) (v1 v6:Int) (v7:AV) (v8:Bool) (v9:zA3) (v10 v11:Int) (v12:Bool) (v13:Int) (v99:SL) (v100 v101:Int) (h:Heap):Option (Out×zH1×Heap):=let x60:=uB v101 v100;(bif x60 then(uA (α:=Sum (zF1×Heap) (Sum (zH1×Heap) (Empty))) ((ixK v99.a v99.len v101 1 fun q61=>(iA (.val (.one (.int .u8))) (h.cell q61) fun (x62:Int)=>(uA (α:=Sum (zV1×Heap) (Sum (zF1×Heap) (Sum (zH1×Heap) (Empty)))) ((kA (α:=zZ) ( let x63:=pA x62 95;(bif x63 then some ((v1,v6,v7,v8,v9,v10,v11,v12,v13,x62,v99,v100,v101,v8,()),h)else some ((v1,v6,v7,v8,v9,v10,v11,v12,v13,x62,v99,v100,v101,false,()),h))) fun (j64:zZ) h65=>(bif j64.2.2.2.2.2.2.2.2.2.2.2.2.2.1 then some (Sum.inr (Sum.inl ((j64.1,j64.2.1,j64.2.2.1,j64.2.2.2.1,j64.2.2.2.2.1,j64.2.2.2.2.2.1,j64.2.2.2.2.2.2.1,true,j64.2.2.2.2.2.2.2.2.1,j64.2.2.2.2.2.2.2.2.2.2.1,j64.2.2.2.2.2.2.2.2.2.2.2.1,j64.2.2.2.2.2.2.2.2.2.2.2.2.1,()),h65)))else(kA (α:=zZ) ( let x66:Bool:=uC 48 j64.2.2.2.2.2.2.2.2.2.1;(bif x66 then let x67:Bool:=uC j64.2.2.2.2.2.2.2.2.2.1 57;some ((j64.1,j64.2.1,j64.2.2.1,j64.2.2.2.1,j64.2.2.2.2.1,j64.2.2.2.2.2.1,j64.2.2.2.2.2.2.1,j64.2.2.2.2.2.2.2.1,j64.2.2.2.2.2.2.2.2.1,j64.2.2.2.2.2.2.2.2.2.1,j64.2.2.2.2.2.2.2.2.2.2.1,j64.2.2.2.2.2.2.2.2.2.2.2.1,j64.2.2.2.2.2.2.2.2.2.2.2.2.1,x67,()),h65)else some ((j64.1,j64.2.1,j64.2.2.1,j64.2.2.2.1,j64.2.2.2.2.1,j64.2.2.2.2.2.1,j64.2.2.2.2.2.2.1,j64.2.2.2.2.2.2.2.1,j64.2.2.2.2.2.2.2.2.1,j64.2.2.2.2.2.2.2.2.2.1,j64.2.2.2.2.2.2.2.2.2.2.1,j64.2.2.2.2.2.2.2.2.2.2.2.1,j64.2.2.2.2.2.2.2.2.2.2.2.2.1,false,()),h65))) fun (j68:zZ) h69=>
 (bif j68.2.2.2.2.2.2.2.2.2.2.2.2.2.1 then let x70:=bB .u8 (j68.2.2.2.2.2.2.2.2.2.1-48);some (Sum.inl ((j68.1,j68.2.1,j68.2.2.1,j68.2.2.2.1,j68.2.2.2.2.1,j68.2.2.2.2.2.1,j68.2.2.2.2.2.2.1,j68.2.2.2.2.2.2.2.1,j68.2.2.2.2.2.2.2.2.1,x70,j68.2.2.2.2.2.2.2.2.2.2.1,j68.2.2.2.2.2.2.2.2.2.2.2.1,j68.2.2.2.2.2.2.2.2.2.2.2.2.1,()),h69))else(kA (α:=zZ) ((kA (f262 N j68.2.2.2.2.2.2.2.2.2.1 h69) fun (x71:Int) h72=>let x73:Bool:=uC 97 x71;(bif x73 then(kA (f262 N j68.2.2.2.2.2.2.2.2.2.1 h72) fun (x74:Int) h75=>let x76:Bool:=uC x74 122;some ((j68.1,j68.2.1,j68.2.2.1,j68.2.2.2.1,j68.2.2.2.2.1,j68.2.2.2.2.2.1,j68.2.2.2.2.2.2.1,j68.2.2.2.2.2.2.2.1,j68.2.2.2.2.2.2.2.2.1,j68.2.2.2.2.2.2.2.2.2.1,j68.2.2.2.2.2.2.2.2.2.2.1,j68.2.2.2.2.2.2.2.2.2.2.2.1,j68.2.2.2.2.2.2.2.2.2.2.2.2.1,x76,()),h75))else some ((j68.1,j68.2.1,j68.2.2.1,j68.2.2.2.1,j68.2.2.2.2.1,j68.2.2.2.2.2.1,j68.2.2.2.2.2.2.1,j68.2.2.2.2.2.2.2.1,j68.2.2.2.2.2.2.2.2.1,j68.2.2.2.2.2.2.2.2.2.1,j68.2.2.2.2.2.2.2.2.2.2.1,j68.2.2.2.2.2.2.2.2.2.2.2.1,j68.2.2.2.2.2.2.2.2.2.2.2.2.1,false,()),h72)))) fun (j77:zZ) h78=>(bif j77.2.2.2.2.2.2.2.2.2.2.2.2.2.1 then(kA (f262 N j77.2.2.2.2.2.2.2.2.2.1 h78) fun (x79:Int) h80=>let x81:=bB .u8 (x79-97);let x82:=bB .u8 (x81+10);some (Sum.inl ((j77.1,j77.2.1,j77.2.2.1,j77.2.2.2.1,j77.2.2.2.2.1,j77.2.2.2.2.2.1,j77.2.2.2.2.2.2.1,j77.2.2.2.2.2.2.2.1,j77.2.2.2.2.2.2.2.2.1,x82,j77.2.2.2.2.2.2.2.2.2.2.1,j77.2.2.2.2.2.2.2.2.2.2.2.1,j77.2.2.2.2.2.2.2.2.2.2.2.2.1,()),h80)))else some (Sum.inr (Sum.inr (Sum.inl ((0,(AV.iface 256 (.int .i64 2)),j77.2.2.2.2.1,j77.2.2.2.2.2.2.2.1,j77.2.2.2.2.2.2.2.2.1,()),h78))))))))))) fun j83=>
 (dC j83 (fun (j84:zV1) h85=>let x87:=bB .u8 j84.1;let x88:Bool:=uC x87 j84.2.2.2.2.2.2.2.2.2.1;(bif x88 then some (Sum.inr (Sum.inl ((0,(AV.iface 256 (.int .i64 2)),j84.2.2.2.2.1,j84.2.2.2.2.2.2.2.1,j84.2.2.2.2.2.2.2.2.1,()),h85)))else let x89:Bool:=uC j84.2.2.2.2.2.1 j84.2.2.2.2.2.2.2.2.1;(bif x89 then some (Sum.inr (Sum.inl ((j84.2.2.2.2.2.2.1,(AV.iface 256 (.int .i64 1)),j84.2.2.2.2.1,j84.2.2.2.2.2.2.2.1,j84.2.2.2.2.2.2.2.2.1,()),h85)))else let x90:=bB .u64 j84.1;let x91:=bB .u64 (j84.2.2.2.2.2.2.2.2.1 * x90);let x92:=bB .u64 j84.2.2.2.2.2.2.2.2.2.1;let x93:=bB .u64 (x91+x92);(uA (α:=Sum (zF1×Heap) (Sum (zH1×Heap) (Empty))) ((kA (α:=zZ) ( let x94:=uB x93 x91;(bif x94 then some ((j84.1,j84.2.1,j84.2.2.1,j84.2.2.2.1,j84.2.2.2.2.1,j84.2.2.2.2.2.1,j84.2.2.2.2.2.2.1,j84.2.2.2.2.2.2.2.1,x91,x93,j84.2.2.2.2.2.2.2.2.2.2.1,j84.2.2.2.2.2.2.2.2.2.2.2.1,j84.2.2.2.2.2.2.2.2.2.2.2.2.1,true,()),h85)else let x95:=uB j84.2.2.2.2.2.2.1 x93;some ((j84.1,j84.2.1,j84.2.2.1,j84.2.2.2.1,j84.2.2.2.2.1,j84.2.2.2.2.2.1,j84.2.2.2.2.2.2.1,j84.2.2.2.2.2.2.2.1,x91,x93,j84.2.2.2.2.2.2.2.2.2.2.1,j84.2.2.2.2.2.2.2.2.2.2.2.1,j84.2.2.2.2.2.2.2.2.2.2.2.2.1,x95,()),h85))) fun (j96:zZ) h97=>(bif j96.2.2.2.2.2.2.2.2.2.2.2.2.2.1 then some (Sum.inr (Sum.inl ((j96.2.2.2.2.2.2.1,(AV.iface 256 (.int .i64 1)),j96.2.2.2.2.1,j96.2.2.2.2.2.2.2.1,j96.2.2.2.2.2.2.2.2.1,()),h97)))else some (Sum.inl ((j96.1,j96.2.1,j96.2.2.1,j96.2.2.2.1,j96.2.2.2.2.1,j96.2.2.2.2.2.1,j96.2.2.2.2.2.2.1,j96.2.2.2.2.2.2.2.1,j96.2.2.2.2.2.2.2.2.2.1,j96.2.2.2.2.2.2.2.2.2.2.1,j96.2.2.2.2.2.2.2.2.2.2.2.1,j96.2.2.2.2.2.2.2.2.2.2.2.2.1,()),h97))))) fun j98=>
 (dC j98 (fun (j99:zF1) h100=>some (Sum.inl ((j99.1,j99.2.1,j99.2.2.1,j99.2.2.2.1,j99.2.2.2.2.1,j99.2.2.2.2.2.1,j99.2.2.2.2.2.2.1,j99.2.2.2.2.2.2.2.1,j99.2.2.2.2.2.2.2.2.1,j99.2.2.2.2.2.2.2.2.2.1,j99.2.2.2.2.2.2.2.2.2.2.1,j99.2.2.2.2.2.2.2.2.2.2.2.1,()),h100))) fun j101=>(dC j101 (fun (j102:zH1) h103=>some (Sum.inr (Sum.inl ((j102.1,j102.2.1,j102.2.2.1,j102.2.2.2.1,j102.2.2.2.2.1,()),h103)))) fun _=>none)))))) fun j86=>(dC j86 (fun (j105:zF1) h106=>some (Sum.inl ((j105.1,j105.2.1,j105.2.2.1,j105.2.2.2.1,j105.2.2.2.2.1,j105.2.2.2.2.2.1,j105.2.2.2.2.2.2.1,j105.2.2.2.2.2.2.2.1,j105.2.2.2.2.2.2.2.2.1,j105.2.2.2.2.2.2.2.2.2.1,j105.2.2.2.2.2.2.2.2.2.2.1,j105.2.2.2.2.2.2.2.2.2.2.2.1,()),h106))) fun j107=>(dC j107 (fun (j108:zH1) h109=>some (Sum.inr (Sum.inl ((j108.1,j108.2.1,j108.2.2.1,j108.2.2.2.1,j108.2.2.2.2.1,()),h109)))) fun _=>none))))))) fun j111=>(dC j111 (fun (j112:zF1) h113=>let x115:=bB .i64 (j112.2.2.2.2.2.2.2.2.2.2.2.1+1);go j112.1 j112.2.1 j112.2.2.1 j112.2.2.2.1 j112.2.2.2.2.1 j112.2.2.2.2.2.1 j112.2.2.2.2.2.2.1 j112.2.2.2.2.2.2.2.1 j112.2.2.2.2.2.2.2.2.1 j112.2.2.2.2.2.2.2.2.2.1 j112.2.2.2.2.2.2.2.2.2.2.1 x115 h113) fun j114=>(dC j114 (fun (j116:zH1) h117=>some (Out.ret,(j116.1,j116.2.1,j116.2.2.1,j116.2.2.2.1,j116.2.2.2.2.1,()),h117)) fun _=>none)))else some ((Out.exit 3),(v6,v7,v9,v12,v13,()),h))
def aB1 (N M:Nat) (v1 v6:Int) (v7:AV) (v8:Bool) (v9:zA3) (v10 v11:Int) (v12:Bool) (v13:Int) (v99:SL) (v100 v101:Int) (h:Heap):Option (Out×zH1×Heap):=iter (fun go s h=>vAp N (fun v1 v6 v7 v8 v9 v10 v11 v12 v13 v99 v100 v101 h=>go (v1,v6,v7,v8,v9,v10,v11,v12,v13,v99,v100,v101,()) h) s.1 s.2.1 s.2.2.1 s.2.2.2.1 s.2.2.2.2.1 s.2.2.2.2.2.1 s.2.2.2.2.2.2.1 s.2.2.2.2.2.2.2.1 s.2.2.2.2.2.2.2.2.1 s.2.2.2.2.2.2.2.2.2.1 s.2.2.2.2.2.2.2.2.2.2.1 s.2.2.2.2.2.2.2.2.2.2.2.1 h) M (v1,v6,v7,v8,v9,v10,v11,v12,v13,v99,v100,v101,()) h
def f257 (N:Nat) (a0:zA3) (a1 a2:Int) (h:Heap):Option (zK1×Heap):=let x1:=pB a0 [];(bif x1 then some ((0,(AV.iface 256 (.int .i64 2)),()),h)else let x2:=pA a1 0;(uA (α:=Sum (zO1×Heap) (Sum (zK1×Heap) (Empty))) ((kA (α:=zL1) ( let x3:Bool:=uC 2 a1;(bif x3 then let x4:Bool:=uC a1 36;some ((a0,a1,a2,0,AV.nilIface,x2,a0,x4,()),h)else some ((a0,a1,a2,0,AV.nilIface,x2,a0,false,()),h))) fun (j5:zL1) h6=>(bif j5.2.2.2.2.2.2.2.1 then some (Sum.inl ((j5.1,j5.2.1,j5.2.2.1,j5.2.2.2.1,j5.2.2.2.2.1,j5.2.2.2.2.2.1,j5.2.2.2.2.2.2.1,()),h6))else let x7:=pA j5.2.1 0;(bif x7 then(eJ j5.1 0 fun x8=>let x9:=pA x8 48;(bif x9 then(kA (α:=zI1) ( let x10:Bool:=uC 3 (Int.ofNat j5.1.length);(bif x10 then(eJ j5.1 1 fun x11=>(kA (f262 N x11 h6) fun (x12:Int) h13=>let x14:=pA x12 98;some ((j5.1,j5.2.2.1,j5.2.2.2.1,j5.2.2.2.2.1,j5.2.2.2.2.2.1,j5.2.2.2.2.2.2.1,x14,()),h13)))else some ((j5.1,j5.2.2.1,j5.2.2.2.1,j5.2.2.2.2.1,j5.2.2.2.2.2.1,j5.2.2.2.2.2.2.1,false,()),h6))) fun (j15:zI1) h16=>(bif j15.2.2.2.2.2.2.1 then(iA (.val zW2) (qD E h16 9 (.str j15.1) (some (.int .i64 2)) none) fun (x17:zA3)=>some (Sum.inl ((x17,2,j15.2.1,j15.2.2.1,j15.2.2.2.1,j15.2.2.2.2.1,j15.2.2.2.2.2.1,()),h16)))else(kA (α:=zI1) ( let x18:Bool:=uC 3 (Int.ofNat j15.1.length);(bif x18 then(eJ j15.1 1 fun x19=>(kA (f262 N x19 h16) fun (x20:Int) h21=>let x22:=pA x20 111;some ((j15.1,j15.2.1,j15.2.2.1,j15.2.2.2.1,j15.2.2.2.2.1,j15.2.2.2.2.2.1,x22,()),h21)))else some ((j15.1,j15.2.1,j15.2.2.1,j15.2.2.2.1,j15.2.2.2.2.1,j15.2.2.2.2.2.1,false,()),h16))) fun (j23:zI1) h24=>
 (bif j23.2.2.2.2.2.2.1 then(iA (.val zW2) (qD E h24 9 (.str j23.1) (some (.int .i64 2)) none) fun (x25:zA3)=>some (Sum.inl ((x25,8,j23.2.1,j23.2.2.1,j23.2.2.2.1,j23.2.2.2.2.1,j23.2.2.2.2.2.1,()),h24)))else(kA (α:=zI1) ( let x26:Bool:=uC 3 (Int.ofNat j23.1.length);(bif x26 then(eJ j23.1 1 fun x27=>(kA (f262 N x27 h24) fun (x28:Int) h29=>let x30:=pA x28 120;some ((j23.1,j23.2.1,j23.2.2.1,j23.2.2.2.1,j23.2.2.2.2.1,j23.2.2.2.2.2.1,x30,()),h29)))else some ((j23.1,j23.2.1,j23.2.2.1,j23.2.2.2.1,j23.2.2.2.2.1,j23.2.2.2.2.2.1,false,()),h24))) fun (j31:zI1) h32=>(bif j31.2.2.2.2.2.2.1 then(iA (.val zW2) (qD E h32 9 (.str j31.1) (some (.int .i64 2)) none) fun (x33:zA3)=>some (Sum.inl ((x33,16,j31.2.1,j31.2.2.1,j31.2.2.2.1,j31.2.2.2.2.1,j31.2.2.2.2.2.1,()),h32)))else(iA (.val zW2) (qD E h32 9 (.str j31.1) (some (.int .i64 1)) none) fun (x34:zA3)=>some (Sum.inl ((x34,8,j31.2.1,j31.2.2.1,j31.2.2.2.1,j31.2.2.2.2.1,j31.2.2.2.2.2.1,()),h32)))))))))else some (Sum.inl ((j5.1,10,j5.2.2.1,j5.2.2.2.1,j5.2.2.2.2.1,j5.2.2.2.2.2.1,j5.2.2.2.2.2.2.1,()),h6))))else some (Sum.inr (Sum.inl ((0,(AV.iface 256 (.int .i64 3)),()),h6))))))) fun j35=>(dC j35 (fun (j36:zO1) h37=>(uA (α:=Sum (zO1×Heap) (Sum (zK1×Heap) (Empty))) ( let x39:=pA j36.2.2.1 0;(bif x39 then some (Sum.inl ((j36.1,j36.2.1,64,j36.2.2.2.1,j36.2.2.2.2.1,j36.2.2.2.2.2.1,j36.2.2.2.2.2.2.1,()),h37))else(kA (α:=zL1) ( let x40:=uB j36.2.2.1 0;(bif x40 then some ((j36.1,j36.2.1,j36.2.2.1,j36.2.2.2.1,j36.2.2.2.2.1,j36.2.2.2.2.2.1,j36.2.2.2.2.2.2.1,true,()),h37)
 else let x41:=uB 64 j36.2.2.1;some ((j36.1,j36.2.1,j36.2.2.1,j36.2.2.2.1,j36.2.2.2.2.1,j36.2.2.2.2.2.1,j36.2.2.2.2.2.2.1,x41,()),h37))) fun (j42:zL1) h43=>(bif j42.2.2.2.2.2.2.2.1 then some (Sum.inr (Sum.inl ((0,(AV.iface 256 (.int .i64 4)),()),h43)))else some (Sum.inl ((j42.1,j42.2.1,j42.2.2.1,j42.2.2.2.1,j42.2.2.2.2.1,j42.2.2.2.2.2.1,j42.2.2.2.2.2.2.1,()),h43)))))) fun j44=>(dC j44 (fun (j45:zO1) h46=>(kA (α:=zB2) ( let x48:=pA j45.2.1 10;(bif x48 then some ((j45.1,j45.2.1,j45.2.2.1,j45.2.2.2.1,j45.2.2.2.2.1,j45.2.2.2.2.2.1,j45.2.2.2.2.2.2.1,1844674407370955162,()),h46)else let x49:=pA j45.2.1 16;(bif x49 then some ((j45.1,j45.2.1,j45.2.2.1,j45.2.2.2.1,j45.2.2.2.2.1,j45.2.2.2.2.2.1,j45.2.2.2.2.2.2.1,1152921504606846976,()),h46)else let x50:=bB .u64 j45.2.1;(iA (.val (.one (.int .u64))) (nAg .quo .u64 18446744073709551615 x50) fun (x51:Int)=>let x52:=bB .u64 (x51+1);some ((j45.1,j45.2.1,j45.2.2.1,j45.2.2.2.1,j45.2.2.2.2.1,j45.2.2.2.2.2.1,j45.2.2.2.2.2.2.1,x52,()),h46))))) fun (j53:zB2) h54=>let x55:=bB .u64 j53.2.2.1;(iA (.val (.one (.int .u64))) (uA2 .shl .u64 1 x55) fun (x56:Int)=>let x57:=bB .u64 (x56-1);(fG (.val zV2) (mAc E 9 81 (.str j53.1) h54) fun (x58:SL) h59=>(eE (aB1 N N j53.2.1 j53.2.2.2.1 j53.2.2.2.2.1 j53.2.2.2.2.2.1 j53.2.2.2.2.2.2.1 j53.2.2.2.2.2.2.2.1 x57 false 0 x58 (Int.ofNat x58.len) 0 h59) fun o119 (j120:zH1) h121=>(bif mD o119 (.exit 3) then(uA (α:=Sum (zQ1×Heap) (Sum (zK1×Heap) (Empty))) ((kA (α:=(Int×Bool×Unit)) (
 (bif j120.2.2.2.1 then(kA (f263 N j120.2.2.1 h121) fun (x122:Bool) h123=>let x124:=!x122;some ((j120.2.2.2.2.1,x124,()),h123))else some ((j120.2.2.2.2.1,false,()),h121))) fun (j125:(Int×Bool×Unit)) h126=>(bif j125.2.1 then some (Sum.inr (Sum.inl ((0,(AV.iface 256 (.int .i64 2)),()),h126)))else some (Sum.inl ((j125.1,()),h126))))) fun j127=>(dC j127 (fun (j128:zQ1) h129=>some ((j128.1,AV.nilIface,()),h129)) fun j130=>(dC j130 (fun (j131:zK1) h132=>some ((j131.1,j131.2.1,()),h132)) fun _=>none)))else some ((j120.1,j120.2.1,()),h121))))))) fun j47=>(dC j47 (fun (j134:zK1) h135=>some ((j134.1,j134.2.1,()),h135)) fun _=>none)))) fun j38=>(dC j38 (fun (j137:zK1) h138=>some ((j137.1,j137.2.1,()),h138)) fun _=>none))))
def fB8:Ann:=(.two .n (.two .n (.two .n (.two .n (.two (.joinO [(.norm,[(0,zW2),(1,zY2),(2,zY2),(6,(.one (.int .u64))),(7,zZ2),(8,zX2),(9,zW2)]),(.ret,[(6,(.one (.int .u64))),(7,zZ2)])] (.two (.two (.join [(0,zW2),(1,zY2),(2,zY2),(6,(.one (.int .u64))),(7,zZ2),(8,zX2),(9,zW2),(25,zX2)] .n) (.two .n (.two .n (.two (.two .n (.two .n (.two (.two (.two (.join [(0,zW2),(2,zY2),(6,(.one (.int .u64))),(7,zZ2),(8,zX2),(9,zW2),(40,zX2)] .n) (.two .n (.two (.join [(0,zW2),(2,zY2),(6,(.one (.int .u64))),(7,zZ2),(8,zX2),(9,zW2),(52,zX2)] .n) (.two .n (.two (.join [(0,zW2),(2,zY2),(6,(.one (.int .u64))),(7,zZ2),(8,zX2),(9,zW2),(64,zX2)] .n) .n))))) .n) .n))) .n)))) .n)) (.two (.joinO [(.norm,[(0,zW2),(1,zY2),(2,zY2),(6,(.one (.int .u64))),(7,zZ2),(8,zX2),(9,zW2)]),(.ret,[(6,(.one (.int .u64))),(7,zZ2)])] (.two .n (.two .n (.two (.join [(0,zW2),(1,zY2),(2,zY2),(6,(.one (.int .u64))),(7,zZ2),(8,zX2),(9,zW2),(83,zX2)] .n) .n)))) (.two .n (.two (.join [(0,zW2),(1,zY2),(2,zY2),(6,(.one (.int .u64))),(7,zZ2),(8,zX2),(9,zW2),(10,(.one (.int .u64)))] .n) (.two .n (.two .n (.two .n (.two (.two .n (.two (.loop [(1,zY2),(6,(.one (.int .u64))),(7,zZ2),(8,zX2),(9,zW2),(10,(.one (.int .u64))),(11,(.one (.int .u64))),(12,zX2),(13,(.one (.int .u64))),(99,zV2),(100,zY2),(101,zY2)] [(.exit 3),.ret] [(6,(.one (.int .u64))),(7,zZ2),(9,zW2),(12,zX2),(13,(.one (.int .u64)))] (.two .n (.two .n (.two (.joinO [(.norm,[(1,zY2),(6,(.one (.int .u64))),(7,zZ2),(8,zX2),(9,zW2),(10,(.one (.int .u64))),(11,(.one (.int .u64))),(12,zX2),(13,(.one (.int .u64))),(99,zV2),(100,zY2),(101,zY2)]),(.ret,[(6,(.one (.int .u64))),(7,zZ2),(9,zW2),(12,zX2),(13,(.one (.int .u64)))])] (.two (.two .n (.two .n (.two (.joinO [(.norm,[(1,zY2),(6,(.one (.int .u64))),(7,zZ2),(8,zX2),(9,zW2),(10,(.one (.int .u64))),(11,(.one (.int .u64))),(12,zX2),(13,(.one (.int .u64))),(16,(.one (.int .u8))),(99,zV2),(100,zY2),(101,zY2)]),((.exit 4),[(1,zY2),(6,(.one (.int .u64))),(7,zZ2),(8,zX2),(9,zW2),(10,(.one (.int .u64))),(11,(.one (.int .u64))),(12,zX2),(13,(.one (.int .u64))),(99,zV2),(100,zY2),(101,zY2)]),(.ret,[(6,(.one (.int .u64))),(7,zZ2),(9,zW2),(12,zX2),(13,(.one (.int .u64)))])] (.two (.two (.join [(1,zY2),(6,(.one (.int .u64))),(7,zZ2),(8,zX2),(9,zW2),(10,(.one (.int .u64))),(11,(.one (.int .u64))),(12,zX2),(13,(.one (.int .u64))),(15,(.one (.int .u8))),(99,zV2),(100,zY2),(101,zY2),(106,zX2)] .n) (.two .n (.two (.join [(1,zY2),(6,(.one (.int .u64))),(7,zZ2),(8,zX2),(9,zW2),(10,(.one (.int .u64))),(11,(.one (.int .u64))),(12,zX2),(13,(.one (.int .u64))),(15,(.one (.int .u8))),(99,zV2),(100,zY2),(101,zY2),(112,zX2)] .n) (.two .n (.two (.join [(1,zY2),(6,(.one (.int .u64))),(7,zZ2),(8,zX2),(9,zW2),(10,(.one (.int .u64))),(11,(.one (.int .u64))),(12,zX2),(13,(.one (.int .u64))),(15,(.one (.int .u8))),(99,zV2),(100,zY2),(101,zY2),(121,zX2)] .n) .n))))) .n)) (.two .n (.two .n (.two .n (.two .n (.two (.joinO [(.norm,[(1,zY2),(6,(.one (.int .u64))),(7,zZ2),(8,zX2),(9,zW2),(10,(.one (.int .u64))),(11,(.one (.int .u64))),(12,zX2),(17,(.one (.int .u64))),(99,zV2),(100,zY2),(101,zY2)]),(.ret,[(6,(.one (.int .u64))),(7,zZ2),(9,zW2),(12,zX2),(13,(.one (.int .u64)))])] (.two (.join [(1,zY2),(6,(.one (.int .u64))),(7,zZ2),(8,zX2),(9,zW2),(10,(.one (.int .u64))),(11,(.one (.int .u64))),(12,zX2),(13,(.one (.int .u64))),(17,(.one (.int .u64))),(99,zV2),(100,zY2),(101,zY2),(159,zX2)] .n) .n)) .n)))))))) .n)) .n)))) .n)) (.two (.joinO [(.norm,[(13,(.one (.int .u64)))]),(.ret,[(6,(.one (.int .u64))),(7,zZ2)])] (.two (.join [(13,(.one (.int .u64))),(169,zX2)] .n) .n)) .n)))))))))))))
theorem bB1 (N:Nat):cD Tryz.prog 257 [zW2,zY2,zY2] (.tup [(.one (.int .u64)),zZ2]) (fun x h=>f257 N x.1 x.2.1 x.2.2.1 h):=pD (dA (yB0 N) (dA (tAp N) lA)) N fB8 Tryz.f257
def f245 (N:Nat) (a0:zA3) (a1 a2:Int) (h:Heap):Option (zK1×Heap):=let x1:=pB a0 [];(bif x1 then some ((0,(AV.iface 256 (.int .i64 2)),()),h)else(kA (α:=zP2) ((eJ a0 0 fun x2=>let x3:=pA x2 43;(bif x3 then(iA (.val zW2) (qD E h 9 (.str a0) (some (.int .i64 1)) none) fun (x4:zA3)=>some ((x4,a1,a2,false,()),h))else let x5:=pA x2 45;(bif x5 then(iA (.val zW2) (qD E h 9 (.str a0) (some (.int .i64 1)) none) fun (x6:zA3)=>some ((x6,a1,a2,true,()),h))else some ((a0,a1,a2,false,()),h))))) fun (j7:zP2) h8=>(kA (f257 N j7.1 j7.2.1 j7.2.2.1 h8) fun (x9:zK1) h10=>(kA (α:=zS2) ((iA (.val zX2) (wJ E .neq 29 (.tmp 32) (.const .nilIface) x9.2.1 AV.nilIface) fun (x11:Bool)=>(bif x11 then(iA (.val zX2) (wJ E .neq 29 (.tmp 35) (.tmp 36) x9.2.1 (AV.iface 256 (.int .i64 1))) fun (x12:Bool)=>some ((j7.2.2.1,x9.2.1,j7.2.2.2.1,x9.1,x12,()),h10))else some ((j7.2.2.1,x9.2.1,j7.2.2.2.1,x9.1,false,()),h10)))) fun (j13:zS2) h14=>(bif j13.2.2.2.2.1 then some ((0,j13.2.1,()),h14)else(kA (α:=(Int×Bool×Int×Unit)) ( let x15:=pA j13.1 0;(bif x15 then some ((64,j13.2.2.1,j13.2.2.2.1,()),h14)else some ((j13.1,j13.2.2.1,j13.2.2.2.1,()),h14))) fun (j16:(Int×Bool×Int×Unit)) h17=>let x18:=bB .i64 (j16.1-1);let x19:=bB .u64 x18;(iA (.val (.one (.int .u64))) (uA2 .shl .u64 1 x19) fun (x20:Int)=>(kA (α:=zD2) ( let x21:=!j16.2.1;(bif x21 then let x22:Bool:=uC x20 j16.2.2.1;some ((j16.2.1,j16.2.2.1,x20,x22,()),h17)else some ((j16.2.1,j16.2.2.1,x20,false,()),h17))) fun (j23:zD2) h24=>
 (bif j23.2.2.2.1 then let x25:=bB .u64 (j23.2.2.1-1);let x26:=bB .i64 x25;some ((x26,(AV.iface 256 (.int .i64 1)),()),h24)else(kA (α:=zD2) ((bif j23.1 then let x27:=uB j23.2.2.1 j23.2.1;some ((j23.1,j23.2.1,j23.2.2.1,x27,()),h24)else some ((j23.1,j23.2.1,j23.2.2.1,false,()),h24))) fun (j28:zD2) h29=>(bif j28.2.2.2.1 then let x30:=bB .i64 j28.2.2.1;let x31:=bB .i64 (0-x30);some ((x31,(AV.iface 256 (.int .i64 1)),()),h29)else let x32:=bB .i64 j28.2.1;(kA (α:=zQ1) ((bif j28.1 then let x33:=bB .i64 (0-x32);some ((x33,()),h29)else some ((x32,()),h29))) fun (j34:zQ1) h35=>some ((j34.1,AV.nilIface,()),h35)))))))))))))
def gB8:Ann:=(.two .n (.two .n (.two .n (.two (.join [(0,zW2),(1,zY2),(2,zY2),(8,zX2)] .n) (.two .n (.two .n (.two (.two (.join [(2,zY2),(7,zZ2),(8,zX2),(9,(.one (.int .u64))),(38,zX2)] .n) .n) (.two (.join [(2,zY2),(8,zX2),(9,(.one (.int .u64)))] .n) (.two .n (.two (.two (.join [(8,zX2),(9,(.one (.int .u64))),(10,(.one (.int .u64))),(52,zX2)] .n) .n) (.two (.two (.join [(8,zX2),(9,(.one (.int .u64))),(10,(.one (.int .u64))),(62,zX2)] .n) .n) (.two .n (.two (.join [(11,zY2)] .n) .n)))))))))))))
theorem cB1 (N:Nat):cD Tryz.prog 245 [zW2,zY2,zY2] (.tup [zY2,zZ2]) (fun x h=>f245 N x.1 x.2.1 x.2.2.1 h):=pD (dA (bB1 N) lA) N gB8 Tryz.f245
def rA0 (N:Nat) (go:Int→AV→zA3→Int→SL→Int→Int→Heap→Option (Out×zW1×Heap)) (v2:Int) (v3:AV) (v5:zA3) (v6:Int) (v47:SL) (v48 v49:Int) (h:Heap):Option (Out×zW1×Heap):=let x19:=uB v49 v48;(bif x19 then(ixK v47.a v47.len v49 1 fun q20=>(iA (.val (.one (.int .u8))) (h.cell q20) fun (x21:Int)=>let x22:=bB .u8 (x21-48);let x23:=uB 9 x22;(bif x23 then some (Out.ret,(0,(AV.iface 256 (.int .i64 2)),v5,v6,()),h)else let x24:=bB .i64 (v6 * 10);let x25:=bB .i64 x22;let x26:=bB .i64 (x24+x25);let x27:=bB .i64 (v49+1);go v2 v3 v5 x26 v47 v48 x27 h)))else some ((Out.exit 0),(v2,v3,v5,v6,()),h))
def jA6 (N M:Nat) (v2:Int) (v3:AV) (v5:zA3) (v6:Int) (v47:SL) (v48 v49:Int) (h:Heap):Option (Out×zW1×Heap):=iter (fun go s h=>rA0 N (fun v2 v3 v5 v6 v47 v48 v49 h=>go (v2,v3,v5,v6,v47,v48,v49,()) h) s.1 s.2.1 s.2.2.1 s.2.2.2.1 s.2.2.2.2.1 s.2.2.2.2.2.1 s.2.2.2.2.2.2.1 h) M (v2,v3,v5,v6,v47,v48,v49,()) h
theorem eAb (N M v2 v3 v5 v6 v47 v48 v49 h):jA6 N (M+1) v2 v3 v5 v6 v47 v48 v49 h=rA0 N (jA6 N M) v2 v3 v5 v6 v47 v48 v49 h:=rfl
def f233 (N:Nat) (a0:zA3) (h:Heap):Option (zK1×Heap):=(uA (α:=Sum ((zA3×Unit)×Heap) (Sum (zK1×Heap) (Empty))) ((kA (α:=zR2) ( let x1:=uB 0 (Int.ofNat a0.length);(bif x1 then let x2:=uB (Int.ofNat a0.length) 19;some ((a0,0,AV.nilIface,x2,()),h)else some ((a0,0,AV.nilIface,false,()),h))) fun (j3:zR2) h4=>(bif j3.2.2.2.1 then(uA (α:=Sum (zL2×Heap) (Sum (zK1×Heap) (Empty))) ((kA (α:=zJ2) ((eJ j3.1 0 fun x5=>let x6:=pA x5 45;(bif x6 then some ((j3.1,j3.2.1,j3.2.2.1,j3.1,true,()),h4)else(eJ j3.1 0 fun x7=>let x8:=pA x7 43;some ((j3.1,j3.2.1,j3.2.2.1,j3.1,x8,()),h4))))) fun (j9:zJ2) h10=>(bif j9.2.2.2.2.1 then(iA (.val zW2) (qD E h10 9 (.str j9.1) (some (.int .i64 1)) none) fun (x11:zA3)=>let x12:=uB (Int.ofNat x11.length) 1;(bif x12 then some (Sum.inr (Sum.inl ((0,(AV.iface 256 (.int .i64 2)),()),h10)))else some (Sum.inl ((x11,j9.2.1,j9.2.2.1,j9.2.2.2.1,()),h10))))else some (Sum.inl ((j9.1,j9.2.1,j9.2.2.1,j9.2.2.2.1,()),h10))))) fun j13=>(dC j13 (fun (j14:zL2) h15=>(fG (.val zV2) (mAc E 9 81 (.str j14.1) h15) fun (x17:SL) h18=>(eE (jA6 N N j14.2.1 j14.2.2.1 j14.2.2.2.1 0 x17 (Int.ofNat x17.len) 0 h18) fun o28 (j29:zW1) h30=>(bif mD o28 (.exit 0) then(kA (α:=zQ1) ((eJ j29.2.2.1 0 fun x31=>let x32:=pA x31 45;(bif x32 then let x33:=bB .i64 (0-j29.2.2.2.1);some ((x33,()),h30)else some ((j29.2.2.2.1,()),h30)))) fun (j34:zQ1) h35=>some (Sum.inr (Sum.inl ((j34.1,AV.nilIface,()),h35))))else some (Sum.inr (Sum.inl ((j29.1,j29.2.1,()),h30))))))) fun j16=>
 (dC j16 (fun (j36:zK1) h37=>some (Sum.inr (Sum.inl ((j36.1,j36.2.1,()),h37)))) fun _=>none)))else some (Sum.inl ((j3.1,()),h4))))) fun j39=>(dC j39 (fun (j40:(zA3×Unit)) h41=>(kA (f245 N j40.1 10 0 h41) fun (x43:zK1) h44=>some ((x43.1,x43.2.1,()),h44))) fun j42=>(dC j42 (fun (j45:zK1) h46=>some ((j45.1,j45.2.1,()),h46)) fun _=>none)))
def iB8:Ann:=(.two .n (.two .n (.two (.joinO [(.norm,[(0,zW2)]),(.ret,[(2,zY2),(3,zZ2)])] (.two (.join [(0,zW2),(2,zY2),(3,zZ2),(30,zX2)] .n) (.two (.two .n (.two (.joinO [(.norm,[(0,zW2),(2,zY2),(3,zZ2),(5,zW2)]),(.ret,[(2,zY2),(3,zZ2)])] (.two (.join [(0,zW2),(2,zY2),(3,zZ2),(5,zW2),(39,zX2)] .n) .n)) (.two .n (.two (.two .n (.two (.loop [(2,zY2),(3,zZ2),(5,zW2),(6,zY2),(47,zV2),(48,zY2),(49,zY2)] [(.exit 0),.ret] [(2,zY2),(3,zZ2),(5,zW2),(6,zY2)] .n) .n)) (.two (.join [(6,zY2)] .n) .n))))) .n))) .n)))
theorem dB1 (N:Nat):cD Tryz.prog 233 [zW2] (.tup [zY2,zZ2]) (fun x h=>f233 N x.1 h):=pD (dA (cB1 N) lA) N iB8 Tryz.f233
def f234 (N:Nat) (a0 a1:zA3) (a2 a3:Int) (a4:AV) (h:Heap):Option (AV×Heap):=Qw.dAb a0 a1 a2 a3 a4 h
theorem gAe (N:Nat):cD Tryz.prog 234 [zW2,zW2,zY2,zY2,zZ2] (.val zZ2) (fun x h=>f234 N x.1 x.2.1 x.2.2.1 x.2.2.2.1 x.2.2.2.2.1 h):=Qw.gAe N
def f220 (N:Nat) (a0:zA3) (h:Heap):Option (zK1×Heap):=(kA (f233 N a0 h) fun (x1:zK1) h2=>(iA (.val zX2) (wJ E .neq 29 (.tmp 11) (.const .nilIface) x1.2.1 AV.nilIface) fun (x3:Bool)=>(bif x3 then(kA (f234 N [65,116,111,105] a0 0 0 x1.2.1 h2) fun (x4:AV) h5=>some ((x1.1,x4,()),h5))else some ((x1.1,AV.nilIface,()),h2))))
def jB8:Ann:=.n
theorem eB1 (N:Nat):cD Tryz.prog 220 [zW2] (.tup [zY2,zZ2]) (fun x h=>f220 N x.1 h):=pD (dA (gAe N) (dA (dB1 N) lA)) N jB8 Tryz.f220
def f208 (N:Nat) (a0:zT2) (h:Heap):Option (zT×Heap):=let h1:=h.push (.row yZH .own);(kA (f92 N a0 [116,114,117,101] h1) fun (x2:Bool) h3=>(bif x2 then(uA (h3.store (h.next,0) [(.int .i64 2),(.int .i64 1),(.str []),(.slice none 0 0 0)]) fun h4=>(iA (.val zE) (h4.cells (h.next,0) 4) fun (x5:zT)=>some ((x5.1,x5.2.1,x5.2.2.1,x5.2.2.2.1,()),h4)))else(kA (f92 N a0 [102,97,108,115,101] h3) fun (x6:Bool) h7=>(bif x6 then(uA (h7.store (h.next,0) [(.int .i64 2),(.int .i64 0),(.str []),(.slice none 0 0 0)]) fun h8=>(iA (.val zE) (h8.cells (h.next,0) 4) fun (x9:zT)=>some ((x9.1,x9.2.1,x9.2.2.1,x9.2.2.2.1,()),h8)))else(kA (f56 N a0 h7) fun (x10:zQ) h11=>let x12:=pA x10.1 4;(bif x12 then(kA (f94 N a0 4 h11) fun (x13:zA3) h14=>(kA (f220 N x13 h14) fun (x15:zK1) h16=>(uA (h16.store (h.next,0) [(.int .i64 1),(.int .i64 x15.1),(.str []),(.slice none 0 0 0)]) fun h17=>(iA (.val zE) (h17.cells (h.next,0) 4) fun (x18:zT)=>some ((x18.1,x18.2.1,x18.2.2.1,x18.2.2.2.1,()),h17)))))else(kA (f221 N a0 h11) fun (x19:zY) h20=>(uA (h20.store (h.next,0) [(.int .i64 3),(.int .i64 0),(.str x19.1),(.slice x19.2.1.a x19.2.1.len x19.2.1.cap x19.2.1.sz)]) fun h21=>(iA (.val zE) (h21.cells (h.next,0) 4) fun (x22:zT)=>some ((x22.1,x22.2.1,x22.2.2.1,x22.2.2.2.1,()),h21))))))))))
def kB8:Ann:=.n
theorem kA6 (N:Nat):cD Tryz.prog 208 [zU2] (.val zE) (fun x h=>f208 N x.1 h):=pD (dA (aN N) (dA (bW N) (dA (yM N) (dA (nAe N) (dA (eB1 N) lA))))) N kB8 Tryz.f208
def f231 (N:Nat) (a0:zT2) (a1:zA3) (h:Heap):Option (Bool×Heap):=(uA a0 fun q1=>(iA (.val zZ2) (h.cell (q1.1,q1.2+3)) fun (x2:AV)=>(iA (.val zX2) (wJ E .neq 29 (.tmp 9) (.const .nilIface) x2 AV.nilIface) fun (x3:Bool)=>(bif x3 then some (false,h)else(kA (f56 N a0 h) fun (x4:zQ) h5=>let x6:=!pA x4.1 1;(bif x6 then some (false,h5)else(uA a0 fun q7=>(iA (.val zV2) (h5.cell (q7.1,q7.2+0)) fun (x8:SL)=>(uA a0 fun q9=>(iA (.val zY2) (h5.cell (q9.1,q9.2+1)) fun (x10:Int)=>let x11:=bB .i64 (x10+1);(ixK x8.a x8.len x11 3 fun q12=>(iA (.val zG) (h5.cells q12 3) fun (x13:zQ)=>let h14:=h5.push (.row yZE .own);(uA (h14.store (h5.next,0) (yRF x13)) fun h15=>(uE (bif (mC (h14.cells q12 3) (.agg (yRF x13))) then (bif (mC (h5.cells q12 3) (.agg (yRF x13))) then (bif (mC (h14.cell (q9.1,q9.2+1)) (.int .i64 x10)) then (bif (mC (h5.cell (q9.1,q9.2+1)) (.int .i64 x10)) then (bif (mC (h14.cell (q7.1,q7.2+0)) (.slice x8.a x8.len x8.cap x8.sz)) then (bif (mC (h5.cell (q7.1,q7.2+0)) (.slice x8.a x8.len x8.cap x8.sz)) then true else false) else false) else false) else false) else false) else false) ((iA (.val zY2) (h15.cell ((h5.next,0).1,(h5.next,0).2+0)) fun (x16:Int)=>let x17:=pA x16 5;(bif x17 then(iA (.val zW2) (h15.cell ((h5.next,0).1,(h5.next,0).2+1)) fun (x18:zA3)=>let x19:=pB x18 a1;some (x19,h15))else some (false,h15))))))))))))))))))
def lB8:Ann:=.n
theorem wAp (N:Nat):cD Tryz.prog 231 [zU2,zW2] (.val zX2) (fun x h=>f231 N x.1 x.2.1 h):=pD (dA (yM N) lA) N lB8 Tryz.f231
def f222 (N:Nat) (a0:zT2) (h:Heap):Option (Bool×Heap):=(kA (f231 N a0 [58,58] h) fun (x1:Bool) h2=>(bif x1 then some (true,h2)else(kA (f231 N a0 [40] h2) fun (x3:Bool) h4=>some (x3,h4))))
def mB8:Ann:=.n
theorem yAp (N:Nat):cD Tryz.prog 222 [zU2] (.val zX2) (fun x h=>f222 N x.1 h):=pD (dA (wAp N) lA) N mB8 Tryz.f222
def f256 (N:Nat) (a0 a1:zT2) (h:Heap):Option ((Unit)×Heap):=(uA a0 fun q1=>(iA (.val zU2) (h.cell q1) fun (x2:zT2)=>(uA a0 fun q3=>(iA (.val zU2) (h.cell q3) fun (x4:zT2)=>(uA x4 fun q5=>(iA (.val zV2) (h.cell (q5.1,q5.2+13)) fun (x6:SL)=>(uA a1 fun q7=>(iA (.val zU2) (h.cell q7) fun (x8:zT2)=>(kA (f94 N x8 1 h) fun (x9:zA3) h10=>let h11:=h10.push (.row [(.str x9)] .own);(fG (.val zV2) (pC E 38 38 (.slice x6.a x6.len x6.cap x6.sz) (.slice (some (h10.next,0)) 1 1 1) h11) fun (x12:SL) h13=>(uA x2 fun q14=>(uA (h13.store (q14.1,q14.2+13) [(.slice x12.a x12.len x12.cap x12.sz)]) fun h15=>(uE (bif (pE a1 fun q=>mC (h.cell q) (.ptr x8)) then (bif (mC (h11.cell (q5.1,q5.2+13)) (.slice x6.a x6.len x6.cap x6.sz)) then (bif (mC (h10.cell (q5.1,q5.2+13)) (.slice x6.a x6.len x6.cap x6.sz)) then (bif (mC (h.cell (q5.1,q5.2+13)) (.slice x6.a x6.len x6.cap x6.sz)) then (bif (pE a0 fun q=>mC (h11.cell q) (.ptr x4)) then (bif (pE a0 fun q=>mC (h10.cell q) (.ptr x4)) then (bif (pE a0 fun q=>mC (h.cell q) (.ptr x4)) then (bif (pE a0 fun q=>mC (h13.cell q) (.ptr x2)) then (bif (pE a0 fun q=>mC (h11.cell q) (.ptr x2)) then (bif (pE a0 fun q=>mC (h10.cell q) (.ptr x2)) then (bif (pE a0 fun q=>mC (h.cell q) (.ptr x2)) then true else false) else false) else false) else false) else false) else false) else false) else false) else false) else false) else false) ((uA a1 fun q16=>(iA (.val zU2) (h15.cell q16) fun (x17:zT2)=>
 (kA (f149 N x17 [58] h15) fun (x18:(Unit)) h19=>(uA a0 fun q20=>(iA (.val zU2) (h19.cell q20) fun (x21:zT2)=>(uA a0 fun q22=>(iA (.val zU2) (h19.cell q22) fun (x23:zT2)=>(uA x23 fun q24=>(iA (.val zV2) (h19.cell (q24.1,q24.2+14)) fun (x25:SL)=>(uA a1 fun q26=>(iA (.val zU2) (h19.cell q26) fun (x27:zT2)=>(kA (f208 N x27 h19) fun (x28:zT) h29=>let h30:=h29.push (.row (yRE x28) .own);(fG (.val zV2) (pC E 102 102 (.slice x25.a x25.len x25.cap x25.sz) (.slice (some (h29.next,0)) 1 1 4) h30) fun (x31:SL) h32=>(uA x21 fun q33=>(uA (h32.store (q33.1,q33.2+14) [(.slice x31.a x31.len x31.cap x31.sz)]) fun h34=>(uE (bif (pE a1 fun q=>mC (h19.cell q) (.ptr x27)) then (bif (mC (h30.cell (q24.1,q24.2+14)) (.slice x25.a x25.len x25.cap x25.sz)) then (bif (mC (h29.cell (q24.1,q24.2+14)) (.slice x25.a x25.len x25.cap x25.sz)) then (bif (mC (h19.cell (q24.1,q24.2+14)) (.slice x25.a x25.len x25.cap x25.sz)) then (bif (pE a0 fun q=>mC (h30.cell q) (.ptr x23)) then (bif (pE a0 fun q=>mC (h29.cell q) (.ptr x23)) then (bif (pE a0 fun q=>mC (h19.cell q) (.ptr x23)) then (bif (pE a0 fun q=>mC (h32.cell q) (.ptr x21)) then (bif (pE a0 fun q=>mC (h30.cell q) (.ptr x21)) then (bif (pE a0 fun q=>mC (h29.cell q) (.ptr x21)) then (bif (pE a0 fun q=>mC (h19.cell q) (.ptr x21)) then true else false) else false) else false) else false) else false) else false) else false) else false) else false) else false) else false) (
 some ((()),h34))))))))))))))))))))))))))))))))
def nB8:Ann:=.n
theorem fB1 (N:Nat):cD Tryz.prog 256 [zU2,zU2] (.tup []) (fun x h=>f256 N x.1 x.2.1 h):=pD (dA (aN N) (dA (kA6 N) (dA (bJ N) lA))) N nB8 Tryz.f256
def qL (N:Nat) (go:zT2→zA3→zM→Int→Heap→Option (Out×(Unit)×Heap)) (v0:zT2) (v1:zA3) (v2:zM) (v6:Int) (h:Heap):Option (Out×(Unit)×Heap):=(kA (f188 N v0 v6 h) fun (x1:Bool) h2=>(bif x1 then(kA (f256 N v2.1 v2.2.1 h2) fun (x3:(Unit)) h4=>(kA (f93 N v0 v1 h4) fun (x5:Bool) h6=>let x7:=!x5;(bif x7 then some (Out.ret,(()),h6)else let x8:=bB .i64 (v6+1);go v0 v1 (v2.1,v2.2.1,()) x8 h6)))else some ((Out.exit 0),(()),h2)))
def rL (N M:Nat) (v0:zT2) (v1:zA3) (v2:zM) (v6:Int) (h:Heap):Option (Out×(Unit)×Heap):=iter (fun go s h=>qL N (fun v0 v1 v2 v6 h=>go (v0,v1,v2,v6,()) h) s.1 s.2.1 s.2.2.1 s.2.2.2.1 h) M (v0,v1,v2,v6,()) h
theorem bX (N M v0 v1 v2 v6 h):rL N (M+1) v0 v1 v2 v6 h=qL N (rL N M) v0 v1 v2 v6 h:=rfl
def cY (N:Nat) (a0:zT2) (a1:zA3) (a2:zM) (h:Heap):Option ((Unit)×Heap):=(eE (rL N N a0 a1 (a2.1,a2.2.1,()) 0 h) fun o9 (j10:(Unit)) h11=>(bif mD o9 (.exit 0) then some ((()),h11)else some ((()),h11)))
def eAl:Ann:=(.two .n (.two (.loop [(0,zU2),(1,zW2),(2,(.clo 256 [.ptr,.ptr])),(6,zY2)] [(.exit 0),.ret] [] .n) .n))
theorem oAe (N:Nat):cD Tryz.prog 147 [zU2,zW2,(.clo 256 [.ptr,.ptr])] (.tup []) (fun x h=>cY N x.1 x.2.1 x.2.2.1 h):=pD (dA (qG N) (dA (fB1 N) (dA (bN N) lA))) N eAl Tryz.f147
def f244 (N:Nat) (a0 a1:zT2) (h:Heap):Option ((Unit)×Heap):=let h1:=h.push (.row [(.ptr a0)] .own);let h2:=h1.push (.row [(.ptr a1)] .own);(iA (.val zU2) (h2.cell (h.next,0)) fun (x3:zT2)=>(kA (f149 N x3 [123] h2) fun (x4:(Unit)) h5=>(iA (.val zU2) (h5.cell (h.next,0)) fun (x6:zT2)=>(kA (f93 N x6 [125] h5) fun (x7:Bool) h8=>let x9:=!x7;(bif x9 then(iA (.val zU2) (h8.cell (h.next,0)) fun (x10:zT2)=>(kA (cY N x10 [44] ((some (h1.next,0)),(some (h.next,0)),()) h8) fun (x11:(Unit)) h12=>(iA (.val zU2) (h12.cell (h.next,0)) fun (x13:zT2)=>(kA (f149 N x13 [125] h12) fun (x14:(Unit)) h15=>some ((()),h15)))))else some ((()),h8))))))
def oB8:Ann:=.n
theorem gB1 (N:Nat):cD Tryz.prog 244 [zU2,zU2] (.tup []) (fun x h=>f244 N x.1 x.2.1 h):=pD (dA (qG N) (dA (bJ N) (qC (sel:=fun a=>bL 2 256 a) (oAe N) lA))) N oB8 Tryz.f244
def f235 (N:Nat) (a0 a1:zT2) (h:Heap):Option ((Unit)×Heap):=(uA a0 fun q1=>(iA (.val zU2) (h.cell q1) fun (x2:zT2)=>(uA a0 fun q3=>(iA (.val zU2) (h.cell q3) fun (x4:zT2)=>(uA x4 fun q5=>(iA (.val zV2) (h.cell (q5.1,q5.2+14)) fun (x6:SL)=>(uA a1 fun q7=>(iA (.val zU2) (h.cell q7) fun (x8:zT2)=>(kA (f208 N x8 h) fun (x9:zT) h10=>let h11:=h10.push (.row (yRE x9) .own);(fG (.val zV2) (pC E 102 102 (.slice x6.a x6.len x6.cap x6.sz) (.slice (some (h10.next,0)) 1 1 4) h11) fun (x12:SL) h13=>(uA x2 fun q14=>(uA (h13.store (q14.1,q14.2+14) [(.slice x12.a x12.len x12.cap x12.sz)]) fun h15=>(uE (bif (pE a1 fun q=>mC (h.cell q) (.ptr x8)) then (bif (mC (h11.cell (q5.1,q5.2+14)) (.slice x6.a x6.len x6.cap x6.sz)) then (bif (mC (h10.cell (q5.1,q5.2+14)) (.slice x6.a x6.len x6.cap x6.sz)) then (bif (mC (h.cell (q5.1,q5.2+14)) (.slice x6.a x6.len x6.cap x6.sz)) then (bif (pE a0 fun q=>mC (h11.cell q) (.ptr x4)) then (bif (pE a0 fun q=>mC (h10.cell q) (.ptr x4)) then (bif (pE a0 fun q=>mC (h.cell q) (.ptr x4)) then (bif (pE a0 fun q=>mC (h13.cell q) (.ptr x2)) then (bif (pE a0 fun q=>mC (h11.cell q) (.ptr x2)) then (bif (pE a0 fun q=>mC (h10.cell q) (.ptr x2)) then (bif (pE a0 fun q=>mC (h.cell q) (.ptr x2)) then true else false) else false) else false) else false) else false) else false) else false) else false) else false) else false) else false) ( some ((()),h15)))))))))))))))
def pB8:Ann:=.n
theorem iB1 (N:Nat):cD Tryz.prog 235 [zU2,zU2] (.tup []) (fun x h=>f235 N x.1 x.2.1 h):=pD (dA (kA6 N) lA) N pB8 Tryz.f235
def tL (N:Nat) (go:zT2→zA3→zM→Int→Heap→Option (Out×(Unit)×Heap)) (v0:zT2) (v1:zA3) (v2:zM) (v6:Int) (h:Heap):Option (Out×(Unit)×Heap):=(kA (f188 N v0 v6 h) fun (x1:Bool) h2=>(bif x1 then(kA (f235 N v2.1 v2.2.1 h2) fun (x3:(Unit)) h4=>(kA (f93 N v0 v1 h4) fun (x5:Bool) h6=>let x7:=!x5;(bif x7 then some (Out.ret,(()),h6)else let x8:=bB .i64 (v6+1);go v0 v1 (v2.1,v2.2.1,()) x8 h6)))else some ((Out.exit 0),(()),h2)))
def uL (N M:Nat) (v0:zT2) (v1:zA3) (v2:zM) (v6:Int) (h:Heap):Option (Out×(Unit)×Heap):=iter (fun go s h=>tL N (fun v0 v1 v2 v6 h=>go (v0,v1,v2,v6,()) h) s.1 s.2.1 s.2.2.1 s.2.2.2.1 h) M (v0,v1,v2,v6,()) h
theorem cX (N M v0 v1 v2 v6 h):uL N (M+1) v0 v1 v2 v6 h=tL N (uL N M) v0 v1 v2 v6 h:=rfl
def dY (N:Nat) (a0:zT2) (a1:zA3) (a2:zM) (h:Heap):Option ((Unit)×Heap):=(eE (uL N N a0 a1 (a2.1,a2.2.1,()) 0 h) fun o9 (j10:(Unit)) h11=>(bif mD o9 (.exit 0) then some ((()),h11)else some ((()),h11)))
def fAl:Ann:=(.two .n (.two (.loop [(0,zU2),(1,zW2),(2,(.clo 235 [.ptr,.ptr])),(6,zY2)] [(.exit 0),.ret] [] .n) .n))
theorem pAe (N:Nat):cD Tryz.prog 147 [zU2,zW2,(.clo 235 [.ptr,.ptr])] (.tup []) (fun x h=>dY N x.1 x.2.1 x.2.2.1 h):=pD (dA (qG N) (dA (iB1 N) (dA (bN N) lA))) N fAl Tryz.f147
def f223 (N:Nat) (a0 a1:zT2) (h:Heap):Option ((Unit)×Heap):=let h1:=h.push (.row [(.ptr a0)] .own);let h2:=h1.push (.row [(.ptr a1)] .own);(iA (.val zU2) (h2.cell (h.next,0)) fun (x3:zT2)=>(kA (f149 N x3 [40] h2) fun (x4:(Unit)) h5=>(iA (.val zU2) (h5.cell (h.next,0)) fun (x6:zT2)=>(kA (f93 N x6 [41] h5) fun (x7:Bool) h8=>let x9:=!x7;(bif x9 then(iA (.val zU2) (h8.cell (h.next,0)) fun (x10:zT2)=>(kA (dY N x10 [44] ((some (h1.next,0)),(some (h.next,0)),()) h8) fun (x11:(Unit)) h12=>(iA (.val zU2) (h12.cell (h.next,0)) fun (x13:zT2)=>(kA (f149 N x13 [41] h12) fun (x14:(Unit)) h15=>some ((()),h15)))))else some ((()),h8))))))
def qB8:Ann:=.n
theorem aAq (N:Nat):cD Tryz.prog 223 [zU2,zU2] (.tup []) (fun x h=>f223 N x.1 x.2.1 h):=pD (dA (qG N) (dA (bJ N) (qC (sel:=fun a=>bL 2 235 a) (pAe N) lA))) N qB8 Tryz.f223
def f232 (N:Nat) (a0:zT2) (h:Heap):Option (zO×Heap):=let h1:=h.push (.row yZB .own);(kA (f95 N a0 h1) fun (x2:zA3) h3=>let h4:=h3.push (.row yZB .own);(uA (h4.store (h3.next,0) [(.int .i64 6),(.int .i64 0),(.int .i64 0),(.str []),(.slice none 0 0 0),(.int .i64 0),(.int .i64 0),(.str []),(.slice none 0 0 0),(.int .i64 0),(.str []),(.slice none 0 0 0),(.str x2),(.slice none 0 0 0),(.slice none 0 0 0)]) fun h5=>(kA (f146 N a0 5 [123] h5) fun (x6:Bool) h7=>(bif x6 then(uA (h7.store ((h3.next,0).1,(h3.next,0).2+0) [(.int .i64 7)]) fun h8=>(kA (f244 N a0 (some (h3.next,0)) h8) fun (x9:(Unit)) h10=>(iA (.val zB) (h10.cells (h3.next,0) 15) fun (x11:zO)=>(uA (h10.store (h.next,0) (yRB x11)) fun h12=>(iA (.val zB) (h12.cells (h.next,0) 15) fun (x13:zO)=>some ((x13.1,x13.2.1,x13.2.2.1,x13.2.2.2.1,x13.2.2.2.2.1,x13.2.2.2.2.2.1,x13.2.2.2.2.2.2.1,x13.2.2.2.2.2.2.2.1,x13.2.2.2.2.2.2.2.2.1,x13.2.2.2.2.2.2.2.2.2.1,x13.2.2.2.2.2.2.2.2.2.2.1,x13.2.2.2.2.2.2.2.2.2.2.2.1,x13.2.2.2.2.2.2.2.2.2.2.2.2.1,x13.2.2.2.2.2.2.2.2.2.2.2.2.2.1,x13.2.2.2.2.2.2.2.2.2.2.2.2.2.2.1,()),h12))))))else(kA (f223 N a0 (some (h3.next,0)) h7) fun (x14:(Unit)) h15=>(iA (.val zB) (h15.cells (h3.next,0) 15) fun (x16:zO)=>(uA (h15.store (h.next,0) (yRB x16)) fun h17=>(iA (.val zB) (h17.cells (h.next,0) 15) fun (x18:zO)=>some ((x18.1,x18.2.1,x18.2.2.1,x18.2.2.2.1,x18.2.2.2.2.1,x18.2.2.2.2.2.1,x18.2.2.2.2.2.2.1,x18.2.2.2.2.2.2.2.1,x18.2.2.2.2.2.2.2.2.1,x18.2.2.2.2.2.2.2.2.2.1,x18.2.2.2.2.2.2.2.2.2.2.1,x18.2.2.2.2.2.2.2.2.2.2.2.1,x18.2.2.2.2.2.2.2.2.2.2.2.2.1,x18.2.2.2.2.2.2.2.2.2.2.2.2.2.1,x18.2.2.2.2.2.2.2.2.2.2.2.2.2.2.1,()),h17)))))))))
def rB8:Ann:=.n
theorem jB1 (N:Nat):cD Tryz.prog 232 [zU2] (.val zB) (fun x h=>f232 N x.1 h):=pD (dA (tAo N) (dA (gB1 N) (dA (aAq N) (dA (eA0 N) lA)))) N rB8 Tryz.f232
def eT (N:Nat) (go:zT2→zT2→zT2→SL→Int→Int→Heap→Option (Out×zM×Heap)) (v0 v2 v4:zT2) (v34:SL) (v35 v36:Int) (h:Heap):Option (Out×zM×Heap):=let x36:=uB v36 v35;(bif x36 then(ixK v34.a v34.len v36 1 fun q37=>(iA (.val zW2) (h.cell q37) fun (x38:zA3)=>(kA (f93 N v0 x38 h) fun (x39:Bool) h40=>(bif x39 then let x41:=bB .i64 (1+v36);(kA (f208 N v0 h40) fun (x42:zT) h43=>(uA v4 fun q44=>(uA (h43.store (q44.1,q44.2+0) [(.int .i64 5)]) fun h45=>(uA v4 fun q46=>(uA (h45.store (q46.1,q46.2+9) [(.int .i64 x41)]) fun h47=>(uA v4 fun q48=>(uA (h47.store (q48.1,q48.2+5) (yRE x42)) fun h49=>some ((Out.exit 1),(v2,v4,()),h49))))))))else let x50:=bB .i64 (v36+1);go v0 v2 v4 v34 v35 x50 h40))))else some ((Out.exit 1),(v2,v4,()),h))
def lA6 (N M:Nat) (v0 v2 v4:zT2) (v34:SL) (v35 v36:Int) (h:Heap):Option (Out×zM×Heap):=iter (fun go s h=>eT N (fun v0 v2 v4 v34 v35 v36 h=>go (v0,v2,v4,v34,v35,v36,()) h) s.1 s.2.1 s.2.2.1 s.2.2.2.1 s.2.2.2.2.1 s.2.2.2.2.2.1 h) M (v0,v2,v4,v34,v35,v36,()) h
theorem eW (N M v0 v2 v4 v34 v35 v36 h):lA6 N (M+1) v0 v2 v4 v34 v35 v36 h=eT N (lA6 N M) v0 v2 v4 v34 v35 v36 h:=rfl
def f219 (N:Nat) (a0:zT2) (h:Heap):Option (zO×Heap):=let h1:=h.push (.row yZB .own);(uA (α:=Sum (zM×Heap) (Sum ((zT2×Unit)×Heap) (Empty))) ((kA (f93 N a0 [38] h1) fun (x2:Bool) h3=>(bif x2 then(kA (α:=zH2) ((kA (f92 N a0 [109,117,116] h3) fun (x4:Bool) h5=>(bif x4 then some ((a0,(some (h.next,0)),3,()),h5)else some ((a0,(some (h.next,0)),2,()),h5)))) fun (j6:zH2) h7=>(kA (f221 N j6.1 h7) fun (x8:zY) h9=>(uA j6.2.1 fun q11=>(uA (h9.store q11 [(.int .i64 j6.2.2.1),(.int .i64 0),(.int .i64 0),(.str []),(.slice none 0 0 0),(.int .i64 0),(.int .i64 0),(.str []),(.slice none 0 0 0),(.int .i64 0),(.str x8.1),(.slice x8.2.1.a x8.2.1.len x8.2.1.cap x8.2.1.sz),(.str []),(.slice none 0 0 0),(.slice none 0 0 0)]) fun h10=>some (Sum.inr (Sum.inl ((j6.2.1,()),h10)))))))else(kA (f93 N a0 [33] h3) fun (x12:Bool) h13=>(bif x12 then(kA (f208 N a0 h13) fun (x14:zT) h15=>(uA (h15.store (h.next,0) [(.int .i64 4),(.int .i64 x14.1),(.int .i64 x14.2.1),(.str x14.2.2.1),(.slice x14.2.2.2.1.a x14.2.2.2.1.len x14.2.2.2.1.cap x14.2.2.2.1.sz),(.int .i64 0),(.int .i64 0),(.str []),(.slice none 0 0 0),(.int .i64 0),(.str []),(.slice none 0 0 0),(.str []),(.slice none 0 0 0),(.slice none 0 0 0)]) fun h16=>some (Sum.inr (Sum.inl (((some (h.next,0)),()),h16)))))else(kA (α:=zF2) ((kA (f222 N a0 h13) fun (x17:Bool) h18=>(bif x17 then some ((a0,(some (h.next,0)),true,()),h18)else(kA (f231 N a0 [123] h18) fun (x19:Bool) h20=>some ((a0,(some (h.next,0)),x19,()),h20))))) fun (j21:zF2) h22=>
 (bif j21.2.2.1 then(kA (f232 N j21.1 h22) fun (x23:zO) h24=>(uA j21.2.1 fun q26=>(uA (h24.store q26 (yRB x23)) fun h25=>some (Sum.inr (Sum.inl ((j21.2.1,()),h25))))))else some (Sum.inl ((j21.1,j21.2.1,()),h22))))))))) fun j27=>(dC j27 (fun (j28:zM) h29=>(kA (f208 N j28.1 h29) fun (x31:zT) h32=>let h33:=h32.push (.row yZB .own);(uA (h33.store (h32.next,0) [(.int .i64 1),(.int .i64 x31.1),(.int .i64 x31.2.1),(.str x31.2.2.1),(.slice x31.2.2.2.1.a x31.2.2.2.1.len x31.2.2.2.1.cap x31.2.2.2.1.sz),(.int .i64 0),(.int .i64 0),(.str []),(.slice none 0 0 0),(.int .i64 0),(.str []),(.slice none 0 0 0),(.str []),(.slice none 0 0 0),(.slice none 0 0 0)]) fun h34=>let h35:=h34.push (.row [(.str [43]),(.str [45]),(.str [60]),(.str [61,61])] .own);(eE (lA6 N N j28.1 j28.2.1 (some (h32.next,0)) ⟨(some (h34.next,0)),4,4,1⟩ (Int.ofNat 4) 0 h35) fun _ (j52:zM) h53=>(uA j52.2.1 fun q54=>(iA (.val zB) (h53.cells q54 15) fun (x55:zO)=>(uA j52.1 fun q57=>(uA (h53.store q57 (yRB x55)) fun h56=>(uA j52.1 fun q58=>(iA (.val zB) (h56.cells q58 15) fun (x59:zO)=>some ((x59.1,x59.2.1,x59.2.2.1,x59.2.2.2.1,x59.2.2.2.2.1,x59.2.2.2.2.2.1,x59.2.2.2.2.2.2.1,x59.2.2.2.2.2.2.2.1,x59.2.2.2.2.2.2.2.2.1,x59.2.2.2.2.2.2.2.2.2.1,x59.2.2.2.2.2.2.2.2.2.2.1,x59.2.2.2.2.2.2.2.2.2.2.2.1,x59.2.2.2.2.2.2.2.2.2.2.2.2.1,x59.2.2.2.2.2.2.2.2.2.2.2.2.2.1,x59.2.2.2.2.2.2.2.2.2.2.2.2.2.2.1,()),h56))))))))))) fun j30=>(dC j30 (fun (j60:(zT2×Unit)) h61=>(uA j60.1 fun q63=>(iA (.val zB) (h61.cells q63 15) fun (x64:zO)=>
 some ((x64.1,x64.2.1,x64.2.2.1,x64.2.2.2.1,x64.2.2.2.2.1,x64.2.2.2.2.2.1,x64.2.2.2.2.2.2.1,x64.2.2.2.2.2.2.2.1,x64.2.2.2.2.2.2.2.2.1,x64.2.2.2.2.2.2.2.2.2.1,x64.2.2.2.2.2.2.2.2.2.2.1,x64.2.2.2.2.2.2.2.2.2.2.2.1,x64.2.2.2.2.2.2.2.2.2.2.2.2.1,x64.2.2.2.2.2.2.2.2.2.2.2.2.2.1,x64.2.2.2.2.2.2.2.2.2.2.2.2.2.2.1,()),h61)))) fun _=>none)))
def tB8:Ann:=(.two .n (.two (.joinO [(.norm,[(0,zU2),(2,zU2)]),(.ret,[(2,zU2)])] (.two (.two .n (.two (.two .n (.two (.join [(0,zU2),(2,zU2),(3,zY2)] .n) .n)) (.two .n (.two .n (.two (.join [(0,zU2),(2,zU2),(22,zX2)] .n) .n))))) .n)) (.two .n (.two (.two .n (.two (.loop [(0,zU2),(2,zU2),(4,zU2),(34,zV2),(35,zY2),(36,zY2)] [(.exit 1)] [(2,zU2),(4,zU2)] .n) .n)) .n))))
theorem bAq (N:Nat):cD Tryz.prog 219 [zU2] (.val zB) (fun x h=>f219 N x.1 h):=pD (dA (qG N) (dA (bW N) (dA (jB1 N) (dA (wAp N) (dA (yAp N) (dA (nAe N) (dA (kA6 N) lA))))))) N tB8 Tryz.f219
def f207 (N:Nat) (a0 a1:zT2) (h:Heap):Option ((Unit)×Heap):=(kA (f92 N a0 [109,117,116] h) fun (x1:Bool) h2=>(uA a1 fun q3=>(uA (h2.store (q3.1,q3.2+0) [(.int .i64 1)]) fun h4=>(uA a1 fun q5=>(uA (h4.store (q5.1,q5.2+2) [(.bool x1)]) fun h6=>(kA (f154 N a0 h6) fun (x7:zG1) h8=>let h9:=h8.push (.row yZF .own);(uA (h9.store (h8.next,0) (yRG x7)) fun h10=>(iA (.val zW2) (h10.cell ((h8.next,0).1,(h8.next,0).2+1)) fun (x11:zA3)=>(iA (.val zC) (h10.cells ((h8.next,0).1,(h8.next,0).2+2) 4) fun (x12:zP)=>(uA a1 fun q13=>(uA (h10.store (q13.1,q13.2+3) [(.str x11)]) fun h14=>(uA a1 fun q15=>(uA (h14.store (q15.1,q15.2+4) (yRC x12)) fun h16=>(uE (bif (mC (h14.cells ((h8.next,0).1,(h8.next,0).2+2) 4) (.agg (yRC x12))) then (bif (mC (h10.cells ((h8.next,0).1,(h8.next,0).2+2) 4) (.agg (yRC x12))) then (bif (mC (h10.cell ((h8.next,0).1,(h8.next,0).2+1)) (.str x11)) then true else false) else false) else false) ((kA (f93 N a0 [61] h16) fun (x17:Bool) h18=>(uA a1 fun q19=>(uA (h18.store (q19.1,q19.2+8) [(.bool x17)]) fun h20=>(uA a1 fun q21=>(iA (.val zX2) (h20.cell (q21.1,q21.2+8)) fun (x22:Bool)=>(bif x22 then(kA (f219 N a0 h20) fun (x23:zO) h24=>(uA a1 fun q25=>(uA (h24.store (q25.1,q25.2+11) (yRB x23)) fun h26=>(kA (f149 N a0 [59] h26) fun (x27:(Unit)) h28=>some ((()),h28)))))else(kA (f149 N a0 [59] h20) fun (x29:(Unit)) h30=>some ((()),h30)))))))))))))))))))))))
def uB8:Ann:=.n
theorem kB1 (N:Nat):cD Tryz.prog 207 [zU2,zU2] (.tup []) (fun x h=>f207 N x.1 x.2.1 h):=pD (dA (qG N) (dA (bW N) (dA (bAq N) (dA (iAe N) (dA (bJ N) lA))))) N uB8 Tryz.f207
def f209 (N:Nat) (a0 a1:zT2) (h:Heap):Option ((Unit)×Heap):=(kA (f92 N a0 [98,114,101,97,107] h) fun (x1:Bool) h2=>(bif x1 then(uA a1 fun q3=>(uA (h2.store (q3.1,q3.2+0) [(.int .i64 8)]) fun h4=>some ((()),h4)))else(kA (f92 N a0 [99,111,110,116,105,110,117,101] h2) fun (x5:Bool) h6=>(bif x5 then(uA a1 fun q7=>(uA (h6.store (q7.1,q7.2+0) [(.int .i64 9)]) fun h8=>some ((()),h8)))else(kA (f92 N a0 [114,101,116,117,114,110] h6) fun (x9:Bool) h10=>(bif x9 then(uA a1 fun q11=>(uA (h10.store (q11.1,q11.2+0) [(.int .i64 10)]) fun h12=>(kA (f146 N a0 5 [59] h12) fun (x13:Bool) h14=>let x15:=!x13;(uA a1 fun q16=>(uA (h14.store (q16.1,q16.2+8) [(.bool x15)]) fun h17=>(uA a1 fun q18=>(iA (.val zX2) (h17.cell (q18.1,q18.2+8)) fun (x19:Bool)=>(bif x19 then(kA (f219 N a0 h17) fun (x20:zO) h21=>(uA a1 fun q22=>(uA (h21.store (q22.1,q22.2+11) (yRB x20)) fun h23=>some ((()),h23))))else some ((()),h17)))))))))else(kA (f92 N a0 [100,114,111,112] h10) fun (x24:Bool) h25=>(bif x24 then(kA (f221 N a0 h25) fun (x26:zY) h27=>(uA a1 fun q28=>(uA (h27.store (q28.1,q28.2+0) [(.int .i64 11)]) fun h29=>(uA a1 fun q30=>(uA (h29.store (q30.1,q30.2+9) (yRI x26)) fun h31=>some ((()),h31))))))else(kA (f222 N a0 h25) fun (x32:Bool) h33=>(bif x32 then(kA (f95 N a0 h33) fun (x34:zA3) h35=>(uA a1 fun q36=>(uA (h35.store (q36.1,q36.2+0) [(.int .i64 3)]) fun h37=>(uA a1 fun q38=>(uA (h37.store (q38.1,q38.2+11) [(.int .i64 6),(.int .i64 0),(.int .i64 0),(.str []),(.slice none 0 0 0),(.int .i64 0),(.int .i64 0),(.str []),(.slice none 0 0 0),(.int .i64 0),(.str []),(.slice none 0 0 0),(.str x34),(.slice none 0 0 0),(.slice none 0 0 0)]) fun h39=>
 (uA a1 fun q40=>(kA (f223 N a0 (some (q40.1,q40.2+11)) h39) fun (x41:(Unit)) h42=>some ((()),h42))))))))else(kA (f221 N a0 h33) fun (x43:zY) h44=>(uA a1 fun q45=>(uA (h44.store (q45.1,q45.2+0) [(.int .i64 2)]) fun h46=>(uA a1 fun q47=>(uA (h46.store (q47.1,q47.2+9) (yRI x43)) fun h48=>(kA (f149 N a0 [61] h48) fun (x49:(Unit)) h50=>(kA (f219 N a0 h50) fun (x51:zO) h52=>(uA a1 fun q53=>(uA (h52.store (q53.1,q53.2+11) (yRB x51)) fun h54=>some ((()),h54))))))))))))))))))))
def vB8:Ann:=.n
theorem lB1 (N:Nat):cD Tryz.prog 209 [zU2,zU2] (.tup []) (fun x h=>f209 N x.1 x.2.1 h):=pD (dA (tAo N) (dA (bW N) (dA (aAq N) (dA (yAp N) (dA (nAe N) (dA (bAq N) (dA (bJ N) (dA (eA0 N) lA)))))))) N vB8 Tryz.f209
def gN (N:Nat) (rec158:zT2→Int→Heap→Option (SL×Heap)) (rec190:zT2→Int→Heap→Option (zL×Heap)) (go:zT2→Int→SL→SL→Heap→Option (Out×zM1×Heap)) (v0:zT2) (v1:Int) (v4 v5:SL) (h:Heap):Option (Out×zM1×Heap):=(uA v0 fun q8=>(iA (.val zZ2) (h.cell (q8.1,q8.2+3)) fun (x9:AV)=>(iA (.val zX2) (wJ E .eql 29 (.tmp 15) (.const .nilIface) x9 AV.nilIface) fun (x10:Bool)=>(bif x10 then(kA (f93 N v0 [125] h) fun (x11:Bool) h12=>let x13:=!x11;(bif x13 then(kA (α:=zK2) ((uA v0 fun q14=>(iA (.val zY2) (h12.cell (q14.1,q14.2+2)) fun (x15:Int)=>let x16:=pA x15 2000;(bif x16 then(kA (f56 N v0 h12) fun (x17:zQ) h18=>let x19:=!pA x17.1 0;some ((v0,v1,v4,v5,x19,()),h18))else some ((v0,v1,v4,v5,false,()),h12))))) fun (j20:zK2) h21=>(bif j20.2.2.2.2.1 then(kA (f57 N j20.1 5 h21) fun (x22:(Unit)) h23=>some (Out.ret,(⟨none,0,0,0⟩,j20.2.2.2.1,()),h23))else(uA j20.1 fun q24=>(iA (.val zY2) (h21.cell (q24.1,q24.2+2)) fun (x25:Int)=>let x26:=bB .i64 (x25+1);(uA j20.1 fun q27=>(uA (h21.store (q27.1,q27.2+2) [(.int .i64 x26)]) fun h28=>(kA (rec190 j20.1 j20.2.1 h28) fun (x29:zL) h30=>let h31:=h30.push (.row (yRA x29) .own);(fG (.val zV2) (pC E 42 42 (.slice j20.2.2.2.1.a j20.2.2.2.1.len j20.2.2.2.1.cap j20.2.2.2.1.sz) (.slice (some (h30.next,0)) 1 1 32) h31) fun (x32:SL) h33=>go j20.1 j20.2.1 j20.2.2.1 x32 h33))))))))else some ((Out.exit 0),(v4,v5,()),h12)))else some ((Out.exit 0),(v4,v5,()),h)))))
def tA0 (N:Nat) (rec158:zT2→Int→Heap→Option (SL×Heap)) (rec190:zT2→Int→Heap→Option (zL×Heap)) (M:Nat) (v0:zT2) (v1:Int) (v4 v5:SL) (h:Heap):Option (Out×zM1×Heap):=iter (fun go s h=>gN N rec158 rec190 (fun v0 v1 v4 v5 h=>go (v0,v1,v4,v5,()) h) s.1 s.2.1 s.2.2.1 s.2.2.2.1 h) M (v0,v1,v4,v5,()) h
theorem iN (N rec158 rec190 M v0 v1 v4 v5 h):tA0 N rec158 rec190 (M+1) v0 v1 v4 v5 h=gN N rec158 rec190 (tA0 N rec158 rec190 M) v0 v1 v4 v5 h:=rfl
def bAi (N:Nat) (rec158:zT2→Int→Heap→Option (SL×Heap)) (rec190:zT2→Int→Heap→Option (zL×Heap)) (a0:zT2) (a1:Int) (h:Heap):Option (SL×Heap):=(kA (α:=zQ2) ( let x1:=uB 64 a1;(bif x1 then(kA (f57 N a0 6 h) fun (x2:(Unit)) h3=>some ((a0,a1,⟨none,0,0,0⟩,()),h3))else some ((a0,a1,⟨none,0,0,0⟩,()),h))) fun (j4:zQ2) h5=>(kA (f149 N j4.1 [123] h5) fun (x6:(Unit)) h7=>(eE (tA0 N rec158 rec190 N j4.1 j4.2.1 j4.2.2.1 ⟨none,0,0,0⟩ h7) fun o34 (j35:zM1) h36=>(bif mD o34 (.exit 0) then some (j35.2.1,h36)else some (j35.1,h36)))))
def wB8:Ann:=(.two .n (.two (.join [(0,zU2),(1,zY2),(4,zV2)] .n) (.two .n (.two .n (.two (.two (.loop [(0,zU2),(1,zY2),(4,zV2),(5,zV2)] [(.exit 0),.ret] [(4,zV2),(5,zV2)] (.two .n (.two (.two (.two (.join [(0,zU2),(1,zY2),(4,zV2),(5,zV2),(32,zX2)] .n) .n) .n) .n))) .n) .n)))))
def cAi (N:Nat) (rec158:zT2→Int→Heap→Option (SL×Heap)) (rec190:zT2→Int→Heap→Option (zL×Heap)) (a0:zT2) (a1:Int) (h:Heap):Option (zL×Heap):=let h1:=h.push (.row yZA .own);(kA (f56 N a0 h1) fun (x2:zQ) h3=>let h4:=h3.push (.row yZE .own);(uA (h4.store (h3.next,0) (yRF x2)) fun h5=>(iA (.val zY2) (h5.cell ((h3.next,0).1,(h3.next,0).2+2)) fun (x6:Int)=>let h7:=h5.push (.row yZA .own);(uA (h7.store (h5.next,0) [(.int .i64 0),(.int .i64 x6),(.bool false),(.str []),(.int .i64 0),(.str []),(.slice none 0 0 0),(.slice none 0 0 0),(.bool false),(.str []),(.slice none 0 0 0),(.int .i64 0),(.int .i64 0),(.int .i64 0),(.str []),(.slice none 0 0 0),(.int .i64 0),(.int .i64 0),(.str []),(.slice none 0 0 0),(.int .i64 0),(.str []),(.slice none 0 0 0),(.str []),(.slice none 0 0 0),(.slice none 0 0 0),(.int .i64 0),(.int .i64 0),(.str []),(.slice none 0 0 0),(.slice none 0 0 0),(.slice none 0 0 0)]) fun h8=>(kA (α:=zM) ((kA (f92 N a0 [108,101,116] h8) fun (x9:Bool) h10=>(bif x9 then(kA (f207 N a0 (some (h5.next,0)) h10) fun (x11:(Unit)) h12=>some (((some (h.next,0)),(some (h5.next,0)),()),h12))else(kA (f92 N a0 [105,102] h10) fun (x13:Bool) h14=>(bif x13 then(kA (f208 N a0 h14) fun (x15:zT) h16=>(uA (h16.store ((h5.next,0).1,(h5.next,0).2+0) [(.int .i64 4)]) fun h17=>(uA (h17.store ((h5.next,0).1,(h5.next,0).2+26) (yRE x15)) fun h18=>let x19:=bB .i64 (a1+1);(kA (rec158 a0 x19 h18) fun (x20:SL) h21=>(uA (h21.store ((h5.next,0).1,(h5.next,0).2+30) [(.slice x20.a x20.len x20.cap x20.sz)]) fun h22=>
 (kA (f92 N a0 [101,108,115,101] h22) fun (x23:Bool) h24=>(uA (h24.store ((h5.next,0).1,(h5.next,0).2+8) [(.bool x23)]) fun h25=>(iA (.val zX2) (h25.cell ((h5.next,0).1,(h5.next,0).2+8)) fun (x26:Bool)=>(bif x26 then let x27:=bB .i64 (a1+1);(kA (rec158 a0 x27 h25) fun (x28:SL) h29=>(uA (h29.store ((h5.next,0).1,(h5.next,0).2+31) [(.slice x28.a x28.len x28.cap x28.sz)]) fun h30=>some (((some (h.next,0)),(some (h5.next,0)),()),h30)))else some (((some (h.next,0)),(some (h5.next,0)),()),h25))))))))))else(kA (f92 N a0 [119,104,105,108,101] h14) fun (x31:Bool) h32=>(bif x31 then(kA (f208 N a0 h32) fun (x33:zT) h34=>(uA (h34.store ((h5.next,0).1,(h5.next,0).2+0) [(.int .i64 5)]) fun h35=>(uA (h35.store ((h5.next,0).1,(h5.next,0).2+26) (yRE x33)) fun h36=>let x37:=bB .i64 (a1+1);(kA (rec158 a0 x37 h36) fun (x38:SL) h39=>(uA (h39.store ((h5.next,0).1,(h5.next,0).2+30) [(.slice x38.a x38.len x38.cap x38.sz)]) fun h40=>some (((some (h.next,0)),(some (h5.next,0)),()),h40))))))else(kA (f92 N a0 [108,111,111,112] h32) fun (x41:Bool) h42=>(bif x41 then let x43:=bB .i64 (a1+1);(kA (rec158 a0 x43 h42) fun (x44:SL) h45=>(uA (h45.store ((h5.next,0).1,(h5.next,0).2+0) [(.int .i64 6)]) fun h46=>(uA (h46.store ((h5.next,0).1,(h5.next,0).2+30) [(.slice x44.a x44.len x44.cap x44.sz)]) fun h47=>some (((some (h.next,0)),(some (h5.next,0)),()),h47))))else(kA (f146 N a0 5 [123] h42) fun (x48:Bool) h49=>(bif x48 then let x50:=bB .i64 (a1+1);(kA (rec158 a0 x50 h49) fun (x51:SL) h52=>
 (uA (h52.store ((h5.next,0).1,(h5.next,0).2+0) [(.int .i64 7)]) fun h53=>(uA (h53.store ((h5.next,0).1,(h5.next,0).2+30) [(.slice x51.a x51.len x51.cap x51.sz)]) fun h54=>some (((some (h.next,0)),(some (h5.next,0)),()),h54))))else(kA (f209 N a0 (some (h5.next,0)) h49) fun (x55:(Unit)) h56=>(kA (f149 N a0 [59] h56) fun (x57:(Unit)) h58=>some (((some (h.next,0)),(some (h5.next,0)),()),h58)))))))))))))) fun (j59:zM) h60=>(uA j59.2.1 fun q61=>(iA (.val zA) (h60.cells q61 32) fun (x62:zL)=>(uA j59.1 fun q64=>(uA (h60.store q64 (yRA x62)) fun h63=>(uA j59.1 fun q65=>(iA (.val zA) (h63.cells q65 32) fun (x66:zL)=>some ((x66.1,x66.2.1,x66.2.2.1,x66.2.2.2.1,x66.2.2.2.2.1,x66.2.2.2.2.2.1,x66.2.2.2.2.2.2.1,x66.2.2.2.2.2.2.2.1,x66.2.2.2.2.2.2.2.2.1,x66.2.2.2.2.2.2.2.2.2.1,x66.2.2.2.2.2.2.2.2.2.2.1,x66.2.2.2.2.2.2.2.2.2.2.2.1,x66.2.2.2.2.2.2.2.2.2.2.2.2.1,x66.2.2.2.2.2.2.2.2.2.2.2.2.2.1,x66.2.2.2.2.2.2.2.2.2.2.2.2.2.2.1,x66.2.2.2.2.2.2.2.2.2.2.2.2.2.2.2.1,x66.2.2.2.2.2.2.2.2.2.2.2.2.2.2.2.2.1,x66.2.2.2.2.2.2.2.2.2.2.2.2.2.2.2.2.2.1,x66.2.2.2.2.2.2.2.2.2.2.2.2.2.2.2.2.2.2.1,x66.2.2.2.2.2.2.2.2.2.2.2.2.2.2.2.2.2.2.2.1,x66.2.2.2.2.2.2.2.2.2.2.2.2.2.2.2.2.2.2.2.2.1,x66.2.2.2.2.2.2.2.2.2.2.2.2.2.2.2.2.2.2.2.2.2.1,x66.2.2.2.2.2.2.2.2.2.2.2.2.2.2.2.2.2.2.2.2.2.2.1,x66.2.2.2.2.2.2.2.2.2.2.2.2.2.2.2.2.2.2.2.2.2.2.2.1,x66.2.2.2.2.2.2.2.2.2.2.2.2.2.2.2.2.2.2.2.2.2.2.2.2.1,x66.2.2.2.2.2.2.2.2.2.2.2.2.2.2.2.2.2.2.2.2.2.2.2.2.2.1,x66.2.2.2.2.2.2.2.2.2.2.2.2.2.2.2.2.2.2.2.2.2.2.2.2.2.2.1,x66.2.2.2.2.2.2.2.2.2.2.2.2.2.2.2.2.2.2.2.2.2.2.2.2.2.2.2.1,x66.2.2.2.2.2.2.2.2.2.2.2.2.2.2.2.2.2.2.2.2.2.2.2.2.2.2.2.2.1,x66.2.2.2.2.2.2.2.2.2.2.2.2.2.2.2.2.2.2.2.2.2.2.2.2.2.2.2.2.2.1,x66.2.2.2.2.2.2.2.2.2.2.2.2.2.2.2.2.2.2.2.2.2.2.2.2.2.2.2.2.2.2.1,x66.2.2.2.2.2.2.2.2.2.2.2.2.2.2.2.2.2.2.2.2.2.2.2.2.2.2.2.2.2.2.2.1,()),h63))))))))))))
def yB8:Ann:=(.two .n (.two .n (.two .n (.two (.join [(4,zU2),(6,zU2)] .n) .n))))
def cAq (N M:Nat):((zT2→Int→Heap→Option (SL×Heap))×(zT2→Int→Heap→Option (zL×Heap))×Unit):=Nat.rec (fun _ _ _=>none,fun _ _ _=>none,()) (fun _ r=>(bAi N r.1 r.2.1,cAi N r.1 r.2.1,())) M
def f158 (N M:Nat):zT2→Int→Heap→Option (SL×Heap):=(cAq N M).1
def f190 (N M:Nat):zT2→Int→Heap→Option (zL×Heap):=(cAq N M).2.1
theorem fAb (N M a0 a1 h):f158 N (M+1) a0 a1 h=bAi N (f158 N M) (f190 N M) a0 a1 h:=rfl
theorem dAq (N M a0 a1 h):f190 N (M+1) a0 a1 h=cAi N (f158 N M) (f190 N M) a0 a1 h:=rfl
theorem aR (N:Nat):∀ M:Nat,(cD Tryz.prog 158 [zU2,zY2] (.val zV2) (fun x h=>f158 N M x.1 x.2.1 h))∧(cD Tryz.prog 190 [zU2,zY2] (.val zA) (fun x h=>f190 N M x.1 x.2.1 h))∧True
 | 0=>⟨(fun xs h r h' hx=>by cases hx),(fun xs h r h' hx=>by cases hx),trivial⟩
 | M+1=>⟨pD (dA (qG N) (dA (aW N) (dA (yM N) (dA (aR N M).2.1 (dA (bJ N) lA))))) N wB8 Tryz.f158,pD (dA (bW N) (dA (yM N) (dA (lB1 N) (dA (kA6 N) (dA (kB1 N) (dA (aR N M).1 (dA (bJ N) (dA (eA0 N) lA)))))))) N yB8 Tryz.f190,trivial⟩
theorem mB1 (N:Nat):cD Tryz.prog 158 [zU2,zY2] (.val zV2) (fun x h=>f158 N N x.1 x.2.1 h):=(aR N N).1
def f103 (N:Nat) (a0:zT2) (a1:Bool) (a2:Int) (h:Heap):Option (zU×Heap):=let h1:=h.push (.row [(.ptr a0)] .own);let h2:=h1.push (.row yZD .own);(iA (.val zU2) (h2.cell (h.next,0)) fun (x3:zT2)=>(uA x3 fun q4=>(uA (h2.store (q4.1,q4.2+2) yZL) fun h5=>(iA (.val zU2) (h5.cell (h.next,0)) fun (x6:zT2)=>(kA (f94 N x6 1 h5) fun (x7:zA3) h8=>let h9:=h8.push (.row yZD .own);(uA (h9.store (h8.next,0) [(.bool a1),(.str x7),(.slice none 0 0 0),(.slice none 0 0 0),(.int .i64 0),(.str []),(.slice none 0 0 0),(.slice none 0 0 0),(.slice none 0 0 0),(.int .i64 a2)]) fun h10=>(kA (α:=zX) ((iA (.val zU2) (h10.cell (h.next,0)) fun (x11:zT2)=>(kA (f93 N x11 [60] h10) fun (x12:Bool) h13=>(bif x12 then(iA (.val zU2) (h13.cell (h.next,0)) fun (x14:zT2)=>(kA (bT N x14 [44] ((some (h8.next,0)),(some (h.next,0)),()) h13) fun (x15:(Unit)) h16=>(iA (.val zU2) (h16.cell (h.next,0)) fun (x17:zT2)=>(kA (f149 N x17 [62] h16) fun (x18:(Unit)) h19=>some (((some (h.next,0)),(some (h1.next,0)),(some (h8.next,0)),()),h19)))))else some (((some (h.next,0)),(some (h1.next,0)),(some (h8.next,0)),()),h13))))) fun (j20:zX) h21=>(uA j20.1 fun q22=>(iA (.val zU2) (h21.cell q22) fun (x23:zT2)=>(kA (f149 N x23 [40] h21) fun (x24:(Unit)) h25=>(kA (α:=zX) ((uA j20.1 fun q26=>(iA (.val zU2) (h25.cell q26) fun (x27:zT2)=>(kA (f93 N x27 [41] h25) fun (x28:Bool) h29=>let x30:=!x28;(bif x30 then(uA j20.1 fun q31=>(iA (.val zU2) (h29.cell q31) fun (x32:zT2)=>(kA (cT N x32 [44] (j20.1,j20.2.2.1,()) h29) fun (x33:(Unit)) h34=>
 (uA j20.1 fun q35=>(iA (.val zU2) (h34.cell q35) fun (x36:zT2)=>(kA (f149 N x36 [41] h34) fun (x37:(Unit)) h38=>some ((j20.1,j20.2.1,j20.2.2.1,()),h38)))))))else some ((j20.1,j20.2.1,j20.2.2.1,()),h29)))))) fun (j39:zX) h40=>(kA (α:=zX) ((uA j39.1 fun q41=>(iA (.val zU2) (h40.cell q41) fun (x42:zT2)=>(kA (f93 N x42 [45,62] h40) fun (x43:Bool) h44=>(bif x43 then(uA j39.1 fun q45=>(iA (.val zU2) (h44.cell q45) fun (x46:zT2)=>(kA (f55 N N x46 1 h44) fun (x47:zP) h48=>(uA j39.2.2.1 fun q49=>(uA (h48.store (q49.1,q49.2+4) (yRC x47)) fun h50=>some ((j39.1,j39.2.1,j39.2.2.1,()),h50))))))else some ((j39.1,j39.2.1,j39.2.2.1,()),h44)))))) fun (j51:zX) h52=>(uA j51.1 fun q53=>(iA (.val zU2) (h52.cell q53) fun (x54:zT2)=>(kA (f158 N N x54 1 h52) fun (x55:SL) h56=>(uA j51.2.2.1 fun q57=>(uA (h56.store (q57.1,q57.2+8) [(.slice x55.a x55.len x55.cap x55.sz)]) fun h58=>(uA j51.2.2.1 fun q59=>(iA (.val zD) (h58.cells q59 10) fun (x60:zU)=>(uA j51.2.1 fun q62=>(uA (h58.store q62 (yRD x60)) fun h61=>(uA j51.2.1 fun q63=>(iA (.val zD) (h61.cells q63 10) fun (x64:zU)=>some ((x64.1,x64.2.1,x64.2.2.1,x64.2.2.2.1,x64.2.2.2.2.1,x64.2.2.2.2.2.1,x64.2.2.2.2.2.2.1,x64.2.2.2.2.2.2.2.1,x64.2.2.2.2.2.2.2.2.1,x64.2.2.2.2.2.2.2.2.2.1,()),h61))))))))))))))))))))))))
def aB9:Ann:=(.two .n (.two .n (.two .n (.two (.join [(3,zU2),(6,zU2),(7,zU2)] .n) (.two .n (.two (.join [(3,zU2),(6,zU2),(7,zU2)] .n) (.two (.join [(3,zU2),(6,zU2),(7,zU2)] .n) .n)))))))
theorem nB1 (N:Nat):cD Tryz.prog 103 [zU2,zX2,zY2] (.val zD) (fun x h=>f103 N x.1 x.2.1 x.2.2.1 h):=pD (dA (aN N) (dA (qG N) (dA (uAo N) (dA (mB1 N) (dA (bJ N) (qC (sel:=fun a=>bL 2 157 a) (mAe N) (qC (sel:=fun a=>bL 2 155 a) (lAe N) lA))))))) N aB9 Tryz.f103
def f63 (N:Nat) (a0 a1:zT2) (h:Heap):Option ((Unit)×Heap):=(kA (f92 N a0 [112,117,98] h) fun (x1:Bool) h2=>(kA (f56 N a0 h2) fun (x3:zQ) h4=>(kA (f92 N a0 [115,116,114,117,99,116] h4) fun (x5:Bool) h6=>(bif x5 then(uA a1 fun q7=>(iA (.val zV2) (h6.cell (q7.1,q7.2+0)) fun (x8:SL)=>(kA (f102 N a0 x1 x3.2.2.1 h6) fun (x9:zD1) h10=>let h11:=h10.push (.row (yRH x9) .own);(fG (.val zV2) (pC E 22 22 (.slice x8.a x8.len x8.cap x8.sz) (.slice (some (h10.next,0)) 1 1 5) h11) fun (x12:SL) h13=>(uA a1 fun q14=>(uA (h13.store (q14.1,q14.2+0) [(.slice x12.a x12.len x12.cap x12.sz)]) fun h15=>(uE (bif (mC (h11.cell (q7.1,q7.2+0)) (.slice x8.a x8.len x8.cap x8.sz)) then (bif (mC (h10.cell (q7.1,q7.2+0)) (.slice x8.a x8.len x8.cap x8.sz)) then (bif (mC (h6.cell (q7.1,q7.2+0)) (.slice x8.a x8.len x8.cap x8.sz)) then true else false) else false) else false) ((uA a0 fun q16=>(iA (.val zZ2) (h15.cell (q16.1,q16.2+3)) fun (x17:AV)=>(kA (f104 N x17 x3.2.2.1 h15) fun (x18:AV) h19=>(uA a0 fun q20=>(uE (AV.single x18) (uA (h19.store (q20.1,q20.2+3) [x18]) fun h21=>some ((()),h21)))))))))))))))else(kA (f92 N a0 [102,110] h6) fun (x22:Bool) h23=>(bif x22 then(uA a1 fun q24=>(iA (.val zV2) (h23.cell (q24.1,q24.2+1)) fun (x25:SL)=>(kA (f103 N a0 x1 x3.2.2.1 h23) fun (x26:zU) h27=>let h28:=h27.push (.row (yRD x26) .own);(fG (.val zV2) (pC E 23 23 (.slice x25.a x25.len x25.cap x25.sz) (.slice (some (h27.next,0)) 1 1 10) h28) fun (x29:SL) h30=>
 (uA a1 fun q31=>(uA (h30.store (q31.1,q31.2+1) [(.slice x29.a x29.len x29.cap x29.sz)]) fun h32=>(uE (bif (mC (h28.cell (q24.1,q24.2+1)) (.slice x25.a x25.len x25.cap x25.sz)) then (bif (mC (h27.cell (q24.1,q24.2+1)) (.slice x25.a x25.len x25.cap x25.sz)) then (bif (mC (h23.cell (q24.1,q24.2+1)) (.slice x25.a x25.len x25.cap x25.sz)) then true else false) else false) else false) ((uA a0 fun q33=>(iA (.val zZ2) (h32.cell (q33.1,q33.2+3)) fun (x34:AV)=>(kA (f104 N x34 x3.2.2.1 h32) fun (x35:AV) h36=>(uA a0 fun q37=>(uE (AV.single x35) (uA (h36.store (q37.1,q37.2+3) [x35]) fun h38=>some ((()),h38)))))))))))))))else(kA (f57 N a0 21 h23) fun (x39:(Unit)) h40=>some ((()),h40))))))))
def lBe:Ann:=.n
theorem bB9 (N:Nat):cD Tryz.prog 63 [zU2,zU2] (.tup []) (fun x h=>f63 N x.1 x.2.1 h):=pD (dA (bW N) (dA (aW N) (dA (yM N) (dA (qB0 N) (dA (nB1 N) (dA (mB0 N) lA)))))) N lBe Tryz.f63
def fT (N:Nat) (go:zT2→zT2→zT2→Int→Heap→Option (Out×zX×Heap)) (v2 v6 v7:zT2) (v8:Int) (h:Heap):Option (Out×zX×Heap):=(uA v7 fun q9=>(iA (.val zZ2) (h.cell (q9.1,q9.2+3)) fun (x10:AV)=>(iA (.val zX2) (wJ E .eql 29 (.tmp 24) (.const .nilIface) x10 AV.nilIface) fun (x11:Bool)=>(bif x11 then(kA (f56 N v7 h) fun (x12:zQ) h13=>let x14:=!pA x12.1 0;(bif x14 then let x15:=pA v8 256;(bif x15 then(kA (f57 N v7 5 h13) fun (x16:(Unit)) h17=>some ((Out.exit 0),(v2,v6,v7,()),h17))else(kA (f63 N v7 v6 h13) fun (x18:(Unit)) h19=>let x20:=bB .i64 (v8+1);go v2 v6 v7 x20 h19))else some ((Out.exit 0),(v2,v6,v7,()),h13)))else some ((Out.exit 0),(v2,v6,v7,()),h)))))
def dAi (N M:Nat) (v2 v6 v7:zT2) (v8:Int) (h:Heap):Option (Out×zX×Heap):=iter (fun go s h=>fT N (fun v2 v6 v7 v8 h=>go (v2,v6,v7,v8,()) h) s.1 s.2.1 s.2.2.1 s.2.2.2.1 h) M (v2,v6,v7,v8,()) h
theorem bR (N M v2 v6 v7 v8 h):dAi N (M+1) v2 v6 v7 v8 h=fT N (dAi N M) v2 v6 v7 v8 h:=rfl
def f27 (N:Nat) (a0:zA3) (h:Heap):Option ((zM1×AV×Unit)×Heap):=let h1:=h.push (.row yZI .own);(kA (f54 N a0 h1) fun (x2:(SL×AV×Unit)) h3=>(iA (.val zX2) (wJ E .neq 29 (.tmp 14) (.const .nilIface) x2.2.1 AV.nilIface) fun (x4:Bool)=>(bif x4 then(uA (h3.store (h.next,0) yZI) fun h5=>(iA (.val zK) (h5.cells (h.next,0) 2) fun (x6:zM1)=>some (((x6.1,x6.2.1,()),x2.2.1,()),h5)))else let h7:=h3.push (.row yZI .own);let h8:=h7.push (.row [(.slice x2.1.a x2.1.len x2.1.cap x2.1.sz),(.int .i64 0),(.int .i64 0),AV.nilIface] .own);(eE (dAi N N (some (h.next,0)) (some (h3.next,0)) (some (h7.next,0)) 0 h8) fun _ (j22:zX) h23=>(uA j22.2.2.1 fun q24=>(iA (.val zZ2) (h23.cell (q24.1,q24.2+3)) fun (x25:AV)=>(iA (.val zX2) (wJ E .neq 29 (.tmp 43) (.const .nilIface) x25 AV.nilIface) fun (x26:Bool)=>(bif x26 then(uA j22.2.2.1 fun q27=>(iA (.val zZ2) (h23.cell (q27.1,q27.2+3)) fun (x28:AV)=>(uA j22.1 fun q30=>(uA (h23.store q30 yZI) fun h29=>(uE (bif (mC (h29.cell (q27.1,q27.2+3)) x28) then (bif (mC (h23.cell (q27.1,q27.2+3)) x28) then true else false) else false) ((uA j22.1 fun q31=>(iA (.val zK) (h29.cells q31 2) fun (x32:zM1)=>some (((x32.1,x32.2.1,()),x28,()),h29)))))))))else(uA j22.2.1 fun q33=>(iA (.val zK) (h23.cells q33 2) fun (x34:zM1)=>(uA j22.1 fun q36=>(uA (h23.store q36 (yRJ x34)) fun h35=>(uA j22.1 fun q37=>(iA (.val zK) (h35.cells q37 2) fun (x38:zM1)=>some (((x38.1,x38.2.1,()),AV.nilIface,()),h35)))))))))))))))
def mBe:Ann:=(.two .n (.two .n (.two .n (.two .n (.two .n (.two (.two .n (.two (.loop [(2,zU2),(6,zU2),(7,zU2),(8,zY2)] [(.exit 0)] [(2,zU2),(6,zU2),(7,zU2)] .n) .n)) .n))))))
theorem yAx (N:Nat):cD Tryz.prog 27 [zW2] (.tup [zK,zZ2]) (fun x h=>f27 N x.1 h):=pD (dA (bB9 N) (dA (aW N) (dA (yM N) (dA (lAx N) lA)))) N mBe Tryz.f27
end
end Qp
end Go.Proofs.YtkcjphhjmlienaaGreatDoor
