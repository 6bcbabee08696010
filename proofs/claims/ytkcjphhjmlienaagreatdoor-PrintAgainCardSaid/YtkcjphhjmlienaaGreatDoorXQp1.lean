import Derived.Test.YtkcjphhjmlienaaGreatDoorProg
import Derived.WalkKit
import Derived.LaidEql
import Derived.Stop.Asserts
import Derived.RowKitTokens
import Derived.Test.YtkcjphhjmlienaaGreatDoorAi2
import Derived.Laws.Externs
import Derived.Deep.RegionWith
/- Functions of the program as plain functions, and what they come to; part 1. -/
namespace Go.Proofs.YtkcjphhjmlienaaGreatDoor
set_option linter.unusedVariables false
set_option linter.unusedSimpArgs false
set_option linter.defProp false
open Go Go.Proofs
abbrev yS0:Ai.AV:=.slice none 0 0 0
abbrev yI0 (n:Int):Ai.AV:=.int .i64 n
abbrev yO0 (α:Type):=Option (α×Ai.Heap)
namespace Qa
open Go.RowKit Go.Extern.Stop Go.Stop Go.Extern
def rAg (t:Addr) (w:World):(ReflectliteValue.unpack (.iface 214 (.pointer (some t)))).run Tryz.prog w
  = .ok (.agg #[.pointer (some ⟨7,214,none⟩),.pointer (some ⟨w.heap.size,0,none⟩),.int .u64 150]) (w.alloc (.cells #[.pointer (some t)] 214)):=by kernel_rfl
def gAx (a:Addr) (w:World):(ReflectliteValue.methodAny (ReflectliteValue.valueError "reflectlite.Value.Type" 0) (fun t _ _ _=>ReflectliteType.toType t) #[.agg #[.pointer (some ⟨7,214,none⟩),.pointer (some a),.int .u64 150]]).run Tryz.prog w
  = .ok (.iface 232 (.agg #[.pointer (some ⟨7,214,none⟩)])) w:=by kernel_rfl
def nAb (h:Value) (w:World):(Go.method 406 232 (.agg #[h]) "Kind").run Tryz.prog w=.ok (278,h) w:=by kernel_rfl
def iAx (w:World):((ReflectliteType.abiMethod fun t=>Functor.map (fun a:Nat=>Value.int IntKind.u8 (a:Int)) (Rtype.kind t)) #[.pointer (some ⟨7,214,none⟩)]).run Tryz.prog w=.ok (.int .u8 22) w:=by kernel_rfl
def jAx (w:World):((ReflectliteType.abiMethod fun t=>Functor.map (fun a:Nat=>Value.int IntKind.u8 (a:Int)) (Rtype.kind t)) #[.pointer (some ⟨7,127,none⟩)]).run Tryz.prog w=.ok (.int .u8 22) w:=by kernel_rfl
def rlm (z:Sem Value) (f:TypeId->Addr->Nat->Nat->Sem Value) (v:Value) :
  ReflectliteValue.method z f #[v]=(do match <- ReflectliteValue.parts v with | none=>z | some (t,a,h)=>f t a h (h % 32)):=rfl
def bA9 (a:Addr) (w:World):(ReflectliteValue.parts (.agg #[.pointer (some ⟨7,214,none⟩),.pointer (some a),.int .u64 150])).run Tryz.prog w=.ok (some (214,a,150)) w:=by kernel_rfl
def vAs (a p:Addr) (W:World) (ha:W.cell? a=some (.pointer (some p))) :
  (ReflectliteValue.method (ReflectliteValue.valueError "reflectlite.Value.IsNil" 0) ReflectliteValue.isNil #[.agg #[.pointer (some ⟨7,214,none⟩),.pointer (some a),.int .u64 150]]).run Tryz.prog W=.ok (.bool false) W:=by
 rw [rlm];simp only [Sem.run_bind,bA9,Result.andThen];simp [ReflectliteValue.isNil,loadVar,isAgg,underlying,Tryz.underlying214,ha,Result.andThen]
def oAb (h:Value) (w:World):(Go.method 406 232 (.agg #[h]) "Elem").run Tryz.prog w=.ok (291,.agg #[h]) w:=by kernel_rfl
def bU (h:Value) (w:World):(Go.method 406 232 (.agg #[h]) "Implements").run Tryz.prog w=.ok (292,.agg #[h]) w:=by kernel_rfl
def bQ (h:Value) (w:World):(Go.method 406 232 (.agg #[h]) "AssignableTo").run Tryz.prog w=.ok (289,.agg #[h]) w:=by kernel_rfl
def kAx (w:World):(ReflectliteType.method ReflectliteType.elem #[.agg #[.pointer (some ⟨7,214,none⟩)]]).run Tryz.prog w=.ok (.iface 232 (.agg #[.pointer (some ⟨7,127,none⟩)])) w:=by kernel_rfl
def nA4 (w:World):(ReflectliteType.relation "Implements" ReflectliteType.implements_ #[.agg #[.pointer (some ⟨7,127,none⟩)],.iface 232 (.agg #[.pointer (some ⟨7,29,none⟩)])]).run Tryz.prog w=.ok (.bool true) w:=by kernel_rfl
def qAk (v:Value) (w:World):(ReflectliteType.typeOf #[.iface 127 v]).run Tryz.prog w=.ok (.iface 232 (.agg #[.pointer (some ⟨7,127,none⟩)])) w:=by kernel_rfl
def oA4 (w:World):(ReflectliteType.relation "AssignableTo" ReflectliteType.assignableTo #[.agg #[.pointer (some ⟨7,127,none⟩)],.iface 232 (.agg #[.pointer (some ⟨7,127,none⟩)])]).run Tryz.prog w=.ok (.bool true) w:=by kernel_rfl
def tAg (e:Addr) (w:World):(ReflectliteValue.unpack (.iface 127 (.pointer (some e)))).run Tryz.prog w
  = .ok (.agg #[.pointer (some ⟨7,127,none⟩),.pointer (some ⟨w.heap.size,0,none⟩),.int .u64 150]) (w.alloc (.cells #[.pointer (some e)] 127)):=by kernel_rfl
def rAk (w:World):(Rtype.elem? 214).run Tryz.prog w=.ok (some 127) w:=by kernel_rfl
def dBb (p:Addr) (w:World):(ReflectliteValue.mk 127 p ReflectliteValue.flagAddr).run Tryz.prog w=.ok (.agg #[.pointer (some ⟨7,127,none⟩),.pointer (some p),.int .u64 406]) w:=by kernel_rfl
def wAs (a p:Addr) (W:World) (ha:W.cell? a=some (.pointer (some p))) :
  (ReflectliteValue.method (ReflectliteValue.valueError "reflectlite.Value.Elem" 0) ReflectliteValue.elem #[.agg #[.pointer (some ⟨7,214,none⟩),.pointer (some a),.int .u64 150]]).run Tryz.prog W
   = .ok (.agg #[.pointer (some ⟨7,127,none⟩),.pointer (some p),.int .u64 406]) W:=by
 rw [rlm];simp only [Sem.run_bind,bA9,Result.andThen];simp [ReflectliteValue.elem,loadVar,isAgg,underlying,Tryz.underlying214,ha,Result.andThen,rAk,dBb]
def rls (v x:Value):ReflectliteValue.set #[v,x]=(do
  let (some (dst,a,fl),some (src,b,_)):=(<- ReflectliteValue.parts v,<- ReflectliteValue.parts x)
   | unsupported (.noEntry "extern/(internal/reflectlite.Value).Set.zeroValue")
  if fl / ReflectliteValue.flagAddr % 2 == 0 then unsupported (.noEntry "extern/(internal/reflectlite.Value).Set.unaddressable")
  let val <- loadVar src b
  if <- Rtype.directlyAssignable dst src then storeVar dst a val
  else if <- Rtype.implements dst src then
   if (<- Rtype.kind src) == 20 then
    match val with
    | .nilIface=>unsupported (.noEntry "extern/reflectlite: a nil value of one interface type handed on as a value of another")
    | _=>storeVar dst a val
   else storeVar dst a (.iface src val)
  else panicString ("reflectlite.Set: value of type "++(<- Rtype.spelt src) ++ " is not assignable to type "++(<- Rtype.spelt dst))
  pure (.tuple #[])):=rfl
def tAk (a:Addr) (w:World):(ReflectliteValue.parts (.agg #[.pointer (some ⟨7,127,none⟩),.pointer (some a),.int .u64 406])).run Tryz.prog w=.ok (some (127,a,406)) w:=by kernel_rfl
def yAs (a:Addr) (w:World):(ReflectliteValue.parts (.agg #[.pointer (some ⟨7,127,none⟩),.pointer (some a),.int .u64 150])).run Tryz.prog w=.ok (some (127,a,150)) w:=by kernel_rfl
def uAk (w:World):(Rtype.directlyAssignable 127 127).run Tryz.prog w=.ok true w:=by kernel_rfl
def aB5 (f b e:Addr) (old:Value) (W:World) (p:W.cell? b=some (.pointer (some e))) (h:W.cell? f=some old) (j:W.frozen? f=false) :
  (ReflectliteValue.set #[.agg #[.pointer (some ⟨7,127,none⟩),.pointer (some f),.int .u64 406],.agg #[.pointer (some ⟨7,127,none⟩),.pointer (some b),.int .u64 150]]).run Tryz.prog W
   = .ok (.tuple #[]) (W.setCell f (.pointer (some e))):=by
 rw [rls];simp only [Sem.run_bind,tAk,yAs,Result.andThen];simp [ReflectliteValue.flagAddr,loadVar,isAgg,underlying,Tryz.underlying127,p,Result.andThen,uAk,storeVar,Value.cells,storeCells,Addr.add];rw [run_store Tryz.prog W f _ _ (by rfl)];simp [h,j]
set_option maxRecDepth 100000 in
set_option maxHeartbeats 4000000 in
def dBj (e t:Addr) (old:Value) (w:World) (hg:w.cell? ⟨1,0,none⟩=some (.iface 232 (.agg #[.pointer (some ⟨7,29,none⟩)]))) (ht0:w.cell? t=some old) (hf0:w.frozen? t=false) :
  Calls Tryz.prog 192 #[.iface 127 (.pointer (some e)),.iface 214 (.pointer (some t))] w fun ev w'=>ev=.returned (.bool true)/\w'=((((w.alloc (.cells #[.pointer (some t)] 214)).alloc (.cells #[.pointer (some ⟨7,214,none⟩),.pointer (some ⟨w.heap.size,0,none⟩),.int .u64 150] 217)).alloc (.cells #[.pointer (some ⟨7,214,none⟩),.pointer (some ⟨w.heap.size,0,none⟩),.int .u64 150] 217)).alloc (.cells #[.pointer (some e)] 127)).setCell t (.pointer (some e)):=by
 have h6:=@run_callFunc_extern Tryz.prog 210 _ (fun args=>ReflectliteValue.unpack (args.getD 0 (.tuple #[]))) Tryz.func210 (by kernel_rfl) (by kernel_rfl) (by kernel_rfl) (by kernel_rfl);have h7:=@run_callFunc_extern Tryz.prog 211 _ (ReflectliteValue.methodAny (ReflectliteValue.valueError "reflectlite.Value.Type" 0) (fun t _ _ _=>ReflectliteType.toType t)) Tryz.func211 (by kernel_rfl) (by kernel_rfl) (by kernel_rfl) (by kernel_rfl);have h8:=@run_callFunc_extern Tryz.prog 212 _ (ReflectliteValue.method (ReflectliteValue.valueError "reflectlite.Value.IsNil" 0) ReflectliteValue.isNil) Tryz.func212 (by kernel_rfl) (by kernel_rfl) (by kernel_rfl) (by kernel_rfl);have h27:=@run_callFunc_extern Tryz.prog 278 _ (ReflectliteType.abiMethod fun t=>do pure (.int .u8 (<- Rtype.kind t))) Tryz.func278 (by kernel_rfl) (by kernel_rfl) (by kernel_rfl) (by kernel_rfl);have h37:=@run_callFunc_extern Tryz.prog 291 _ (ReflectliteType.method ReflectliteType.elem) Tryz.func291 (by kernel_rfl) (by kernel_rfl) (by kernel_rfl) (by kernel_rfl);have h38:=@run_callFunc_extern Tryz.prog 292 _ (ReflectliteType.relation "Implements" ReflectliteType.implements_) Tryz.func292 (by kernel_rfl) (by kernel_rfl) (by kernel_rfl) (by kernel_rfl);have h10:=@run_callFunc_extern Tryz.prog 224 _ ReflectliteType.typeOf Tryz.func224 (by kernel_rfl) (by kernel_rfl) (by kernel_rfl) (by kernel_rfl);have h35:=@run_callFunc_extern Tryz.prog 289 _ (ReflectliteType.relation "AssignableTo" ReflectliteType.assignableTo) Tryz.func289 (by kernel_rfl) (by kernel_rfl) (by kernel_rfl) (by kernel_rfl);have h11:=@run_callFunc_extern Tryz.prog 225 _ (ReflectliteValue.method (ReflectliteValue.valueError "reflectlite.Value.Elem" 0) ReflectliteValue.elem) Tryz.func225 (by kernel_rfl) (by kernel_rfl) (by kernel_rfl) (by kernel_rfl);have h12:=@run_callFunc_extern Tryz.prog 226 _ ReflectliteValue.set Tryz.func226 (by kernel_rfl) (by kernel_rfl) (by kernel_rfl) (by kernel_rfl);have tO:=qAk;have mA:=bQ;have a25:=oA4;have v25:=tAg;have f6:=rAg;have f7:=gAx;have mK:=nAb;have mE:=oAb;have mI:=bU;have k27:=iAx;have k25:=jAx;have e27:=kAx;have i25:=nA4;have n8:=vAs ⟨w.heap.size,0,none⟩ t ((w.alloc (.cells #[.pointer (some t)] 214)).alloc (.cells #[.pointer (some ⟨7,214,none⟩),.pointer (some ⟨w.heap.size,0,none⟩),.int .u64 150] 217)) (by simp);have hlt:1<w.heap.size:=by
  rcases Nat.lt_or_ge 1 w.heap.size with h | h
  ·exact h
  ·simp [World.cell?,Array.getElem?_eq_none h] at hg
 have hg2:((w.alloc (.cells #[.pointer (some t)] 214)).alloc (.cells #[.pointer (some ⟨7,214,none⟩),.pointer (some ⟨w.heap.size,0,none⟩),.int .u64 150] 217)).cell? ⟨1,0,none⟩=some (.iface 232 (.agg #[.pointer (some ⟨7,29,none⟩)])):=by
  rw [World.cell?_alloc_lt _ _ ⟨1,0,none⟩ (by simp;omega),World.cell?_alloc_lt _ _ ⟨1,0,none⟩ hlt];exact hg
 have htl:t.block<w.heap.size:=by
  rcases Nat.lt_or_ge t.block w.heap.size with h | h
  ·exact h
  ·simp [World.cell?,Array.getElem?_eq_none h] at ht0
 have el:=wAs ⟨w.heap.size,0,none⟩ t (((w.alloc (.cells #[.pointer (some t)] 214)).alloc (.cells #[.pointer (some ⟨7,214,none⟩),.pointer (some ⟨w.heap.size,0,none⟩),.int .u64 150] 217)).alloc (.cells #[.pointer (some ⟨7,214,none⟩),.pointer (some ⟨w.heap.size,0,none⟩),.int .u64 150] 217)) (by rw [World.cell?_alloc_lt _ _ ⟨w.heap.size,0,none⟩ (by simp;omega)];simp);have st:=aB5 t ⟨w.heap.size+1+1+1,0,none⟩ e old ((((w.alloc (.cells #[.pointer (some t)] 214)).alloc (.cells #[.pointer (some ⟨7,214,none⟩),.pointer (some ⟨w.heap.size,0,none⟩),.int .u64 150] 217)).alloc (.cells #[.pointer (some ⟨7,214,none⟩),.pointer (some ⟨w.heap.size,0,none⟩),.int .u64 150] 217)).alloc (.cells #[.pointer (some e)] 127))
  (by rw [World.cell?_alloc_at _ _ _ _ (by simp)];rfl)
  (by rw [World.cell?_alloc_lt _ _ t (by simp;omega),World.cell?_alloc_lt _ _ t (by simp;omega),World.cell?_alloc_lt _ _ t (by simp;omega),World.cell?_alloc_lt _ _ t htl];exact ht0)
  (by rw [World.frozen?_alloc_old _ _ t (by simp;omega),World.frozen?_alloc_old _ _ t (by simp;omega),World.frozen?_alloc_old _ _ t (by simp;omega),World.frozen?_alloc_old _ _ t (Nat.ne_of_lt htl)];exact hf0)
 go_enter Tryz.func192,Tryz.ntmps192
 go_wp2
 refine wp_loop_rounds 1 ?_;rw [rounds_succ]
 go_wp2
 go_ret
 exact ⟨rfl,rfl⟩
end Qa
open Go Ai Go.Proofs
open Go.RowKit (Below)
namespace Qa
def hdl:AV:=.iface 232 (.agg [.ptr (some (1,0))])
def lAx:Ai.Loc:=⟨1,0,1,false⟩
def loc1:Ai.Loc:=⟨7,29,30,false⟩
def eBb (a b:Ai.Loc):Bool:=Nat.beq a.b b.b&&Nat.beq a.sh b.sh&&Nat.beq a.tot b.tot&&(bif a.ex then b.ex else !b.ex)
def pA4 (A:Nat) (l:Ai.Loc):List (Nat×Ai.Loc)->Bool
 | []=>false
 | x::r=>(Nat.beq x.1 A&&eBb x.2 l)||pA4 A l r
def vAk (b:Option Blk) (cs:List AV):Bool:=match b with
 | some (.row f .ro)=>eqV (.agg f) (.agg cs)
 | _=>false
def bB5 {a b:Ai.Loc} (h:eBb a b=true):a=b:=by
 have ⟨H,y,w,f⟩:=a;have ⟨C,A,F,j⟩:=b;simp only [eBb,xG] at h;have ⟨⟨⟨r,u⟩,p⟩,B⟩:=h;obtain rfl:=xK r;obtain rfl:=xK u;obtain rfl:=xK p
 have:f=j:=by cases f <;> cases j <;> simp_all
 rw [this]
def dQ {A:Nat} {l:Ai.Loc}:∀ {p:List (Nat×Ai.Loc)},pA4 A l p=true->(A,l)∈p
 | [],h=>by cases h
 | x::r,h=>by
  simp only [pA4,Bool.or_eq_true,xG] at h;rcases h with ⟨u,w⟩ | h
  ·have f:=xK u
   have j:=bB5 w;have ⟨B,y⟩:=x;simp only at f j;rw [f,j];exact List.mem_cons_self
  ·exact xe _ (dQ h)
def kAp {b:Option Blk} {cs:List AV} (h:vAk b cs=true):b=some (.row cs .ro):=by
 unfold vAk at h
 split at h
 ·have:=jA8 _ _ h
  simp only [AV.agg.injEq] at this;rw [this]
 ·cases h
def mAx (h:Heap) (A:Nat):Option (List AV×BState):=match h.t.get A with
 | some (.row cs st)=>match st with
  | .own=>some (cs,st)
  | .grown=>some (cs,st)
  | _=>none
 | _=>none
def asN:List AV->Heap->yO0 AV
 | [.iface t (.ptr (some p)),.iface j (.ptr (some (A,off)))],h=>
  bif Nat.beq t 127&&Nat.beq j 214&&pA4 0 lAx h.pins&&pA4 1 loc1 h.pins&&vAk (h.t.get 0) [hdl] then
   match mAx h A with
   | some (cs,st)=>match over off cs [.ptr (some p)] with
    | some f=>some (.bool true,h.put A (.row f st))
    | none=>none
   | none=>none
  else none
 | _,_=>none
def uBh:EnvOK (rBa Tryz.prog [] bAp) Tryz.prog:=aAp (by kernel_rfl) (by kernel_rfl)
def iBs {args:List AV} {v:AV} {h h':Heap} (r:asN args h=some (v,h')) {μ:Mu} {w:World} {args':Array Value} (F:HR μ h w) (hv:VRs μ args args'.toList) :
  (callFunc 192 args').run Tryz.prog w=.ok (.enter 192 args') w/\Calls Tryz.prog 192 args' w fun e w'=>∃ u,e=.returned u/\iB8 μ h w v h' u w':=by
 refine ⟨uR uBh (fn:=Tryz.f192) (by kernel_rfl) (by kernel_rfl) _ _,?_⟩;unfold asN at r
 split at r
 ·rename_i t p t' A off
  cases S:(Nat.beq t 127&&Nat.beq t' 214&&pA4 0 lAx h.pins&&pA4 1 loc1 h.pins&&vAk (h.t.get 0) [hdl]) with
  | false=>simp [S] at r
  | true=>
   simp only [S,xA] at r;simp only [xG] at S;have ⟨⟨⟨⟨b1,b2⟩,b3⟩,b4⟩,b5⟩:=S;obtain rfl:=xK b1;obtain rfl:=xK b2
   cases j:mAx h A with
   | none=>simp [j] at r
   | some q=>
    have ⟨cs,st⟩:=q;simp only [j] at r
    cases V:over off cs [.ptr (some p)] with
    | none=>simp [V] at r
    | some a2=>
     simp only [V,xF,xI] at r;obtain ⟨rfl,rfl⟩:=r;have U:h.t.get A=some (.row cs st)/\(st=.own\/st=.grown):=by
      unfold mAx at j
      split at j
      ·rename_i L a1 hq
       split at j
       ·simp only [xF,xI] at j;obtain ⟨rfl,rfl⟩:=j;exact ⟨hq,.inl rfl⟩
       ·simp only [xF,xI] at j;obtain ⟨rfl,rfl⟩:=j;exact ⟨hq,.inr rfl⟩
       ·cases j
      ·cases j
     have ⟨p1,M⟩:=p;simp only [VRs,VR] at hv;obtain ⟨y1,a4,e1,⟨x1,rfl,B,Y,rfl⟩,y2,a3,e2,⟨x2,rfl,H,O,rfl⟩,e3⟩:=hv;subst e2 e3;have ea:args' = #[.iface 127 (.pointer (some ⟨B.b,B.sh+M,none⟩)),.iface 214 (.pointer (some ⟨H.b,H.sh+off,none⟩))]:=by rw [<- Array.toList_inj,e1]
     subst ea;have W:w.cell? ⟨1,0,none⟩=some (.iface 232 (.agg #[.pointer (some ⟨7,29,none⟩)])):=by
      have a0:=F.pin _ (dQ b3);have X:=F.pin _ (dQ b4);have Q:RowR μ w lAx [hdl]:=F.blk 0 lAx _ a0 (kAp b5);have ⟨y,h1,h2⟩:=Q.cell 0 hdl rfl;simp only [hdl,VR,VRs] at h2;obtain ⟨z,rfl,L,rfl,u,us,h4,⟨l,J,rfl⟩,rfl⟩:=h2;have I:μ 1=some loc1:=X;rw [I] at J;simp only [xF] at J;subst J
      have:L = #[.pointer (some ⟨7,29,none⟩)]:=by rw [<- Array.toList_inj,h4];rfl
      rw [this] at h1;exact h1
     have R:VRs μ [.ptr (some (p1,M))] [.pointer (some ⟨B.b,B.sh+M,none⟩)]:=VRs.cons (by simp only [VR];exact ⟨B,Y,rfl⟩) VRs.nil;have ⟨w1,w2,_,_⟩:=F.write O U.1 (U.2.elim .inl fun e=>.inr (.inl e)) V R;have f:=w1 0 (by simp);have K:=w2 0 (by simp);rw [xX] at f K;have ⟨old,f⟩:=Option.isSome_iff_exists.1 f;refine (dBj ⟨B.b,B.sh+M,none⟩ ⟨H.b,H.sh+off,none⟩ old w W f K).mono ?_;rintro e w' ⟨rfl,rfl⟩;have C:Below w.heap.size w ((((w.alloc (.cells #[.pointer (some ⟨H.b,H.sh+off,none⟩)] 214)).alloc (.cells #[.pointer (some ⟨7,214,none⟩),.pointer (some ⟨w.heap.size,0,none⟩),.int .u64 150] 217)).alloc (.cells #[.pointer (some ⟨7,214,none⟩),.pointer (some ⟨w.heap.size,0,none⟩),.int .u64 150] 217)).alloc (.cells #[.pointer (some ⟨B.b,B.sh+M,none⟩)] 127)):=
      ((((Below.refl _ w).alloc (xD _) _).alloc (by simp) _).alloc (by simp;omega) _).alloc (by simp;omega) _
     have Z:=F.below C;have ⟨_,_,J,h6⟩:=Z.write O U.1 (U.2.elim .inl fun e=>.inr (.inl e)) V R;exact ⟨_,rfl,μ,by simp [VR],J,Ext.trans F (Ext.of_below C) h6⟩
 ·cases r
def lAp (c:UInt8):List UInt8->Nat->Int
 | [],_=>-1
 | x::r,k=>bif Nat.beq x.toNat c.toNat then .ofNat k else lAp c r (k+1)
def uAg (c:UInt8):∀ (s:List UInt8) (k:Nat),lAp c s k=(match (List.range s.length).find? fun i=>s.getD i 0 == c with | some i=>((k+i:Nat):Int) | none=>-1)
 | [],k=>rfl
 | x::r,k=>by
  rw [xJ,List.range_succ_eq_map]
  by_cases f:x=c
  ·subst f
   have:Nat.beq x.toNat x.toNat=true:=Nat.beq_refl _
   simp only [lAp,this,xA,List.find?_cons,List.getD_cons_zero,beq_self_eq_true,xX];rfl
  ·have h:Nat.beq x.toNat c.toNat=false:=by
    cases p:Nat.beq x.toNat c.toNat
    ·rfl
    ·exact absurd (UInt8.toNat.inj (xK p)) f
   have j:(x == c)=false:=by simpa using f
   simp only [lAp,h,xB,List.find?_cons,List.getD_cons_zero,j];rw [uAg c r (k+1),List.find?_map];simp only [Function.comp_def,List.getD_cons_succ]
   cases (List.range r.length).find? fun i=>r.getD i 0 == c with
   | none=>rfl
   | some i=>simp only [Option.map_some];congr 1;omega
def find_congr {α:Type} {p q:α->Bool}:∀ {l:List α},(∀ x∈l,p x=q x)->l.find? p=l.find? q
 | [],_=>rfl
 | x::r,h=>by
  simp only [List.find?_cons,h x List.mem_cons_self,find_congr fun y f=>h y (xe _ f)]
def firstIdx_eq (s:List UInt8) (c:UInt8):firstIdx ⟨s.toArray⟩ c=lAp c s 0:=by
 rw [uAg];unfold firstIdx;have j:(⟨s.toArray⟩:ByteArray).size=s.length:=rfl;rw [j];have h:(List.range s.length).find? (fun i=>(⟨s.toArray⟩:ByteArray)[i]! == c)=(List.range s.length).find? (fun i=>s.getD i 0 == c):=by
  refine find_congr fun i hi=>?_;have f:i<s.length:=List.mem_range.1 hi
  have:(⟨s.toArray⟩:ByteArray)[i]! = s.getD i 0:=by
   rw [getElem!_pos (⟨s.toArray⟩:ByteArray) i f];rw [List.getD_eq_getElem?_getD,List.getElem?_eq_getElem f];rfl
  rw [this]
 rw [h]
 cases (List.range s.length).find? fun i=>s.getD i 0 == c with
 | none=>rfl
 | some i=>simp
def jBs:List AV->Heap->yO0 AV
 | [.str s,.int .u8 c],h=>some (yI0 (lAp c.toNat.toUInt8 s 0),h)
 | _,_=>none
def eBj {args:List AV} {v:AV} {h h':Heap} (f:jBs args h=some (v,h')) {μ:Mu} {w:World} {args':Array Value} (r:HR μ h w) (j:VRs μ args args'.toList) :
  ∃ u w',(callFunc 206 args').run Tryz.prog w=.ok (.value u) w'/\iB8 μ h w v h' u w':=by
 unfold jBs at f
 split at f
 ·rename_i s c
  simp only [xF,xI] at f;obtain ⟨rfl,rfl⟩:=f;simp only [VRs,VR] at j;obtain ⟨J,C,p,rfl,I,A,H,rfl,F⟩:=j;subst H F;have B:args' = #[.string ⟨s.toArray⟩,.int .u8 c]:=by rw [<- Array.toList_inj,p]
  subst B;refine ⟨.int .i64 (lAp c.toNat.toUInt8 s 0),w,?_,μ,by simp only [VR],r,Ext.refl μ h w⟩;have y:=@run_callFunc_extern Tryz.prog 206 _ Extern.BytealgIndexByte.indexByte Tryz.func206 (by kernel_rfl) (by kernel_rfl) (by kernel_rfl) (by kernel_rfl) #[.string ⟨s.toArray⟩,.int .u8 c] w;rw [y,run_indexByte_string,firstIdx_eq];rfl
 ·cases f
def jBv (s:List UInt8) (c:Int) (h:Heap):yO0 Int:=some (lAp c.toNat.toUInt8 s 0,h)
def wAk (N:Nat):fAx Tryz.prog 206 [(.one .str),(.one (.int .u8))] (.val (.one (.int .i64))) (fun x h=>jBv x.1 x.2.1 h):=by
 intro xs h r h' u μ w args' j p;have f:some (lAp xs.2.1.toNat.toUInt8 xs.1 0,h)=some (r,h'):=u;simp only [xF,xI] at f;obtain ⟨rfl,rfl⟩:=f;exact eBj (args:=[.str xs.1,.int .u8 xs.2.1]) rfl j p
def nat:FuncId->Option (List AV->Heap->yO0 AV):=fun f=>bif Nat.beq f 192 then some asN else bif Nat.beq f 206 then some jBs else none
end Qa
set_option maxRecDepth 100000
namespace Qx
open Qa
def mBr:Tryz.prog.follows .mixedOrders=true:=by kernel_rfl
def h0:Heap:={ t:=Tr.set .nil 0 (.row [hdl] .ro),next:=2,pins:=[(0,lAx),(1,loc1)] }
def mu0:Mu:=fun A=>if A=0 then some lAx else if A=1 then some loc1 else none
def mu0_inv {A:Nat} {l:Ai.Loc} (h:mu0 A=some l):(A=0/\l=lAx)\/(A=1/\l=loc1):=by
 unfold mu0 at h
 split at h
 ·cases h;exact .inl ⟨by assumption,rfl⟩
 ·split at h
  ·cases h;exact .inr ⟨by assumption,rfl⟩
  ·cases h
def h0_inv {A:Nat} {b:Blk} (h:h0.t.get A=some b):A=0/\b=.row [hdl] .ro:=by
 rcases Tr.get_set h with h | ⟨_,h⟩
 ·exact h
 ·simp [Tr.get_nil] at h
def h0_rof:Rof h0:=by
 refine ⟨fun A b f=>?_,fun A f=>?_⟩
 ·obtain ⟨_,rfl⟩:=h0_inv f;exact ⟨_,rfl⟩
 ·cases h:h0.t.get A with
  | none=>rfl
  | some b=>
   have:=(h0_inv h).1
   have j:(2:Nat)<=A:=f;omega
def mB8 {w:World} (u:7<w.heap.size) {e:TypeId} (p:w.shape? 1=some (e,1)) (F:w.cell? ⟨1,0,none⟩=some (.iface 232 (.agg #[.pointer (some ⟨7,29,none⟩)]))):HR mu0 h0 w:=by
 refine ⟨fun A l j=>?_,fun A B M K I J j L C H _ _ r=>?_,fun A l b j y=>?_,fun x f=>?_⟩
 ·rcases mu0_inv j with ⟨rfl,rfl⟩ | ⟨rfl,rfl⟩
  ·exact ⟨by show 0<2;omega,by show 1<w.heap.size;omega⟩
  ·exact ⟨by show 1<2;omega,u⟩
 ·exact absurd ((h0_inv C).1.trans (h0_inv H).1.symm) r
 ·obtain ⟨rfl,rfl⟩:=h0_inv y
  rcases mu0_inv j with ⟨_,rfl⟩ | ⟨h,_⟩
  ·refine ⟨⟨e,p⟩,xD _,fun i x f=>?_⟩
   cases i with
   | zero=>
    have:x=hdl:=by simpa using f.symm
    subst this;refine ⟨_,F,?_⟩;simp only [hdl,VR,VRs];exact ⟨_,rfl,_,rfl,_,[],rfl,⟨loc1,rfl,rfl⟩,rfl⟩
   | succ i=>simp at f
  ·cases h
 ·rcases List.mem_cons.1 f with rfl | f
  ·rfl
  ·rw [List.mem_singleton.1 f];rfl
def pinned (h:Heap):Bool:=pA4 0 lAx h.pins&&pA4 1 loc1 h.pins&&vAk (h.t.get 0) [hdl]
end Qx
namespace Qp
abbrev yL (s:SL):AV:=.slice s.a s.len s.cap s.sz
noncomputable section
abbrev zA:VTy:=.agg [(.int .i64),(.int .i64),.bool,.str,(.int .i64),.str,.slice,.slice,.bool,.str,.slice,(.int .i64),(.int .i64),(.int .i64),.str,.slice,(.int .i64),(.int .i64),.str,.slice,(.int .i64),.str,.slice,.str,.slice,.slice,(.int .i64),(.int .i64),.str,.slice,.slice,.slice]
abbrev zC:VTy:=.agg [(.int .i64),(.int .i64),(.int .i64),.str,.slice,(.int .i64),(.int .i64),.str,.slice,(.int .i64),.str,.slice,.str,.slice,.slice]
abbrev zD:VTy:=.agg [(.int .i64),.str,.slice,.slice]
abbrev zE:VTy:=.agg [.bool,.str,.slice,.slice,(.int .i64),.str,.slice,.slice,.slice,(.int .i64)]
abbrev zG:VTy:=.agg [(.int .i64),(.int .i64),.str,.slice]
abbrev zJ:VTy:=.agg [.bool,.str,.slice,.slice,(.int .i64)]
abbrev zK:VTy:=.agg [(.int .i64),.str,(.int .i64)]
abbrev zM:VTy:=.agg [.str,.slice]
abbrev zP:VTy:=.agg [.bool,.str,(.int .i64),.str,.slice,.slice]
abbrev zQ:VTy:=.agg [.slice,.slice]
abbrev zR:Type:=Int×Int×Bool×List UInt8×Int×List UInt8×SL×SL×Bool×List UInt8×SL×Int×Int×Int×List UInt8×SL×Int×Int×List UInt8×SL×Int×List UInt8×SL×List UInt8×SL×SL×Int×Int×List UInt8×SL×SL×SL×Unit
abbrev zU:Type:=Option (Nat×Nat)×Option (Nat×Nat)×Unit
abbrev zW:Type:=Int×Int×Int×List UInt8×SL×Int×Int×List UInt8×SL×Int×List UInt8×SL×List UInt8×SL×SL×Unit
abbrev zX:Type:=Int×List UInt8×SL×SL×Unit
abbrev zY:Type:=Option (Nat×Nat)×Bool×Option (Nat×Nat)×Unit
abbrev zZ:Type:=Int×Int×List UInt8×SL×Unit
abbrev zA1:Type:=Bool×List UInt8×SL×SL×Int×List UInt8×SL×SL×SL×Int×Unit
abbrev zB1:Type:=Int×List UInt8×Int×Unit
abbrev zC1:Type:=List UInt8×Int×Option (Nat×Nat)×Unit
abbrev zD1:Type:=List UInt8×SL×Unit
abbrev zE1:Type:=Option (Nat×Nat)×Option (Nat×Nat)×Option (Nat×Nat)×Unit
abbrev zF1:Type:=Bool×List UInt8×SL×SL×Int×Unit
abbrev zG1:Type:=Bool×List UInt8×Int×List UInt8×SL×SL×Unit
abbrev zH1:Type:=Int×Int×AV×Bool×List UInt8×Int×Int×Bool×Int×Int×SL×Int×Int×Bool×Unit
abbrev zI1:Type:=Bool×Unit
abbrev zJ1:Type:=Option (Nat×Nat)×Option (Nat×Nat)×SL×Unit
abbrev zK1:Type:=Int×Option (Nat×Nat)×Bool×Option (Nat×Nat)×Unit
abbrev zL1:Type:=Option (Nat×Nat)×Bool×Unit
abbrev zM1:Type:=List UInt8×Int×Option (Nat×Nat)×Int×Unit
abbrev zN1:Type:=Bool×Option (Nat×Nat)×Unit
abbrev zO1:Type:=Int×Int×AV×Bool×List UInt8×Int×Int×Bool×Int×SL×Int×Int×Unit
abbrev zP1:Type:=Option (Nat×Nat)×List UInt8×Unit
abbrev zQ1:Type:=Int×AV×List UInt8×Bool×Int×Unit
abbrev zR1:Type:=SL×SL×Unit
abbrev zS1:Type:=List UInt8×Int×Int×AV×Bool×List UInt8×Bool×Unit
abbrev zT1:Type:=Option (Nat×Nat)×Int×Unit
abbrev zU1:Type:=Int×AV×Unit
abbrev zV1:Type:=Option (Nat×Nat)×Int×Option (Nat×Nat)×Option (Nat×Nat)×Unit
abbrev zW1:Type:=List UInt8×Int×Int×Int×AV×Bool×List UInt8×Bool×Unit
abbrev zX1:Type:=Option (Nat×Nat)×SL×Unit
abbrev zY1:Type:=Option (Nat×Nat)×Bool×Option (Nat×Nat)×Int×Unit
abbrev zZ1:Type:=List UInt8×Int×Int×Int×AV×Bool×List UInt8×Unit
abbrev zA2:Type:=List UInt8×Int×Option (Nat×Nat)×Int×Int×Unit
abbrev zB2:Type:=Int×Unit
abbrev zC2:Type:=Option (Nat×Nat)×List UInt8×Bool×Unit
abbrev zD2:Type:=List UInt8×Bool×Int×Int×Bool×Unit
abbrev zE2:Type:=Option (Nat×Nat)×Unit
abbrev zF2:Type:=Int×Int×AV×Bool×List UInt8×Int×Int×Bool×Int×Int×SL×Int×Int×Unit
abbrev zG2:Type:=Int×AV×List UInt8×Int×Unit
abbrev zH2:Type:=SL×Bool×Unit
abbrev zI2:Type:=Option (Nat×Nat)×Bool×Option (Nat×Nat)×SL×Int×Int×Unit
abbrev zJ2:Type:=SL×Unit
abbrev zK2:Type:=Int×Option (Nat×Nat)×Int×Bool×Unit
abbrev zL2:Type:=List UInt8×SL×AV×SL×Unit
abbrev zM2:Type:=List UInt8×Int×Int×Int×AV×Bool×List UInt8×Int×Unit
abbrev zN2:Type:=Option (Nat×Nat)×Option (Nat×Nat)×Int×Bool×Unit
abbrev zO2:Type:=Bool×Int×Int×Bool×Unit
abbrev zP2:Type:=List UInt8×Int×Option (Nat×Nat)×Int×Bool×Unit
abbrev zQ2:Type:=Option (Nat×Nat)×Option (Nat×Nat)×Bool×Unit
abbrev zR2:Type:=Option (Nat×Nat)×Int×Option (Nat×Nat)×Unit
abbrev zS2:Type:=Option (Nat×Nat)×Option (Nat×Nat)×Int×Unit
abbrev zT2:Type:=List UInt8×Bool×Int×Int×Bool×Bool×Unit
abbrev zU2:Type:=List UInt8×Int×AV×List UInt8×Bool×Unit
abbrev zV2:Type:=Option (Nat×Nat)×Int×SL×SL×Bool×Unit
abbrev zW2:Type:=List UInt8×Int×AV×List UInt8×Unit
abbrev zX2:Type:=List UInt8×Unit
abbrev zY2:Type:=List UInt8×List UInt8×Bool×Unit
abbrev zZ2:Type:=Bool×Int×Unit
abbrev zA3:Type:=List UInt8×Bool×Int×Int×Unit
abbrev zB3:Type:=List UInt8×Int×Int×Bool×Unit
abbrev zC3:Type:=Option (Nat×Nat)×Int×SL×Unit
abbrev zD3:Type:=List UInt8×AV×Unit
abbrev zE3:Type:=List UInt8×Int×AV×Bool×Unit
abbrev zF3:Type:=Int×Int×Unit
abbrev zG3:Type:=Int×AV×Bool×Int×Bool×Unit
abbrev zH3:Type:=Option (Nat×Nat)
abbrev zI3:VTy:=.one .ptr
abbrev zJ3:VTy:=.one .slice
abbrev zK3:VTy:=.one .str
abbrev zL3:VTy:=.one .bool
abbrev zM3:VTy:=.one (.int .i64)
abbrev zN3:VTy:=.one .any
abbrev zO3:Type:=List UInt8
noncomputable def E:Env:=rBa Tryz.prog [1000085] bAp
def fBb:EnvOK E Tryz.prog:=aAp (by kernel_rfl) (by kernel_rfl)
def mBr:Tryz.prog.follows .mixedOrders=true:=by kernel_rfl
abbrev yRA {β:Type} (v:Int×Int×Bool×List UInt8×Int×List UInt8×SL×SL×Bool×List UInt8×SL×Int×Int×Int×List UInt8×SL×Int×Int×List UInt8×SL×Int×List UInt8×SL×List UInt8×SL×SL×Int×Int×List UInt8×SL×SL×SL×β):List AV:=[(yI0 v.1),(yI0 v.2.1),(.bool v.2.2.1),(.str v.2.2.2.1),(yI0 v.2.2.2.2.1),(.str v.2.2.2.2.2.1),(yL v.2.2.2.2.2.2.1),(yL v.2.2.2.2.2.2.2.1),(.bool v.2.2.2.2.2.2.2.2.1),(.str v.2.2.2.2.2.2.2.2.2.1),(yL v.2.2.2.2.2.2.2.2.2.2.1),(yI0 v.2.2.2.2.2.2.2.2.2.2.2.1),(yI0 v.2.2.2.2.2.2.2.2.2.2.2.2.1),(yI0 v.2.2.2.2.2.2.2.2.2.2.2.2.2.1),(.str v.2.2.2.2.2.2.2.2.2.2.2.2.2.2.1),(yL v.2.2.2.2.2.2.2.2.2.2.2.2.2.2.2.1),(yI0 v.2.2.2.2.2.2.2.2.2.2.2.2.2.2.2.2.1),(yI0 v.2.2.2.2.2.2.2.2.2.2.2.2.2.2.2.2.2.1),(.str v.2.2.2.2.2.2.2.2.2.2.2.2.2.2.2.2.2.2.1),(yL v.2.2.2.2.2.2.2.2.2.2.2.2.2.2.2.2.2.2.2.1),(yI0 v.2.2.2.2.2.2.2.2.2.2.2.2.2.2.2.2.2.2.2.2.1),(.str v.2.2.2.2.2.2.2.2.2.2.2.2.2.2.2.2.2.2.2.2.2.1),(yL v.2.2.2.2.2.2.2.2.2.2.2.2.2.2.2.2.2.2.2.2.2.2.1),(.str v.2.2.2.2.2.2.2.2.2.2.2.2.2.2.2.2.2.2.2.2.2.2.2.1),(yL v.2.2.2.2.2.2.2.2.2.2.2.2.2.2.2.2.2.2.2.2.2.2.2.2.1),(yL v.2.2.2.2.2.2.2.2.2.2.2.2.2.2.2.2.2.2.2.2.2.2.2.2.2.1),(yI0 v.2.2.2.2.2.2.2.2.2.2.2.2.2.2.2.2.2.2.2.2.2.2.2.2.2.2.1),(yI0 v.2.2.2.2.2.2.2.2.2.2.2.2.2.2.2.2.2.2.2.2.2.2.2.2.2.2.2.1),(.str v.2.2.2.2.2.2.2.2.2.2.2.2.2.2.2.2.2.2.2.2.2.2.2.2.2.2.2.2.1),(yL v.2.2.2.2.2.2.2.2.2.2.2.2.2.2.2.2.2.2.2.2.2.2.2.2.2.2.2.2.2.1),(yL v.2.2.2.2.2.2.2.2.2.2.2.2.2.2.2.2.2.2.2.2.2.2.2.2.2.2.2.2.2.2.1),(yL v.2.2.2.2.2.2.2.2.2.2.2.2.2.2.2.2.2.2.2.2.2.2.2.2.2.2.2.2.2.2.2.1)]
abbrev yRB {β:Type} (v:Int×Int×Int×List UInt8×SL×Int×Int×List UInt8×SL×Int×List UInt8×SL×List UInt8×SL×SL×β):List AV:=[(yI0 v.1),(yI0 v.2.1),(yI0 v.2.2.1),(.str v.2.2.2.1),(yL v.2.2.2.2.1),(yI0 v.2.2.2.2.2.1),(yI0 v.2.2.2.2.2.2.1),(.str v.2.2.2.2.2.2.2.1),(yL v.2.2.2.2.2.2.2.2.1),(yI0 v.2.2.2.2.2.2.2.2.2.1),(.str v.2.2.2.2.2.2.2.2.2.2.1),(yL v.2.2.2.2.2.2.2.2.2.2.2.1),(.str v.2.2.2.2.2.2.2.2.2.2.2.2.1),(yL v.2.2.2.2.2.2.2.2.2.2.2.2.2.1),(yL v.2.2.2.2.2.2.2.2.2.2.2.2.2.2.1)]
abbrev yRC {β:Type} (v:Bool×List UInt8×SL×SL×Int×List UInt8×SL×SL×SL×Int×β):List AV:=[(.bool v.1),(.str v.2.1),(yL v.2.2.1),(yL v.2.2.2.1),(yI0 v.2.2.2.2.1),(.str v.2.2.2.2.2.1),(yL v.2.2.2.2.2.2.1),(yL v.2.2.2.2.2.2.2.1),(yL v.2.2.2.2.2.2.2.2.1),(yI0 v.2.2.2.2.2.2.2.2.2.1)]
abbrev yRD {β:Type} (v:Int×Int×List UInt8×SL×β):List AV:=[(yI0 v.1),(yI0 v.2.1),(.str v.2.2.1),(yL v.2.2.2.1)]
abbrev yRE {β:Type} (v:Int×List UInt8×SL×SL×β):List AV:=[(yI0 v.1),(.str v.2.1),(yL v.2.2.1),(yL v.2.2.2.1)]
abbrev yRF {β:Type} (v:Bool×List UInt8×Int×List UInt8×SL×SL×β):List AV:=[(.bool v.1),(.str v.2.1),(yI0 v.2.2.1),(.str v.2.2.2.1),(yL v.2.2.2.2.1),(yL v.2.2.2.2.2.1)]
abbrev yRG {β:Type} (v:Bool×List UInt8×SL×SL×Int×β):List AV:=[(.bool v.1),(.str v.2.1),(yL v.2.2.1),(yL v.2.2.2.1),(yI0 v.2.2.2.2.1)]
abbrev yRH {β:Type} (v:List UInt8×SL×β):List AV:=[(.str v.1),(yL v.2.1)]
abbrev yRI {β:Type} (v:Int×List UInt8×Int×β):List AV:=[(yI0 v.1),(.str v.2.1),(yI0 v.2.2.1)]
abbrev yRJ {β:Type} (v:SL×SL×β):List AV:=[(yL v.1),(yL v.2.1)]
abbrev yZA:List AV:=[(yI0 0),(yI0 0),(.bool false),(.str []),(yI0 0),(.str []),yS0,yS0,(.bool false),(.str []),yS0,(yI0 0),(yI0 0),(yI0 0),(.str []),yS0,(yI0 0),(yI0 0),(.str []),yS0,(yI0 0),(.str []),yS0,(.str []),yS0,yS0,(yI0 0),(yI0 0),(.str []),yS0,yS0,yS0]
abbrev yZB:List AV:=[(yI0 0),(yI0 0),(yI0 0),(.str []),yS0,(yI0 0),(yI0 0),(.str []),yS0,(yI0 0),(.str []),yS0,(.str []),yS0,yS0]
abbrev yZC:List AV:=[(.bool false),(.str []),yS0,yS0,(yI0 0),(.str []),yS0,yS0,yS0,(yI0 0)]
abbrev yZD:List AV:=[(.bool false),(.str []),(yI0 0),(.str []),yS0,yS0]
abbrev yZE:List AV:=[(yI0 0),(.str []),(yI0 0)]
abbrev yZF:List AV:=[(.bool false),(.str []),yS0,yS0,(yI0 0)]
abbrev yZG:List AV:=[(yI0 0),(.str []),yS0,yS0]
abbrev yZH:List AV:=[(yI0 0),(yI0 0),(.str []),yS0]
abbrev yZI:List AV:=[(.str []),yS0]
abbrev yZJ:List AV:=[yS0,yS0]
abbrev yZK:List AV:=[(yI0 0)]
abbrev yZL:List AV:=[yS0]
def kD {C:CallK} (u:CallKOK Tryz.prog C) (N:Nat) (x:Ann) (fn:Func) {f:FuncId} {l:List VTy} {t:Ty} {F:gI l->Heap->yO0 t.den} (p:E.fn f=some fn:=by kernel_rfl) (r:fn.body=some (fn.body.getD .skip):=by kernel_rfl) (j:Nat.ble fn.ntmps 1073741824=true:=by kernel_rfl) (w:Nat.beq fn.results.size fn.resultTypes.size=true:=by kernel_rfl) (y:∀ xs h,F xs h=runK E C N x fn (fn.body.getD .skip) t (VTy.tos l xs) h:=by intro _ _;kernel_rfl):pC Tryz.prog f l t F:=oAk fBb mBr u p r j w y
noncomputable def f37 (N:Nat) (f r:Int) (h:Heap):yO0 AV:=let j:=pA f 0;(bif j then some (AV.nilIface,h)else let p:=h.push (.row [(yI0 f),(yI0 r),(AV.iface 78 (yI0 f))] .own);some ((AV.iface 127 (.ptr (some (h.next,0)))),p))
def kBs:Ann:=.n
def nAx (N:Nat):pC Tryz.prog 37 [zM3,zM3] (.val zN3) (fun x h=>f37 N x.1 x.2.1 h):=kD kA N kBs Tryz.f37
def f186 (N:Nat) (j f:zO3) (h:Heap):yO0 Bool:=let r:Bool:=cD (Int.ofNat f.length) (Int.ofNat j.length);(bif r then(iA (.val zK3) (cF E h 9 (.str j) none (some (yI0 (Int.ofNat f.length)))) fun p=>let u:=bB p f;some (u,h))else some (false,h))
def fBj:Ann:=.n
def gBb (N:Nat):pC Tryz.prog 186 [zK3,zK3] (.val zL3) (fun x h=>f186 N x.1 x.2.1 h):=kD kA N fBj Tryz.f186
def f140 (N:Nat) (f r:zO3) (h:Heap):yO0 Bool:=(jA (f186 N f r h) fun j p=>some (j,p))
def gBj:Ann:=.n
def oAx (N:Nat):pC Tryz.prog 140 [zK3,zK3] (.val zL3) (fun x h=>f140 N x.1 x.2.1 h):=kD (bA (gBb N) kA) N gBj Tryz.f140
noncomputable def f206 (N:Nat) (f:zO3) (j:Int) (h:Heap):yO0 Int:=Qa.jBv f j h
def wAk (N:Nat):fAx Tryz.prog 206 [zK3,(.one (.int .u8))] (.val zM3) (fun x h=>f206 N x.1 x.2.1 h):=Qa.wAk N
def f187 (N:Nat) (f:zO3) (r:Int) (h:Heap):yO0 Int:=(jA (f206 N f r h) fun j p=>some (j,p))
def iBj:Ann:=.n
def iBb (N:Nat):pC Tryz.prog 187 [zK3,(.one (.int .u8))] (.val zM3) (fun x h=>f187 N x.1 x.2.1 h):=kD (kA4 (wAk N) kA) N iBj Tryz.f187
def f141 (N:Nat) (f:zO3) (r:Int) (h:Heap):yO0 Int:=(jA (f187 N f r h) fun j p=>some (j,p))
def jBj:Ann:=.n
def pAx (N:Nat):pC Tryz.prog 141 [zK3,(.one (.int .u8))] (.val zM3) (fun x h=>f141 N x.1 x.2.1 h):=kD (bA (iBb N) kA) N jBj Tryz.f141
def pAb (N:Nat) (w:zO3->Int->Int->Heap->Option (Out×zF3×Heap)) (j:zO3) (f v4:Int) (h:Heap):Option (Out×zF3×Heap):=let Q:=ltInt f (Int.ofNat j.length);(bif Q then(iL j f fun O=>let S:=pA O 32;(bif S then let M:=fB .i64 (f+1);w j M v4 h else(iL j f fun R=>let J:=pA R 9;(bif J then let I:=fB .i64 (f+1);w j I v4 h else(iL j f fun L=>let K:=pA L 10;(bif K then let A:=fB .i64 (f+1);w j A v4 h else(iA (.val zK3) (cF E h 9 (.str j) (some (yI0 f)) none) fun H=>(jA (f140 N H [47,47] h) fun B p=>(bif B then(iA (.val zK3) (cF E p 9 (.str j) (some (yI0 f)) none) fun C=>(jA (f141 N C 10 p) fun u r=>let y:=ltInt u 0;(bif y then some (Out.ret,(f,(Int.ofNat j.length),()),r)else let F:=fB .i64 (f+u);w j F v4 r)))else some (Out.ret,(f,f,()),p))))))))))else some ((Out.exit 0),(f,v4,()),h))
def mAp (N M:Nat) (j:zO3) (f v4:Int) (h:Heap):Option (Out×zF3×Heap):=iter (fun p s h=>pAb N (fun j f v4 h=>p (j,f,v4,()) h) s.1 s.2.1 s.2.2.1 h) M (j,f,v4,()) h
def yAk (N M v0 v1 v4 h):mAp N (M+1) v0 v1 v4 h=pAb N (mAp N M) v0 v1 v4 h:=rfl
def f90 (N:Nat) (r:zO3) (u:Int) (h:Heap):yO0 Int:=(rD (mAp N N r u 0 h) fun p (j:zF3) f=>(bif vD p (.exit 0) then some (j.1,f)else some (j.2.1,f)))
def lBs:Ann:=(.two .n (.two (.two (.loop [(0,zK3),(1,zM3),(4,zM3)] [(.exit 0),.ret] [(1,zM3),(4,zM3)] .n) .n) .n))
def kBj (N:Nat):pC Tryz.prog 90 [zK3,zM3] (.val zM3) (fun x h=>f90 N x.1 x.2.1 h):=kD (bA (pAx N) (bA (oAx N) kA)) N lBs Tryz.f90
noncomputable def f170 (N:Nat) (f:Int) (h:Heap):yO0 Bool:=let y:Bool:=cD 97 f;(bif y then let w:Bool:=cD f 122;(bif w then some (true,h)else let F:Bool:=cD 65 f;(bif F then let u:Bool:=cD f 90;(bif u then some (true,h)else let C:=pA f 95;(bif C then some (true,h)else some (false,h)))else let A:=pA f 95;(bif A then some (true,h)else some (false,h))))else let p:Bool:=cD 65 f;(bif p then let r:Bool:=cD f 90;(bif r then some (true,h)else let B:=pA f 95;(bif B then some (true,h)else some (false,h)))else let j:=pA f 95;(bif j then some (true,h)else some (false,h))))
def lBj:Ann:=.n
def aAl (N:Nat):pC Tryz.prog 170 [(.one (.int .u8))] (.val zL3) (fun x h=>f170 N x.1 h):=kD kA N lBj Tryz.f170
def f195 (N:Nat) (f:Int) (h:Heap):yO0 Bool:=(jA (f170 N f h) fun r j=>(bif r then some (true,j)else let u:Bool:=cD 48 f;(bif u then let p:Bool:=cD f 57;some (p,j)else some (false,j))))
def mBj:Ann:=.n
def jBb (N:Nat):pC Tryz.prog 195 [(.one (.int .u8))] (.val zL3) (fun x h=>f195 N x.1 h):=kD (bA (aAl N) kA) N mBj Tryz.f195
def qA4 (N:Nat) (r:zO3->Int->Heap->Option (Out×zB2×Heap)) (j:zO3) (f:Int) (h:Heap):Option (Out×zB2×Heap):=let w:=ltInt f (Int.ofNat j.length);(bif w then(iL j f fun u=>(jA (f195 N u h) fun A p=>(bif A then let y:=fB .i64 (f+1);r j y p else some ((Out.exit 0),(f,()),p))))else some ((Out.exit 0),(f,()),h))
def qAb (N M:Nat) (j:zO3) (f:Int) (h:Heap):Option (Out×zB2×Heap):=iter (fun p s h=>qA4 N (fun j f h=>p (j,f,()) h) s.1 s.2.1 h) M (j,f,()) h
def vAg (N M v0 v1 h):qAb N (M+1) v0 v1 h=qA4 N (qAb N M) v0 v1 h:=rfl
def f171 (N:Nat) (f:zO3) (r:Int) (h:Heap):yO0 Int:=(rD (qAb N N f r h) fun _ (p:zB2) j=>some (p.1,j))
def nBj:Ann:=(.two .n (.two (.two (.loop [(0,zK3),(1,zM3)] [(.exit 0)] [(1,zM3)] .n) .n) .n))
def rAb (N:Nat):pC Tryz.prog 171 [zK3,zM3] (.val zM3) (fun x h=>f171 N x.1 x.2.1 h):=kD (bA (jBb N) kA) N nBj Tryz.f171
noncomputable def f172 (N:Nat) (f:zO3) (h:Heap):yO0 Bool:=let L:=bB f [102,110];(bif L then(bif L then some (true,h)else some (false,h))else let K:=bB f [115,116,114,117,99,116];(bif K then(bif K then some (true,h)else some (false,h))else let O:=bB f [112,117,98];(bif O then(bif O then some (true,h)else some (false,h))else let J:=bB f [108,101,116];(bif J then(bif J then some (true,h)else some (false,h))else let M:=bB f [109,117,116];(bif M then(bif M then some (true,h)else some (false,h))else let F:=bB f [105,102];(bif F then(bif F then some (true,h)else some (false,h))else let C:=bB f [101,108,115,101];(bif C then(bif C then some (true,h)else some (false,h))else let I:=bB f [119,104,105,108,101];(bif I then(bif I then some (true,h)else some (false,h))else let H:=bB f [108,111,111,112];(bif H then(bif H then some (true,h)else some (false,h))else let p:=bB f [98,114,101,97,107];(bif p then(bif p then some (true,h)else some (false,h))else let y:=bB f [99,111,110,116,105,110,117,101];(bif y then(bif y then some (true,h)else some (false,h))else let r:=bB f [114,101,116,117,114,110];(bif r then(bif r then some (true,h)else some (false,h))else let w:=bB f [100,114,111,112];(bif w then(bif w then some (true,h)else some (false,h))else let u:=bB f [116,114,117,101];(bif u then(bif u then some (true,h)else some (false,h))else let A:=bB f [102,97,108,115,101]
 (bif A then(bif A then some (true,h)else some (false,h))else let j:=bB f [105,110,116];(bif j then(bif j then some (true,h)else some (false,h))else let B:=bB f [98,111,111,108];(bif B then some (true,h)else some (false,h))))))))))))))))))
def oBj:Ann:=.n
def bAl (N:Nat):pC Tryz.prog 172 [zK3] (.val zL3) (fun x h=>f172 N x.1 h):=kD kA N oBj Tryz.f172
def f142 (N:Nat) (C:zO3) (r:Int) (h:Heap):yO0 (zB1×Int×Unit):=let I:=h.push (.row yZE .own);(jA (f171 N C r I) fun y B=>(iA (.val zK3) (cF E B 9 (.str C) (some (yI0 r)) (some (yI0 y))) fun p=>(jA (f172 N p B) fun K w=>(bif K then(vA (w.store (h.next,0) [(yI0 2),(.str p),(yI0 r)]) fun F=>(iA (.val zK) (F.cells (h.next,0) 3) fun H=>some ((H,y,()),F)))else let J:Bool:=cD (Int.ofNat p.length) 32;(bif J then(vA (w.store (h.next,0) [(yI0 1),(.str p),(yI0 r)]) fun f=>(iA (.val zK) (f.cells (h.next,0) 3) fun u=>some ((u,y,()),f)))else(vA (w.store (h.next,0) yZE) fun j=>(iA (.val zK) (j.cells (h.next,0) 3) fun A=>some ((A,0,()),j))))))))
def pBj:Ann:=.n
def kBb (N:Nat):pC Tryz.prog 142 [zK3,zM3] (.tup [zK,zM3]) (fun x h=>f142 N x.1 x.2.1 h):=kD (bA (bAl N) (bA (rAb N) kA)) N pBj Tryz.f142
noncomputable def rA4 (N:Nat) (R:zO3->Int->zH3->Int->Int->Int->Int->Heap->Option (Out×zA2×Heap)) (f:zO3) (r:Int) (v4:zH3) (v5 j M u:Int) (h:Heap):Option (Out×zA2×Heap):=let S:=ltInt u j;(bif S then(iL f u fun V=>let O:=ltInt V 48;(bif O then(vA v4 fun W=>(vA (h.store W yZE) fun U=>some (Out.ret,(f,r,v4,0,j,()),U)))else(iL f u fun Q=>let A:=ltInt 57 Q;(bif A then(vA v4 fun w=>(vA (h.store w yZE) fun F=>some (Out.ret,(f,r,v4,0,j,()),F)))else let I:=fB .i64 (M * 10);(iL f u fun B=>let K:=fB .u8 (B-48);let y:=fB .i64 K;let p:=fB .i64 (I+y);let J:=ltInt 2147483647 p;(bif J then(vA v4 fun L=>(vA (h.store L yZE) fun C=>some (Out.ret,(f,r,v4,0,j,()),C)))else let H:=fB .i64 (u+1);R f r v4 v5 j p H h))))))else some ((Out.exit 0),(f,r,v4,v5,j,()),h))
def tAb (N M:Nat) (r:zO3) (f:Int) (v4:zH3) (v5 p j u:Int) (h:Heap):Option (Out×zA2×Heap):=iter (fun w s h=>rA4 N (fun r f v4 v5 p j u h=>w (r,f,v4,v5,p,j,u,()) h) s.1 s.2.1 s.2.2.1 s.2.2.2.1 s.2.2.2.2.1 s.2.2.2.2.2.1 s.2.2.2.2.2.2.1 h) M (r,f,v4,v5,p,j,u,()) h
def wAg (N M v0 v1 v4 v5 v6 v7 v8 h):tAb N (M+1) v0 v1 v4 v5 v6 v7 v8 h=rA4 N (tAb N M) v0 v1 v4 v5 v6 v7 v8 h:=rfl
def f143 (N:Nat) (X:zO3) (U:Int) (h:Heap):yO0 (zB1×Int×Unit):=let Y:=h.push (.row yZE .own);(jA (f171 N X U Y) fun x2 Z=>(rD (tAb N N X U (some (h.next,0)) 0 x2 0 U Z) fun C (f:zA2) j=>(bif vD C (.exit 0) then(iL f.1 f.2.1 fun W=>let B:=pA W 48;(bif B then let H:=fB .i64 (f.2.2.2.2.1-f.2.1);let I:=ltInt 1 H;(bif I then(vA f.2.2.1 fun K=>(vA (j.store K yZE) fun r=>(vA f.2.2.1 fun y=>(iA (.val zK) (r.cells y 3) fun L=>some ((L,0,()),r)))))else(iA (.val zK3) (cF E j 9 (.str f.1) (some (yI0 f.2.1)) (some (yI0 f.2.2.2.2.1))) fun J=>(vA f.2.2.1 fun M=>(vA (j.store M [(yI0 4),(.str J),(yI0 f.2.1)]) fun p=>(vA f.2.2.1 fun O=>(iA (.val zK) (p.cells O 3) fun R=>some ((R,f.2.2.2.2.1,()),p)))))))else(iA (.val zK3) (cF E j 9 (.str f.1) (some (yI0 f.2.1)) (some (yI0 f.2.2.2.2.1))) fun F=>(vA f.2.2.1 fun V=>(vA (j.store V [(yI0 4),(.str F),(yI0 f.2.1)]) fun u=>(vA f.2.2.1 fun S=>(iA (.val zK) (u.cells S 3) fun Q=>some ((Q,f.2.2.2.2.1,()),u))))))))else(vA f.2.2.1 fun w=>(iA (.val zK) (j.cells w 3) fun A=>some ((A,f.2.2.2.1,()),j))))))
def qBj:Ann:=(.two .n (.two .n (.two .n (.two (.two .n (.two (.loop [(0,zK3),(1,zM3),(4,zI3),(5,zM3),(6,zM3),(7,zM3),(8,zM3)] [(.exit 0),.ret] [(0,zK3),(1,zM3),(4,zI3),(5,zM3),(6,zM3)] .n) .n)) .n))))
def lBb (N:Nat):pC Tryz.prog 143 [zK3,zM3] (.tup [zK,zM3]) (fun x h=>f143 N x.1 x.2.1 h):=kD (bA (rAb N) kA) N qBj Tryz.f143
def f144 (N:Nat) (y:zO3) (p:Int) (h:Heap):yO0 (zB1×Int×Unit):=let O:=h.push (.row yZE .own);let W:=fB .i64 (p+1);let Y:=pA W (Int.ofNat y.length);(bif Y then(vA (O.store (h.next,0) yZE) fun Q=>(iA (.val zK) (Q.cells (h.next,0) 3) fun X=>some ((X,0,()),Q)))else let U:=fB .i64 (p+1);(iL y U fun S=>(jA (f170 N S O) fun V R=>let F:=!V;(bif F then(vA (R.store (h.next,0) yZE) fun r=>(iA (.val zK) (r.cells (h.next,0) 3) fun I=>some ((I,0,()),r)))else let J:=fB .i64 (p+1);(jA (f171 N y J R) fun f j=>let B:=fB .i64 (f-p);let C:=fB .i64 (B-1);let K:=ltInt 32 C;(bif K then(vA (j.store (h.next,0) yZE) fun u=>(iA (.val zK) (u.cells (h.next,0) 3) fun H=>some ((H,0,()),u)))else let M:=fB .i64 (p+1);(iA (.val zK3) (cF E j 9 (.str y) (some (yI0 M)) (some (yI0 f))) fun L=>(vA (j.store (h.next,0) [(yI0 3),(.str L),(yI0 p)]) fun w=>(iA (.val zK) (w.cells (h.next,0) 3) fun A=>some ((A,f,()),w))))))))))
def rBj:Ann:=.n
def mBb (N:Nat):pC Tryz.prog 144 [zK3,zM3] (.tup [zK,zM3]) (fun x h=>f144 N x.1 x.2.1 h):=kD (bA (rAb N) (bA (aAl N) kA)) N rBj Tryz.f144
def tA4 (N:Nat) (K:zO3->Int->zH3->Int->SL->Int->Int->Heap->Option (Out×zM1×Heap)) (p:zO3) (j:Int) (v4:zH3) (v5:Int) (y:SL) (B f:Int) (h:Heap):Option (Out×zM1×Heap):=let L:=ltInt f B;(bif L then(ixK y.a y.len f 1 fun H=>(iA (.val zK3) (h.cell H) fun C=>(iA (.val zK3) (cF E h 9 (.str p) (some (yI0 j)) none) fun I=>(jA (f140 N I C h) fun F A=>(bif F then let J:=fB .i64 (j+2);(vA v4 fun w=>(vA (A.store w [(yI0 5),(.str C),(yI0 j)]) fun r=>some (Out.ret,(p,j,v4,J,()),r)))else let u:=fB .i64 (f+1);K p j v4 v5 y B u A)))))else some ((Out.exit 0),(p,j,v4,v5,()),h))
def uAb (N M:Nat) (p:zO3) (j:Int) (v4:zH3) (v5:Int) (r:SL) (u f:Int) (h:Heap):Option (Out×zM1×Heap):=iter (fun w s h=>tA4 N (fun p j v4 v5 r u f h=>w (p,j,v4,v5,r,u,f,()) h) s.1 s.2.1 s.2.2.1 s.2.2.2.1 s.2.2.2.2.1 s.2.2.2.2.2.1 s.2.2.2.2.2.2.1 h) M (p,j,v4,v5,r,u,f,()) h
def yAg (N M v0 v1 v4 v5 v8 v9 v10 h):uAb N (M+1) v0 v1 v4 v5 v8 v9 v10 h=tA4 N (uAb N M) v0 v1 v4 v5 v8 v9 v10 h:=rfl
def f145 (N:Nat) (W:zO3) (V:Int) (h:Heap):yO0 (zB1×Int×Unit):=let S:=h.push (.row yZE .own);let U:=S.push (.row [(.str [58,58]),(.str [45,62]),(.str [61,61])] .own);(rD (uAb N N W V (some (h.next,0)) 0 ⟨(some (S.next,0)),3,3,1⟩ (Int.ofNat 3) 0 U) fun I (f:zM1) p=>(bif vD I (.exit 0) then(iL f.1 f.2.1 fun C=>(jA (f141 N [40,41,123,125,60,62,44,59,58,46,42,38,43,45,61,33] C p) fun H j=>let O:=ltInt H 0;(bif O then(vA f.2.2.1 fun R=>(vA (j.store R yZE) fun r=>(vA f.2.2.1 fun F=>(iA (.val zK) (r.cells F 3) fun K=>some ((K,0,()),r)))))else let A:=fB .i64 (f.2.1+1);(iA (.val zK3) (cF E j 9 (.str f.1) (some (yI0 f.2.1)) (some (yI0 A))) fun Q=>let B:=fB .i64 (f.2.1+1);(vA f.2.2.1 fun w=>(vA (j.store w [(yI0 5),(.str Q),(yI0 f.2.1)]) fun u=>(vA f.2.2.1 fun L=>(iA (.val zK) (u.cells L 3) fun M=>some ((M,B,()),u)))))))))else(vA f.2.2.1 fun y=>(iA (.val zK) (p.cells y 3) fun J=>some ((J,f.2.2.2.1,()),p)))))
def tBj:Ann:=(.two .n (.two (.two .n (.two (.loop [(0,zK3),(1,zM3),(4,zI3),(5,zM3),(8,zJ3),(9,zM3),(10,zM3)] [(.exit 0),.ret] [(0,zK3),(1,zM3),(4,zI3),(5,zM3)] .n) .n)) .n))
def nBb (N:Nat):pC Tryz.prog 145 [zK3,zM3] (.tup [zK,zM3]) (fun x h=>f145 N x.1 x.2.1 h):=kD (bA (pAx N) (bA (oAx N) kA)) N tBj Tryz.f145
def f91 (N:Nat) (U:zO3) (S:Int) (h:Heap):yO0 (zB1×Int×Unit):=let h1:=h.push (.row yZE .own);(vA (α:=Sum (zC1×Heap) (Sum (zT1×Heap) (Empty))) ((iL U S fun R=>(vA (α:=Sum (zC1×Heap) (Sum (zC1×Heap) (Sum (zT1×Heap) (Empty)))) ((vA (α:=Sum (zC1×Heap) (Sum (zC1×Heap) (Sum (zC1×Heap) (Sum (zT1×Heap) (Empty))))) ((vA (α:=Sum (zC1×Heap) (Sum (zC1×Heap) (Sum (zC1×Heap) (Sum (zC1×Heap) (Sum (zC1×Heap) (Empty)))))) ((vA (α:=Sum (zM1×Heap) (Sum (zC1×Heap) (Empty))) ( let x3:Bool:=cD 97 R;(bif x3 then let x4:Bool:=cD R 122;(bif x4 then some (Sum.inr (Sum.inl ((U,S,(some (h.next,0)),()),h1)))else some (Sum.inl ((U,S,(some (h.next,0)),R,()),h1)))else some (Sum.inl ((U,S,(some (h.next,0)),R,()),h1)))) fun j5=>(mC j5 (fun (r:zM1) h7=>(vA (α:=Sum (zM1×Heap) (Sum (zC1×Heap) (Empty))) ((jA (α:=zP2) ( let x9:Bool:=cD 65 r.2.2.2.1;(bif x9 then let b6:Bool:=cD r.2.2.2.1 90;some ((r.1,r.2.1,r.2.2.1,r.2.2.2.1,b6,()),h7)else some ((r.1,r.2.1,r.2.2.1,r.2.2.2.1,false,()),h7))) fun (f:zP2) u=>(bif f.2.2.2.2.1 then(bif f.2.2.2.2.1 then some (Sum.inr (Sum.inl ((f.1,f.2.1,f.2.2.1,()),u)))else some (Sum.inl ((f.1,f.2.1,f.2.2.1,f.2.2.2.1,()),u)))else let f7:=pA f.2.2.2.1 95;(bif f7 then some (Sum.inr (Sum.inl ((f.1,f.2.1,f.2.2.1,()),u)))else some (Sum.inl ((f.1,f.2.1,f.2.2.1,f.2.2.2.1,()),u)))))) fun c6=>(mC c6 (fun (j:zM1) A=>let d8:=pA j.2.2.2.1 48;(bif d8 then some (Sum.inr (Sum.inr (Sum.inl ((j.1,j.2.1,j.2.2.1,()),A))))
 else(vA (α:=Sum (zM1×Heap) (Sum (zC1×Heap) (Empty))) ( let e6:Bool:=cD 49 j.2.2.2.1;(bif e6 then let f5:Bool:=cD j.2.2.2.1 57;(bif f5 then some (Sum.inr (Sum.inl ((j.1,j.2.1,j.2.2.1,()),A)))else some (Sum.inl (j,A)))else some (Sum.inl (j,A)))) fun c5=>(mC c5 (fun (p:zM1) O=>let e7:=pA p.2.2.2.1 39;(bif e7 then some (Sum.inr (Sum.inr (Sum.inr (Sum.inr (Sum.inl ((p.1,p.2.1,p.2.2.1,()),O))))))else some (Sum.inr (Sum.inl ((p.1,p.2.1,p.2.2.1,()),O))))) fun a5=>(mC a5 (fun (d6:zC1) f8=>some (Sum.inr (Sum.inr (Sum.inr (Sum.inl (d6,f8)))))) fun _=>none))))) fun a4=>(mC a4 (fun (b0:zC1) b5=>some (Sum.inl (b0,b5))) fun _=>none)))) fun j8=>(mC j8 (fun (W:zC1) c8=>some (Sum.inl (W,c8))) fun _=>none)))) fun e2=>(mC e2 (fun (C:zC1) f3=>(jA (f142 N C.1 C.2.1 f3) fun J g4=>(vA C.2.2.1 fun g5=>(vA (g4.store g5 (yRI J.1)) fun b3=>some (Sum.inr (Sum.inr (Sum.inr (Sum.inl ((C.2.2.1,J.2.1,()),b3))))))))) fun a7=>(mC a7 (fun (c3:zC1) d5=>some (Sum.inr (Sum.inl (c3,d5)))) fun e1=>(mC e1 (fun (d7:zC1) b4=>some (Sum.inl (d7,b4))) fun b9=>(mC b9 (fun (c2:zC1) f6=>some (Sum.inl (c2,f6))) fun f0=>(mC f0 (fun (Z:zC1) d9=>
 some (Sum.inr (Sum.inr (Sum.inl (Z,d9))))) fun _=>none))))))) fun g2=>(mC g2 (fun (w:zC1) a8=>(jA (f143 N w.1 w.2.1 a8) fun L g6=>(vA w.2.2.1 fun f1=>(vA (g6.store f1 (yRI L.1)) fun g3=>some (Sum.inr (Sum.inr (Sum.inl ((w.2.2.1,L.2.1,()),g3)))))))) fun X=>(mC X (fun (e4:zC1) e5=>some (Sum.inr (Sum.inl (e4,e5)))) fun b1=>(mC b1 (fun (d0:zC1) f9=>some (Sum.inl (d0,f9))) fun b7=>(mC b7 (fun (f2:zT1) c9=>some (Sum.inr (Sum.inr (Sum.inl (f2,c9))))) fun _=>none)))))) fun Y=>(mC Y (fun (B:zC1) e9=>(jA (f144 N B.1 B.2.1 e9) fun H V=>(vA B.2.2.1 fun a3=>(vA (V.store a3 (yRI H.1)) fun a2=>some (Sum.inr (Sum.inl ((B.2.2.1,H.2.1,()),a2))))))) fun b8=>(mC b8 (fun (e3:zC1) c0=>some (Sum.inl (e3,c0))) fun g0=>(mC g0 (fun (a9:zT1) f4=>some (Sum.inr (Sum.inl (a9,f4)))) fun _=>none)))))) fun c4=>(mC c4 (fun (y:zC1) d3=>(jA (f145 N y.1 y.2.1 d3) fun K a6=>(vA y.2.2.1 fun e8=>(vA (a6.store e8 (yRI K.1)) fun I=>(vA y.2.2.1 fun d4=>(iA (.val zK) (I.cells d4 3) fun g1=>some ((g1,K.2.1,()),I))))))) fun b2=>(mC b2 (fun (Q:zT1) M=>(vA Q.1 fun c7=>(iA (.val zK) (M.cells c7 3) fun F=>some ((F,Q.2.1,()),M)))) fun _=>
 none)))
def mBs:Ann:=(.two .n (.two (.joinO [(.norm,[(0,zK3),(1,zM3),(4,zI3)]),(.ret,[(4,zI3),(5,zM3)])] (.two .n (.two (.two (.joinO [(.norm,[(0,zK3),(1,zM3),(4,zI3)]),((.exit 0),[(0,zK3),(1,zM3),(4,zI3)]),(.ret,[(4,zI3),(5,zM3)])] (.two (.two (.joinO [(.norm,[(0,zK3),(1,zM3),(4,zI3)]),((.exit 0),[(0,zK3),(1,zM3),(4,zI3)]),((.exit 5),[(0,zK3),(1,zM3),(4,zI3)]),(.ret,[(4,zI3),(5,zM3)])] (.two (.two (.two (.joinO [(.norm,[(0,zK3),(1,zM3),(4,zI3)]),((.exit 0),[(0,zK3),(1,zM3),(4,zI3)]),((.exit 3),[(0,zK3),(1,zM3),(4,zI3)]),((.exit 4),[(0,zK3),(1,zM3),(4,zI3)]),((.exit 5),[(0,zK3),(1,zM3),(4,zI3)])] (.two (.two (.two (.two (.joinO [(.norm,[(0,zK3),(1,zM3),(4,zI3),(6,(.one (.int .u8)))]),((.exit 1),[(0,zK3),(1,zM3),(4,zI3)])] .n) (.two (.joinO [(.norm,[(0,zK3),(1,zM3),(4,zI3),(6,(.one (.int .u8)))]),((.exit 2),[(0,zK3),(1,zM3),(4,zI3)])] (.two (.two (.join [(0,zK3),(1,zM3),(4,zI3),(6,(.one (.int .u8))),(17,zL3)] .n) .n) .n)) (.two .n (.two (.joinO [(.norm,[(0,zK3),(1,zM3),(4,zI3),(6,(.one (.int .u8)))]),((.exit 4),[(0,zK3),(1,zM3),(4,zI3)])] .n) .n)))) .n) .n) .n)) .n) .n) .n)) .n) .n)) .n) .n))) .n))
def uBj (N:Nat):pC Tryz.prog 91 [zK3,zM3] (.tup [zK,zM3]) (fun x h=>f91 N x.1 x.2.1 h):=kD (bA (nBb N) (bA (mBb N) (bA (lBb N) (bA (kBb N) kA)))) N mBs Tryz.f91
def vAb (N:Nat) (K:zO3->SL->AV->SL->Int->Heap->Option (Out×zL2×Heap)) (j:zO3) (v2:SL) (v3:AV) (v4:SL) (v5:Int) (h:Heap):Option (Out×zL2×Heap):=let J:=ltInt v5 (Int.ofNat j.length);(bif J then(jA (f91 N j v5 h) fun p r=>let L:=r.push (.row yZE .own);(vA (L.store (r.next,0) (yRI p.1)) fun f=>let F:=pA p.2.1 0;(bif F then(jA (f37 N 20 v5 f) fun y I=>some (Out.ret,(j,⟨none,0,0,0⟩,y,v4,()),I))else(iA (.val zK) (f.cells (r.next,0) 3) fun A=>let H:=f.push (.row (yRI A) .own);(tD (.val zJ3) (nB E 57 57 (yL v4) (.slice (some (f.next,0)) 1 1 3) H) fun u w=>(jA (f90 N j p.2.1 w) fun C B=>K j v2 v3 u C B))))))else some ((Out.exit 0),(j,v2,v3,v4,()),h))
def aAh (N M:Nat) (f:zO3) (v2:SL) (v3:AV) (v4:SL) (v5:Int) (h:Heap):Option (Out×zL2×Heap):=iter (fun j s h=>vAb N (fun f v2 v3 v4 v5 h=>j (f,v2,v3,v4,v5,()) h) s.1 s.2.1 s.2.2.1 s.2.2.2.1 s.2.2.2.2.1 h) M (f,v2,v3,v4,v5,()) h
def cAl (N M v0 v2 v3 v4 v5 h):aAh N (M+1) v0 v2 v3 v4 v5 h=vAb N (aAh N M) v0 v2 v3 v4 v5 h:=rfl
def f54 (N:Nat) (u:zO3) (h:Heap):yO0 (SL×AV×Unit):=let F:=ltInt 1048576 (Int.ofNat u.length);(bif F then(jA (f37 N 5 0 h) fun C A=>some ((⟨none,0,0,0⟩,C,()),A))else(jA (f90 N u 0 h) fun B H=>(rD (aAh N N u ⟨none,0,0,0⟩ AV.nilIface ⟨none,0,0,0⟩ B H) fun r (f:zL2) j=>(bif vD r (.exit 0) then let w:=j.push (.row [(yI0 0),(.str []),(yI0 (Int.ofNat f.1.length))] .own);(tD (.val zJ3) (nB E 57 57 (yL f.2.2.2.1) (.slice (some (j.next,0)) 1 1 3) w) fun y p=>some ((y,AV.nilIface,()),p))else some ((f.2.1,f.2.2.1,()),j)))))
def nBs:Ann:=(.two .n (.two .n (.two .n (.two .n (.two (.two (.loop [(0,zK3),(2,zJ3),(3,zN3),(4,zJ3),(5,zM3)] [(.exit 0),.ret] [(0,zK3),(2,zJ3),(3,zN3),(4,zJ3)] .n) .n) .n)))))
def vBj (N:Nat):pC Tryz.prog 54 [zK3] (.tup [zJ3,zN3]) (fun x h=>f54 N x.1 h):=kD (bA (uBj N) (bA (kBj N) (bA (nAx N) kA))) N nBs Tryz.f54
noncomputable def f56 (N:Nat) (r:zH3) (h:Heap):yO0 zB1:=let f:=h.push (.row yZE .own);(vA r fun j=>(iA (.val zJ3) (f.cell (j.1,j.2+0)) fun w=>(vA r fun p=>(iA (.val zM3) (f.cell (p.1,p.2+1)) fun B=>(ixK w.a w.len B 3 fun C=>(iA (.val zK) (f.cells C 3) fun y=>(vA (f.store (h.next,0) (yRI y)) fun u=>(iA (.val zK) (u.cells (h.next,0) 3) fun A=>some (A,u)))))))))
def oBs:Ann:=.n
def fT (N:Nat):pC Tryz.prog 56 [zI3] (.val zK) (fun x h=>f56 N x.1 h):=kD kA N oBs Tryz.f56
def f57 (N:Nat) (f:zH3) (F:Int) (h:Heap):yO0 (Unit):=(vA f fun r=>(iA (.val zN3) (h.cell (r.1,r.2+3)) fun y=>(iA (.val zL3) (tM E .eql 29 (.tmp 7) (.const .nilIface) y AV.nilIface) fun u=>(bif u then(jA (f56 N f h) fun w C=>(jA (f37 N F w.2.2.1 C) fun j B=>(vA f fun p=>(pD (AV.single j) (vA (B.store (p.1,p.2+3) [j]) fun A=>some ((()),A))))))else some ((()),h)))))
def pBs:Ann:=.n
def uA4 (N:Nat):pC Tryz.prog 57 [zI3,zM3] (.tup []) (fun x h=>f57 N x.1 x.2.1 h):=kD (bA (fT N) (bA (nAx N) kA)) N pBs Tryz.f57
def f146 (N:Nat) (w:zH3) (J:Int) (A:zO3) (h:Heap):yO0 Bool:=(jA (f56 N w h) fun H j=>let C:=j.push (.row yZE .own);(vA (C.store (j.next,0) (yRI H)) fun f=>(vA w fun u=>(iA (.val zN3) (f.cell (u.1,u.2+3)) fun F=>(iA (.val zL3) (tM E .eql 29 (.tmp 13) (.const .nilIface) F AV.nilIface) fun y=>(bif y then(iA (.val zM3) (f.cell (j.next,0)) fun B=>let I:=pA B J;(bif I then(iA (.val zK3) (f.cell (j.next,1)) fun p=>let r:=bB p A;some (r,f))else some (false,f)))else some (false,f)))))))
def wBj:Ann:=.n
def vA4 (N:Nat):pC Tryz.prog 146 [zI3,zM3,zK3] (.val zL3) (fun x h=>f146 N x.1 x.2.1 x.2.2.1 h):=kD (bA (fT N) kA) N wBj Tryz.f146
def f92 (N:Nat) (f:zH3) (C:zO3) (h:Heap):yO0 Bool:=(jA (f146 N f 2 C h) fun w j=>let B:=!w;(bif B then some (false,j)else(vA f fun p=>(iA (.val zM3) (j.cell (p.1,p.2+1)) fun A=>let u:=fB .i64 (A+1);(vA f fun r=>(vA (j.store (r.1,r.2+1) [(yI0 u)]) fun y=>some (true,y)))))))
def qBs:Ann:=.n
def tZ (N:Nat):pC Tryz.prog 92 [zI3,zK3] (.val zL3) (fun x h=>f92 N x.1 x.2.1 h):=kD (bA (vA4 N) kA) N qBs Tryz.f92
def f93 (N:Nat) (f:zH3) (C:zO3) (h:Heap):yO0 Bool:=(jA (f146 N f 5 C h) fun w j=>let B:=!w;(bif B then some (false,j)else(vA f fun p=>(iA (.val zM3) (j.cell (p.1,p.2+1)) fun A=>let u:=fB .i64 (A+1);(vA f fun r=>(vA (j.store (r.1,r.2+1) [(yI0 u)]) fun y=>some (true,y)))))))
def rBs:Ann:=.n
def vH (N:Nat):pC Tryz.prog 93 [zI3,zK3] (.val zL3) (fun x h=>f93 N x.1 x.2.1 h):=kD (bA (vA4 N) kA) N rBs Tryz.f93
def f94 (N:Nat) (j:zH3) (M:Int) (h:Heap):yO0 zO3:=(jA (f56 N j h) fun Q w=>let O:=w.push (.row yZE .own);(vA (O.store (w.next,0) (yRI Q)) fun f=>(vA j fun I=>(iA (.val zN3) (f.cell (I.1,I.2+3)) fun K=>(iA (.val zL3) (tM E .neq 29 (.tmp 11) (.const .nilIface) K AV.nilIface) fun J=>(bif J then(jA (f57 N j 21 f) fun S R=>some ([],R))else(iA (.val zM3) (f.cell (w.next,0)) fun A=>let B:=!pA A M;(bif B then(jA (f57 N j 21 f) fun L H=>some ([],H))else(vA j fun u=>(iA (.val zM3) (f.cell (u.1,u.2+1)) fun C=>let y:=fB .i64 (C+1);(vA j fun p=>(vA (f.store (p.1,p.2+1) [(yI0 y)]) fun r=>(iA (.val zK3) (r.cell (w.next,1)) fun F=>some (F,r))))))))))))))
def tBs:Ann:=.n
def eQ (N:Nat):pC Tryz.prog 94 [zI3,zM3] (.val zK3) (fun x h=>f94 N x.1 x.2.1 h):=kD (bA (uA4 N) (bA (fT N) kA)) N tBs Tryz.f94
def f95 (N:Nat) (f:zH3) (h:Heap):yO0 zO3:=(jA (f94 N f 1 h) fun j w=>(jA (f93 N f [58,58] w) fun B p=>(bif B then(iA (.val zK3) (fC .add j [58,58]) fun A=>(jA (f94 N f 1 p) fun u y=>(iA (.val zK3) (fC .add A u) fun r=>some (r,y))))else some (j,p))))
def uBs:Ann:=.n
def qAx (N:Nat):pC Tryz.prog 95 [zI3] (.val zK3) (fun x h=>f95 N x.1 h):=kD (bA (eQ N) (bA (vH N) kA)) N uBs Tryz.f95
def f188 (N:Nat) (f:zH3) (C:Int) (h:Heap):yO0 Bool:=let A:Bool:=cD 64 C;(bif A then(jA (f57 N f 5 h) fun F p=>(vA f fun j=>(iA (.val zN3) (p.cell (j.1,j.2+3)) fun B=>(iA (.val zL3) (tM E .eql 29 (.tmp 12) (.const .nilIface) B AV.nilIface) fun w=>some (w,p)))))else(vA f fun r=>(iA (.val zN3) (h.cell (r.1,r.2+3)) fun u=>(iA (.val zL3) (tM E .eql 29 (.tmp 12) (.const .nilIface) u AV.nilIface) fun y=>some (y,h)))))
def yBj:Ann:=.n
def fQ (N:Nat):pC Tryz.prog 188 [zI3,zM3] (.val zL3) (fun x h=>f188 N x.1 x.2.1 h):=kD (bA (uA4 N) kA) N yBj Tryz.f188
def f148 (N:Nat) (f A:zH3) (h:Heap):yO0 (Unit):=(vA f fun I=>(iA (.val zJ3) (h.cell I) fun j=>(vA A fun F=>(iA (.val zI3) (h.cell F) fun w=>(jA (f94 N w 3 h) fun H p=>let y:=p.push (.row [(.str H)] .own);(tD (.val zJ3) (nB E 38 38 (yL j) (.slice (some (p.next,0)) 1 1 1) y) fun B C=>(vA f fun r=>(vA (C.store r [(yL B)]) fun u=>(pD (bif (mF A fun q=>jB (h.cell q) (.ptr w)) then (bif (mF f fun q=>jB (y.cell q) (yL j)) then (bif (mF f fun q=>jB (p.cell q) (yL j)) then (bif (mF f fun q=>jB (h.cell q) (yL j)) then true else false) else false) else false) else false) ( some ((()),u)))))))))))
def aBk:Ann:=.n
def oBb (N:Nat):pC Tryz.prog 148 [zI3,zI3] (.tup []) (fun x h=>f148 N x.1 x.2.1 h):=kD (bA (eQ N) kA) N aBk Tryz.f148
def vJ (N:Nat) (y:zH3->zO3->zU->Int->Heap->Option (Out×(Unit)×Heap)) (f:zH3) (r:zO3) (v2:zU) (u:Int) (h:Heap):Option (Out×(Unit)×Heap):=(jA (f188 N f u h) fun C p=>(bif C then(jA (f148 N v2.1 v2.2.1 p) fun H F=>(jA (f93 N f r F) fun B j=>let w:=!B;(bif w then some (Out.ret,(()),j)else let A:=fB .i64 (u+1);y f r v2 A j)))else some ((Out.exit 0),(()),p)))
def mN (N M:Nat) (p:zH3) (f:zO3) (v2:zU) (j:Int) (h:Heap):Option (Out×(Unit)×Heap):=iter (fun r s h=>vJ N (fun p f v2 j h=>r (p,f,v2,j,()) h) s.1 s.2.1 s.2.2.1 s.2.2.2.1 h) M (p,f,v2,j,()) h
def dP (N M v0 v1 v2 v6 h):mN N (M+1) v0 v1 v2 v6 h=vJ N (mN N M) v0 v1 v2 v6 h:=rfl
def wAb (N:Nat) (p:zH3) (w:zO3) (j:zU) (h:Heap):yO0 (Unit):=(rD (mN N N p w j 0 h) fun r (u:(Unit)) f=>(bif vD r (.exit 0) then some ((()),f)else some ((()),f)))
def aAt:Ann:=(.two .n (.two (.loop [(0,zI3),(1,zK3),(2,(.clo 148 [.ptr,.ptr])),(6,zM3)] [(.exit 0),.ret] [] .n) .n))
def dAl (N:Nat):pC Tryz.prog 147 [zI3,zK3,(.clo 148 [.ptr,.ptr])] (.tup []) (fun x h=>wAb N x.1 x.2.1 x.2.2.1 h):=kD (bA (vH N) (bA (fQ N) (bA (oBb N) kA))) N aAt Tryz.f147
def f149 (N:Nat) (f:zH3) (w:zO3) (h:Heap):yO0 (Unit):=(jA (f93 N f w h) fun p j=>let u:=!p;(bif u then(jA (f57 N f 21 j) fun y r=>some ((()),r))else some ((()),j)))
def bBk:Ann:=.n
def qK (N:Nat):pC Tryz.prog 149 [zI3,zK3] (.tup []) (fun x h=>f149 N x.1 x.2.1 h):=kD (bA (vH N) (bA (uA4 N) kA)) N bBk Tryz.f149
def f96 (N:Nat) (B:zH3) (h:Heap):yO0 SL:=let j:=h.push (.row [(.ptr B)] .own);let y:=j.push (.row yZL .own);(iA (.val zI3) (y.cell (h.next,0)) fun I=>(jA (f93 N I [60] y) fun C p=>(bif C then(iA (.val zI3) (p.cell (h.next,0)) fun F=>(jA (wAb N F [44] ((some (j.next,0)),(some (h.next,0)),()) p) fun J w=>(iA (.val zI3) (w.cell (h.next,0)) fun H=>(jA (f149 N H [62] w) fun A f=>(iA (.val zJ3) (f.cell (j.next,0)) fun r=>some (r,f))))))else(iA (.val zJ3) (p.cell (j.next,0)) fun u=>some (u,p)))))
def vBs:Ann:=.n
def nB8 (N:Nat):pC Tryz.prog 96 [zI3] (.val zJ3) (fun x h=>f96 N x.1 h):=kD (bA (vH N) (bA (qK N) (iC (sel:=fun a=>mJ 2 148 a) (dAl N) kA))) N vBs Tryz.f96
def cB5 (N:Nat) (w:zH3->Int->Heap->yO0 zX) (a0:zH3) (a1:Int) (h:Heap):yO0 zX:=let h1:=h.push (.row yZG .own);(jA (α:=zR2) ( let x2:=ltInt 64 a1;(bif x2 then(jA (f57 N a0 6 h1) fun x3 h4=>some ((a0,a1,(some (h.next,0)),()),h4))else some ((a0,a1,(some (h.next,0)),()),h1))) fun (f:zR2) h6=>(vA f.1 fun q7=>(iA (.val zN3) (h6.cell (q7.1,q7.2+3)) fun x8=>(iA (.val zL3) (tM E .neq 29 (.tmp 15) (.const .nilIface) x8 AV.nilIface) fun x9=>(bif x9 then(vA f.2.2.1 fun d5=>(vA (h6.store d5 yZG) fun F=>(vA f.2.2.1 fun a6=>(iA (.val zD) (F.cells a6 4) fun c5=>some (c5,F)))))else(jA (f92 N f.1 [105,110,116] h6) fun c0 S=>(bif c0 then(vA f.2.2.1 fun Y=>(vA (S.store Y [(yI0 1),(.str []),yS0,yS0]) fun y=>(vA f.2.2.1 fun d8=>(iA (.val zD) (y.cells d8 4) fun d7=>some (d7,y)))))else(jA (f92 N f.1 [98,111,111,108] S) fun b9 J=>(bif b9 then(vA f.2.2.1 fun b0=>(vA (J.store b0 [(yI0 2),(.str []),yS0,yS0]) fun A=>(vA f.2.2.1 fun b7=>(iA (.val zD) (A.cells b7 4) fun a2=>some (a2,A)))))else(jA (f93 N f.1 [38] J) fun a4 j=>(bif a4 then let c3:=j.push (.row yZG .own);(vA (c3.store (j.next,0) [(yI0 4),(.str []),yS0,yS0]) fun b3=>
 (jA (α:=zV1) ((jA (f56 N f.1 b3) fun c6 O=>let b6:=pA c6.1 3;(bif b6 then(jA (f94 N f.1 3 O) fun b5 I=>let W:=I.push (.row [(.str b5)] .own);(vA (W.store (j.next,2) [(.slice (some (I.next,0)) 1 1 1)]) fun c9=>some ((f.1,f.2.1,f.2.2.1,(some (j.next,0)),()),c9)))else some ((f.1,f.2.1,f.2.2.1,(some (j.next,0)),()),O)))) fun (r:zV1) c7=>(jA (α:=zV1) ((jA (f92 N r.1 [109,117,116] c7) fun X R=>(bif X then(vA r.2.2.2.1 fun L=>(vA (R.store (L.1,L.2+0) [(yI0 5)]) fun a7=>some (r,a7)))else some (r,R)))) fun (p:zV1) c8=>let a3:=fB .i64 (p.2.1+1);(jA (w p.1 a3 c8) fun V B=>let d0:=B.push (.row (yRE V) .own);(vA p.2.2.2.1 fun H=>(vA (d0.store (H.1,H.2+3) [(.slice (some (B.next,0)) 1 1 4)]) fun K=>(vA p.2.2.2.1 fun d6=>(iA (.val zD) (K.cells d6 4) fun a9=>(vA p.2.2.1 fun a5=>(vA (K.store a5 (yRE a9)) fun M=>(vA p.2.2.1 fun b2=>(iA (.val zD) (M.cells b2 4) fun c4=>some (c4,M)))))))))))))else(jA (f95 N f.1 j) fun b1 u=>let Z:=u.push (.row yZG .own);(vA (Z.store (u.next,0) [(yI0 3),(.str b1),yS0,yS0]) fun c2=>(jA (f96 N f.1 c2) fun b8 d4=>(vA (d4.store (u.next,2) [(yL b8)]) fun Q=>
 (iA (.val zD) (Q.cells (u.next,0) 4) fun U=>(vA f.2.2.1 fun b4=>(vA (Q.store b4 (yRE U)) fun C=>(vA f.2.2.1 fun d3=>(iA (.val zD) (C.cells d3 4) fun a8=>some (a8,C)))))))))))))))))))))
def wBs:Ann:=(.two .n (.two (.join [(0,zI3),(1,zM3),(4,zI3)] .n) (.two (.two (.two .n (.two .n (.two .n (.two .n (.two .n (.two .n (.two .n (.two (.two .n (.two (.join [(0,zI3),(1,zM3),(4,zI3),(5,zI3)] .n) (.two (.join [(0,zI3),(1,zM3),(4,zI3),(5,zI3)] .n) .n))) .n)))))))) .n) .n)))
def cBk (N M:Nat):((zH3->Int->Heap->yO0 zX)×Unit):=Nat.rec (fun _ _ _=>none,()) (fun _ r=>(cB5 N r.1,())) M
def f55 (N M:Nat):zH3->Int->Heap->yO0 zX:=(cBk N M).1
def nAp (N M a0 a1 h):f55 N (M+1) a0 a1 h=cB5 N (f55 N M) a0 a1 h:=rfl
def cA9 (N:Nat):∀ M:Nat,(pC Tryz.prog 55 [zI3,zM3] (.val zD) (fun x h=>f55 N M x.1 x.2.1 h))/\True
 | 0=>⟨(fun xs h r h' f=>by cases f),trivial⟩
 | M+1=>⟨kD (bA (nB8 N) (bA (qAx N) (bA (eQ N) (bA (vH N) (bA (tZ N) (bA (uA4 N) (bA (fT N) (bA (cA9 N M).1 kA)))))))) N wBs Tryz.f55,trivial⟩
def oB8 (N:Nat):pC Tryz.prog 55 [zI3,zM3] (.val zD) (fun x h=>f55 N N x.1 x.2.1 h):=(cA9 N N).1
end
end Qp
namespace Qp
abbrev Bs:=zO3
def yB {β:Type} (k:Option β):pD true k=k:=rfl
def nBr:E.und 9=some .string:=by kernel_rfl
def dJ {β:Type} {s:Bs} {i:Nat} (hi:i<s.length) (K:Int->Option β):iL s (i:Int) K=K ((s[i]).toNat:Int):=by
 show (match (Int.ofNat i) with | .ofNat j=>(match s[j]? with | some b=>K b.toNat | none=>none) | .negSucc _=>none)=_
 grind
def aS {i hi d:Nat} (h:i<=hi):gG (some (yI0 (i:Int))) hi d=some i:=by
 have:Nat.ble i hi=true:=by simpa using h
 have e:rA0 (yI0 (i:Int))=some i:=rfl;simp only [gG,e,this,xA]
def cW {h:Heap} {s:Bs} {i j:Nat} (f:i<=j) (p:j<=s.length):cF E h 9 (.str s) (some (yI0 (i:Int))) (some (yI0 (j:Int)))=some (.str ((s.take j).drop i)):=by
 simp only [cF,nBr,aS p,aS f]
def eY {h:Heap} {s:Bs} {i:Nat} (f:i<=s.length):cF E h 9 (.str s) (some (yI0 (i:Int))) none=some (.str (s.drop i)):=by
 have e:gG none s.length s.length=some s.length:=rfl;simp only [cF,nBr,e,aS f,List.take_length]
def bAt {h:Heap} {s:Bs} {j:Nat} (f:j<=s.length):cF E h 9 (.str s) none (some (yI0 (j:Int)))=some (.str (s.take j)):=by
 have e:gG none j 0=some 0:=rfl;simp only [cF,nBr,aS f,e,List.drop_zero]
def wA4 (a b:Nat):ltInt (a:Int) (Int.ofNat b)=decide (a<b):=by
 grind [oAg]
theorem qC (a b:Nat):ltInt (a:Int) (b:Int)=decide (a<b):=wA4 a b
theorem dW {i:Nat} (h:i<=4000000000):fB .i64 (i:Int)=(i:Int):=wG (by omega) (by omega)
theorem iB {i:Nat} (h:i<=4000000000):fB .i64 ((i:Int)+1)=((i+1:Nat):Int):=by grind [wG]
theorem eqI (a b:Int):pA a b=decide (a=b):=pAg a b
theorem leI (a b:Int):cD a b=decide (a<=b):=yAw a b
theorem ltI (a b:Int):ltInt a b=decide (a<b):=oAg a b
def uC (c:UInt8):Bool:=decide (97<=c.toNat/\c.toNat<=122)||decide (65<=c.toNat/\c.toNat<=90)||decide (c.toNat=95)
def mD (c:UInt8):Bool:=decide (48<=c.toNat/\c.toNat<=57)
def wJ (c:UInt8):Bool:=uC c||mD c
def eAl (N:Nat) (c:UInt8) (h:Heap):f170 N (c.toNat:Int) h=some (uC c,h):=by
 grind [f170,uC,leI,eqI,decide]
def pBb (N:Nat) (c:UInt8) (h:Heap):f195 N (c.toNat:Int) h=some (wJ c,h):=by
 unfold f195;rw [eAl,aA]
 grind [wJ,mD,leI,decide,uC]
def runN:Bs->Nat
 | []=>0
 | c::r=>if wJ c then runN r+1 else 0
def cU:∀ t:Bs,runN t<=t.length
 | []=>xD _
 | c::r=>by have:=cU r;grind [runN,xJ]
theorem drop_cons {s:Bs} {i:Nat} (h:i<s.length):s.drop i=s[i]::s.drop (i+1):=List.drop_eq_getElem_cons h
def dB5 {N:Nat} {s:Bs} (f:s.length<=3000000) (h:Heap):∀ (M i:Nat),i<=s.length->s.length-i<M->qAb N M s (i:Int) h=some (.exit 0,(((i+runN (s.drop i):Nat):Int),()),h):=by
 intro M
 induction M with
 | zero=>intro i _ h;omega
 | succ M r=>
  intro i hi j;rw [vAg];unfold qA4;simp only [wA4]
  by_cases q:i<s.length
  ·simp only [q,xO,xA]
   rw [dJ q,pBb,aA,iB (by omega),drop_cons q];simp only [runN]
   cases p:wJ s[i] with
   | true=>
    grind
   | false=>simp
  ·simp only [q,xQ,xB]
   rw [List.drop_of_length_le (by omega)];rfl
def yAb {N:Nat} {s:Bs} (f:s.length<=3000000) (j:s.length<N) {i:Nat} (hi:i<=s.length) (h:Heap):f171 N s (i:Int) h=some (((i+runN (s.drop i):Nat):Int),h):=by
 unfold f171;rw [dB5 f h N i hi (by omega)];rfl
def dBk:List Bs:=[[102,110],[115,116,114,117,99,116],[112,117,98],[108,101,116],[109,117,116],[105,102],[101,108,115,101],[119,104,105,108,101],[108,111,111,112],[98,114,101,97,107],[99,111,110,116,105,110,117,101],[114,101,116,117,114,110],[100,114,111,112],[116,114,117,101],[102,97,108,115,101],[105,110,116],[98,111,111,108]]
def bAh (t:Bs):List Bs->Bool
 | []=>false
 | w::r=>bif bB t w then true else bAh t r
def isWord (t:Bs):Bool:=bAh t dBk
def fAl (N:Nat) (t:Bs) (h:Heap):f172 N t h=some (isWord t,h):=by
 unfold f172 isWord dBk;simp only [bAh]
 repeat' (first | rfl | (generalize bB t _=b;cases b <;> simp only [xA,xB]))
end Qp
namespace Qp
def lA7 (p x:Bs):Bool:=decide (p.length<=x.length)&&bB (x.take p.length) p
def rAx (N:Nat) (x p:Bs) (h:Heap):f140 N x p h=some (lA7 p x,h):=by
 unfold f140 f186;have e:cD (Int.ofNat p.length) (Int.ofNat x.length)=decide (p.length<=x.length):=by
  grind [leI]
 simp only [e,lA7]
 by_cases q:p.length<=x.length
 ·simp only [q,xO,xA,Bool.true_and]
  rw [show Int.ofNat p.length=(p.length:Int) from rfl,bAt q];rfl
 ·simp only [q,xQ,xB,Bool.false_and];rfl
def cAh {p x:Bs} (h:lA7 p x=true):x.take p.length=p/\p.length<=x.length:=by
 simp only [lA7,xG,xU,tH,beq_iff_eq] at h
 grind
def tAx (N:Nat) (x:Bs) (c:Int) (h:Heap):f141 N x c h=some (Qa.lAp c.toNat.toUInt8 x 0,h):=rfl
def nN:Bs->Nat
 | []=>0
 | c::r=>if c.toNat=10 then 0 else nN r+1
def wH (c:UInt8):Bool:=decide (c.toNat=32)||decide (c.toNat=9)||decide (c.toNat=10)
def jD:Bool->Bs->Nat
 | _,[]=>0
 | true,c::r=>if c.toNat=10 then jD false r+1 else jD true r+1
 | false,c::r=>if wH c=true then jD false r+1 else if lA7 [47,47] (c::r)=true then jD true r+1 else 0
def oAp:∀ t:Bs,nN t<=t.length
 | []=>xD _
 | c::r=>by have:=oAp r;grind [nN,xJ]
def dA9:∀ t:Bs,jD true t=nN t+jD false (t.drop (nN t))
 | []=>rfl
 | c::r=>by
  have h:=dA9 r
  by_cases q:c.toNat=10
  ·have f:wH c=true:=by simp [wH,q]
   simp only [nN,q,xM,List.drop_zero,xC,jD,f]
  ·simp only [nN,q,xL,jD,List.drop_succ_cons];omega
def eW:∀ (t:Bs) (b:Bool),jD b t<=t.length
 | [],b=>by grind [jD]
 | c::r,b=>by
  have f:=eW r true;have h:=eW r false
  cases b with
  | true=>grind [jD,xJ]
  | false=>
   grind [jD,xJ]
def uAx {c:UInt8} {r:Bs} (h:lA7 [47,47] (c::r)=true):c.toNat=47/\∃ r',r=47::r':=by
 have ⟨f,j⟩:=cAh h
 cases r with
 | nil=>grind
 | cons d r'=>simp at f;exact ⟨by rw [f.1];rfl,r',by rw [f.2]⟩
def vAx {t:Bs} (h:lA7 [47,47] t=true):jD false t=jD true t/\2<=nN t:=by
 cases t with
 | nil=>grind [lA7]
 | cons c r=>
  obtain ⟨f,r',rfl⟩:=uAx h;have j:wH c=false:=by simp [wH,f]
  have e:(47:UInt8).toNat=47:=rfl
  grind [jD,nN]
def pAp:∀ (t:Bs) (k:Nat),Qa.lAp 10 t k=if nN t<t.length then ((k+nN t:Nat):Int) else -1
 | [],k=>rfl
 | c::r,k=>by
  have f:=pAp r (k+1);have e:(10:UInt8).toNat=10:=rfl;simp only [Qa.lAp,e]
  by_cases q:c.toNat=10
  ·have:Nat.beq c.toNat 10=true:=by rw [q];rfl
   simp only [nN,q,xM,xJ]
   grind
  ·have:Nat.beq c.toNat 10=false:=by
    grind [Nat.beq,absurd,xK]
   simp only [this,xB,nN,q,xL,xJ,f];omega
def dU (c:UInt8) (n:Nat):pA (c.toNat:Int) (n:Int)=decide (c.toNat=n):=by
 grind [eqI]
def cAt {N:Nat} {s:Bs} (J:s.length<=3000000) (h:Heap):∀ (M i:Nat),i<=s.length->s.length-i<M->
  ∃ o a b,mAp N M s (i:Int) 0 h=some (o,(a,b,()),h)/\(bif vD o (.exit 0) then a else b)=((i+jD false (s.drop i):Nat):Int):=by
 intro M
 induction M with
 | zero=>omega
 | succ M y=>
  intro i hi K;rw [yAk];unfold pAb;simp only [wA4]
  by_cases q:i<s.length
  ·simp only [q,xO,xA]
   rw [dJ q];have j:=dU s[i] 32;have u:=dU s[i] 9;have f:=dU s[i] 10;rw [show ((32:Nat):Int)=32 from rfl] at j;rw [show ((9:Nat):Int)=9 from rfl] at u;rw [show ((10:Nat):Int)=10 from rfl] at f;have nx:wH s[i]=true->((i+1+jD false (s.drop (i+1)):Nat):Int)=((i+jD false (s.drop i):Nat):Int):=fun p=>by
    rw [drop_cons q];simp only [jD,p,xM];omega
   have ⟨o,a,b,C,I⟩:=y (i+1) q (by omega);simp only [j]
   by_cases B:(s[i]).toNat=32
   ·simp only [B,xO,xA]
    grind [iB,wH]
   simp only [B,xQ,xB];rw [dJ q];simp only [u]
   by_cases w:(s[i]).toNat=9
   ·simp only [w,xO,xA]
    grind [iB,wH]
   simp only [w,xQ,xB];rw [dJ q];simp only [f]
   by_cases A:(s[i]).toNat=10
   ·simp only [A,xO,xA]
    grind [iB,wH]
   simp only [A,xQ,xB];rw [eY hi];simp only [dA,yA,rAx,aA];have p:wH s[i]=false:=by grind [wH]
   cases r:lA7 [47,47] (s.drop i) with
   | false=>
    simp only [xB];refine ⟨_,_,_,rfl,?_⟩;rw [drop_cons q] at r ⊢;simp only [jD,p,r,xL,xE,xX];rfl
   | true=>
    simp only [xA];have F:=vAx r;have H:=oAp (s.drop i);rw [List.length_drop] at H;rw [eY hi];simp only [dA,yA,tAx,aA];rw [show (10:Int).toNat.toUInt8=10 from rfl,pAp];rw [F.1,dA9]
    by_cases z:nN (s.drop i)<(s.drop i).length
    ·rw [if_pos z]
     have:ltInt ((0+nN (s.drop i):Nat):Int) 0=false:=by rw [ltI];simp
     simp only [this,xB];rw [show ((i:Int)+((0+nN (s.drop i):Nat):Int))=((i+nN (s.drop i):Nat):Int) by simp,dW (by omega)];have ⟨o,a,b,C,I⟩:=y (i+nN (s.drop i)) (by omega) (by omega)
     grind [List.drop_drop]
    ·rw [if_neg z]
     have:ltInt (-1) 0=true:=rfl
     simp only [this,xA];refine ⟨_,_,_,rfl,?_⟩;rw [List.length_drop] at z;rw [show (s.drop i).drop (nN (s.drop i))=[] from List.drop_of_length_le (by grind)];show (Int.ofNat s.length)=_;simp only [jD,xX]
     grind
  ·simp only [q,xQ,xB]
   refine ⟨_,_,_,rfl,?_⟩;rw [List.drop_of_length_le (by omega)];simp [jD]
def pB8 {N:Nat} {s:Bs} (f:s.length<=3000000) (p:s.length<N) {i:Nat} (hi:i<=s.length) (h:Heap):f90 N s (i:Int) h=some (((i+jD false (s.drop i):Nat):Int),h):=by
 unfold f90;obtain ⟨o,a,b,j,r⟩:=cAt f h N i hi (by omega);rw [j];simp only [mB]
 grind
end Qp
namespace Qp
def sub_eq (s:Bs) (i n:Nat):(s.take (i+n)).drop i=(s.drop i).take n:=by grind [List.drop_take]
def oN (p:UInt8->Bool):Bs->Bool
 | []=>false
 | c::_=>p c
def yG (t:Bs):Bool:=decide (1<=t.length)&&decide (t.length<=32)&&oN uC t&&decide (runN t=t.length)
def jE (t:Bs):Bool:=yG t&&!isWord t
def mS:Bs->Nat->Nat
 | [],v=>v
 | c::r,v=>mS r (v * 10+(c.toNat-48))
def wAx:∀ (t:Bs) (v:Nat),v<=mS t v
 | [],v=>xD _
 | c::r,v=>by have:=wAx r (v * 10+(c.toNat-48));grind [mS]
def fY (t:Bs):Bool:=t.all mD&&Nat.ble (mS t 0) 2147483647&&!(decide (1<t.length)&&oN (fun c=>decide (c.toNat=48)) t)
theorem u8_in {x:Int} (f:0<=x) (h:x<=255):fB .u8 x=x:=by
 grind [bN,IntWalk.u8_in]
def yAx {c:UInt8} (h:mD c=true) {v:Nat} (f:v<=3000000000):fB .i64 (fB .i64 ((v:Int) * 10)+fB .i64 (fB .u8 ((c.toNat:Int)-48)))=((v * 10+(c.toNat-48):Nat):Int):=by
 simp only [mD,xU] at h
 grind [u8_in,wG]
def tkc (k:Int) (x:Bs) (a:Int):List AV:=[yI0 k,.str x,yI0 a]
def eB5 {N:Nat} {s:Bs} (Q:s.length<=3000000) {i j A:Nat} (R:j<=s.length) {H:Heap} {J:Int} {O:Bs} {L:Int} (B:H.own A (tkc J O L)):∀ (M k v:Nat),k<=j->j-k<M->v<=2147483647->
  tAb N M s (i:Int) (some (A,0)) 0 (j:Int) (v:Int) (k:Int) H=bif (((s.take j).drop k).all mD&&Nat.ble (mS ((s.take j).drop k) v) 2147483647) then some (.exit 0,(s,(i:Int),some (A,0),0,(j:Int),()),H) else some (.ret,(s,(i:Int),some (A,0),0,(j:Int),()),H.put A (.row (tkc 0 [] 0) .own)):=by
 intro M
 induction M with
 | zero=>omega
 | succ M S=>
  intro k v U V C;rw [wAg];unfold rA4;simp only [qC];have f:H.store (A,0) yZE=some (H.put A (.row (tkc 0 [] 0) .own)):=B.store rfl
  by_cases q:k<j
  ·simp only [q,xO,xA]
   have h:k<s.length:=by omega
   have et:(s.take j).drop k=s[k]::(s.take j).drop (k+1):=by
    grind [List.drop_eq_getElem_cons,List.length_take]
   rw [et];rw [dJ h];have r:ltInt ((s[k]).toNat:Int) 48=decide ((s[k]).toNat<48):=by
    grind [ltI]
   have p:ltInt 57 ((s[k]).toNat:Int)=decide (57<(s[k]).toNat):=by
    grind [ltI]
   simp only [r]
   by_cases y:(s[k]).toNat<48
   ·have hd:mD s[k]=false:=by grind [mD]
    simp only [y,xO,xA,fA,f,List.all_cons,hd,Bool.false_and,xB]
   simp only [y,xQ,xB];rw [dJ h];simp only [p]
   by_cases w:57<(s[k]).toNat
   ·have hd:mD s[k]=false:=by grind [mD]
    simp only [w,xO,xA,fA,f,List.all_cons,hd,Bool.false_and,xB]
   simp only [w,xQ,xB];have hd:mD s[k]=true:=by grind [mD]
   rw [dJ h,yAx hd (by omega)];have I:ltInt 2147483647 ((v * 10+((s[k]).toNat-48):Nat):Int)=decide (2147483647<v * 10+((s[k]).toNat-48)):=by
    rw [ltI];grind
   rw [I];simp only [List.all_cons,hd,Bool.true_and,mS]
   by_cases u:2147483647<v * 10+((s[k]).toNat-48)
   ·have:=wAx ((s.take j).drop (k+1)) (v * 10+((s[k]).toNat-48))
    have F:Nat.ble (mS ((s.take j).drop (k+1)) (v * 10+((s[k]).toNat-48))) 2147483647=false:=by
     grind [Nat.ble,mS,Nat.ble_eq]
    simp only [u,xO,xA,fA,f,F,Bool.and_false,xB]
   ·simp only [u,xQ,xB]
    grind [iB]
  ·simp only [q,xQ,xB]
   have:(s.take j).drop k=[]:=List.drop_of_length_le (by grind)
   rw [this];have K:Nat.ble v 2147483647=true:=by rw [Nat.ble_eq];exact C
   simp only [List.all_nil,mS,K,Bool.and_self,xA]
def qB8 (i:Nat) (r:zB1×Int×Unit) (o:Option (Int×Bs×Nat)):Prop:=match o with
 | some (k,x,n)=>r=((k,x,(i:Int),()),((i+n:Nat):Int),())
 | none=>r.2.1=0
theorem rL {H:Heap} {A:Nat} {k:Int} {x:Bs} {a:Int} (f:H.own A (tkc k x a)) {β:Type} (K:zB1->Option β):iA (.val zK) (H.cells (A,0) 3) K=K (k,x,a,()):=by
 have:H.cells (A,0) 3=some (.agg (tkc k x a)):=f.cells (j:=0) (m:=3) (xD _)
 rw [this];simp [tkc]
def dAt {H:Heap} {A:Nat} {cs:List AV} (j:H.own A cs) (p:cs.length=3) (k:Int) (x:Bs) (a:Int) {β:Type} (K:zB1->Heap->Option β) :
  (vA (H.store (A,0) [yI0 k,.str x,yI0 a]) fun f=>iA (.val zK) (f.cells (A,0) 3) fun h=>K h f)=K (k,x,a,()) (H.put A (.row (tkc k x a) .own)):=by
 have:H.store (A,0) [yI0 k,.str x,yI0 a]=some (H.put A (.row (tkc k x a) .own)):=j.store (by grind)
 grind [fA,rL,kB]
section
variable {N:Nat} {s:Bs} (hs:s.length<=3000000) (hN:s.length<N) {i:Nat}
include hs hN
def gAl (hi:i<=s.length) (h:Heap):∃ r h',f142 N s (i:Int) h=some (r,h')/\Chg [] h h'/\qB8 i r (let n:=runN (s.drop i);let x:=(s.drop i).take n;if isWord x=true then some (2,x,n) else if n<=32 then some (1,x,n) else none):=by
 unfold f142;have w:=cU (s.drop i);rw [List.length_drop] at w;have j:((s.drop i).take (runN (s.drop i))).length=runN (s.drop i):=by grind
 have o1:=wA h (tkc 0 [] 0);have c1:=uA h (.row (tkc 0 [] 0) .own);have p:h.push (.row yZE .own)=h.push (.row (tkc 0 [] 0) .own):=rfl;rw [p];generalize h.push (.row (tkc 0 [] 0) .own)=u at *;dsimp only;rw [yAb hs hN hi,aA,cW (by omega) (by omega),sub_eq];simp only [dA,yA,fAl,aA];have f:∀ k x a,Chg [] h (u.put h.next (.row (tkc k x a) .own)):=fun k x a=>c1.put (.inr (xD _)) _
 cases A:isWord ((s.drop i).take (runN (s.drop i))) with
 | true=>
  simp only [xA,xM];rw [dAt o1 rfl];exact ⟨_,_,rfl,f _ _ _,rfl⟩
 | false=>
  simp only [xB,xE,xL];rw [j];have y:cD (Int.ofNat (runN (s.drop i))) 32=decide (runN (s.drop i)<=32):=by
   grind [leI,runN]
  rw [y]
  by_cases q:runN (s.drop i)<=32
  ·simp only [q,xO,xA,xM]
   rw [dAt o1 rfl];exact ⟨_,_,rfl,f _ _ _,rfl⟩
  ·simp only [q,xQ,xB,xL]
   rw [dAt o1 rfl];exact ⟨_,_,rfl,f _ _ _,rfl⟩
def aAy (hi:i<s.length) (K:mD s[i]=true) (h:Heap):∃ r h',f143 N s (i:Int) h=some (r,h')/\Chg [] h h'/\qB8 i r (let n:=runN (s.drop i);let x:=(s.drop i).take n;if fY x=true then some (4,x,n) else none):=by
 unfold f143;have L:=cU (s.drop i);rw [List.length_drop] at L;have o1:=wA h (tkc 0 [] 0);have c1:=uA h (.row (tkc 0 [] 0) .own);have H:h.push (.row yZE .own)=h.push (.row (tkc 0 [] 0) .own):=rfl;rw [H];generalize h.push (.row (tkc 0 [] 0) .own)=J at *;dsimp only;have C:1<=runN (s.drop i):=by
  grind [drop_cons,runN,wJ]
 rw [yAb hs hN (by omega),aA];have y:=eB5 (N:=N) hs (i:=i) (j:=i+runN (s.drop i)) (by omega) o1 N i 0 (by omega) (by omega) (by omega);rw [show ((0:Nat):Int)=0 from rfl] at y;rw [y,sub_eq];have u:((s.drop i).take (runN (s.drop i))).length=runN (s.drop i):=by grind
 have w:oN (fun c=>decide (c.toNat=48)) ((s.drop i).take (runN (s.drop i)))=decide ((s[i]).toNat=48):=by
  obtain ⟨m,B⟩:∃ m,runN (s.drop i)=m+1:=⟨runN (s.drop i)-1,by omega⟩;rw [B,drop_cons hi,List.take_succ_cons];rfl
 have p:∀ k x a,Chg [] h (J.put h.next (.row (tkc k x a) .own)):=fun k x a=>c1.put (.inr (xD _)) _;unfold fY;rw [w,u]
 cases I:(((s.drop i).take (runN (s.drop i))).all mD&&Nat.ble (mS ((s.drop i).take (runN (s.drop i))) 0) 2147483647) with
 | false=>
  simp only [xE,xL,mB,Bool.false_and,xB];simp only [eA4,xB,fA];rw [rL (kB o1 _)];exact ⟨_,_,rfl,p _ _ _,rfl⟩
 | true=>
  simp only [mB,Bool.true_and,xA];simp only [vF,xO,xA];rw [dJ hi];have f:=dU s[i] 48;rw [show ((48:Nat):Int)=48 from rfl] at f;have M:fB .i64 (((i+runN (s.drop i):Nat):Int)-(i:Int))=((runN (s.drop i):Nat):Int):=by
   grind [runN,dW]
  have F:ltInt 1 ((runN (s.drop i):Nat):Int)=decide (1<runN (s.drop i)):=by
   grind [ltI,runN]
  rw [f,M,F]
  by_cases z:(s[i]).toNat=48
  ·simp only [z,xO,xA,Bool.and_true]
   by_cases A:1<runN (s.drop i)
   ·simp only [A,xO,xA,fA,xV,xE,xL]
    rw [dAt o1 rfl];exact ⟨_,_,rfl,p _ _ _,rfl⟩
   ·simp only [A,xQ,xB,fA,Bool.not_false,xM]
    rw [cW (by omega) (by omega),sub_eq];simp only [dA,yA];rw [dAt o1 rfl];exact ⟨_,_,rfl,p _ _ _,rfl⟩
  ·simp only [z,xQ,xB,Bool.and_false,Bool.not_false,xM,fA]
   rw [cW (by omega) (by omega),sub_eq];simp only [dA,yA];rw [dAt o1 rfl];exact ⟨_,_,rfl,p _ _ _,rfl⟩
def qBb (hi:i<s.length) (h:Heap):∃ r h',f144 N s (i:Int) h=some (r,h')/\Chg [] h h'/\qB8 i r (let t:=s.drop (i+1);let n:=runN t;if oN uC t=true then (if n<=32 then some (3,t.take n,n+1) else none) else none):=by
 unfold f144;have o1:=wA h (tkc 0 [] 0);have c1:=uA h (.row (tkc 0 [] 0) .own);have w:h.push (.row yZE .own)=h.push (.row (tkc 0 [] 0) .own):=rfl;rw [w];generalize h.push (.row (tkc 0 [] 0) .own)=y at *;dsimp only;have j:∀ k x a,Chg [] h (y.put h.next (.row (tkc k x a) .own)):=fun k x a=>c1.put (.inr (xD _)) _;rw [iB (by omega)];have F:pA ((i+1:Nat):Int) (Int.ofNat s.length)=decide (i+1=s.length):=by
  grind [eqI,xO,xQ,xd,Int.ofNat.inj]
 rw [F]
 by_cases q:i+1=s.length
 ·simp only [q,xO,xA]
  rw [List.drop_of_length_le (xD _)];rw [dAt o1 rfl];exact ⟨_,_,rfl,j _ _ _,rfl⟩
 ·simp only [q,xQ,xB]
  have f:i+1<s.length:=by omega
  rw [dJ f,eAl,aA];have B:oN uC (s.drop (i+1))=uC s[i+1]:=by rw [drop_cons f];rfl
  rw [B]
  cases H:uC s[i+1] with
  | false=>
   simp only [Bool.not_false,xA,xE,xL];rw [dAt o1 rfl];exact ⟨_,_,rfl,j _ _ _,rfl⟩
  | true=>
   simp only [xV,xB,xM];have A:=cU (s.drop (i+1));rw [List.length_drop] at A;rw [yAb hs hN (by omega),aA];have C:fB .i64 (((i+1+runN (s.drop (i+1)):Nat):Int)-(i:Int))=((1+runN (s.drop (i+1)):Nat):Int):=by
    rw [show ((i+1+runN (s.drop (i+1)):Nat):Int)-(i:Int)=((1+runN (s.drop (i+1)):Nat):Int) by omega,dW (by omega)]
   have u:fB .i64 (((1+runN (s.drop (i+1)):Nat):Int)-1)=((runN (s.drop (i+1)):Nat):Int):=by
    grind [runN,dW]
   have p:ltInt 32 ((runN (s.drop (i+1)):Nat):Int)=decide (32<runN (s.drop (i+1))):=by
    grind [ltI,runN]
   rw [C,u,p]
   by_cases z:32<runN (s.drop (i+1))
   ·simp only [z,xO,xA]
    rw [if_neg (by omega)];rw [dAt o1 rfl];exact ⟨_,_,rfl,j _ _ _,rfl⟩
   ·simp only [z,xQ,xB]
    rw [if_pos (by omega)];rw [cW (by omega) (by omega),sub_eq];simp only [dA,yA];rw [dAt o1 rfl];refine ⟨_,_,rfl,j _ _ _,?_⟩;show _=_
    grind
end
end Qp
namespace Qp
def two:List Bs:=[[58,58],[45,62],[61,61]]
def fB5:Bs:=[40,41,123,125,60,62,44,59,58,46,42,38,43,45,61,33]
def gAv (c:UInt8):Bs->Bool
 | []=>false
 | x::r=>bif Nat.beq x.toNat c.toNat then true else gAv c r
def gQ (t:Bs):List Bs->Option Bs
 | []=>none
 | p::r=>bif lA7 p t then some p else gQ t r
def jI (t:Bs):Option (Int×Bs×Nat):=match gQ t two with
 | some p=>some (5,p,2)
 | none=>match t with
  | []=>none
  | c::_=>if gAv c fB5=true then some (5,[c],1) else none
def gY {t:Bs}:∀ {l:List Bs} {p:Bs},gQ t l=some p->p∈l/\lA7 p t=true
 | [],p,h=>by cases h
 | q::r,p,h=>by
  simp only [gQ] at h
  cases f:lA7 q t with
  | true=>grind
  | false=>
   rw [f] at h;simp only [xB] at h;have ⟨j,u⟩:=gY h
   grind
theorem rBb:∀ p∈two,p.length=2:=by decide
def bAy {t p:Bs} (h:gQ t two=some p):p=t.take 2/\2<=t.length:=by
 have ⟨r,f⟩:=gY h;have ⟨j,u⟩:=cAh f
 grind [rBb]
def cAy (c:UInt8):∀ (l:Bs) (k:Nat),ltInt (Qa.lAp c l k) 0 = !gAv c l
 | [],k=>rfl
 | x::r,k=>by
  simp only [Qa.lAp,gAv]
  cases Nat.beq x.toNat c.toNat with
  | true=>simp only [xA,xV];rw [ltI];simp
  | false=>simp only [xB];exact cAy c r (k+1)
section
variable {N:Nat} {s:Bs}
def dAy (w:s.length<=3000000) {i A B:Nat} (hi:i<=s.length) {H:Heap} {l:List Bs} (u:H.is B (l.map AV.str)) (F:l.length<=1000) (h:H.own A (tkc 0 [] 0)):∀ (M j:Nat),j<=l.length->l.length-j<M->
  uAb N M s (i:Int) (some (A,0)) 0 ⟨some (B,0),l.length,l.length,1⟩ (Int.ofNat l.length) (j:Int) H=match gQ (s.drop i) (l.drop j) with
   | some p=>some (.ret,(s,(i:Int),some (A,0),((i+2:Nat):Int),()),H.put A (.row (tkc 5 p (i:Int)) .own))
   | none=>some (.exit 0,(s,(i:Int),some (A,0),0,()),H):=by
 intro M
 induction M with
 | zero=>omega
 | succ M C=>
  intro j y J;rw [yAg];unfold tA4;simp only [wA4]
  by_cases q:j<l.length
  ·simp only [q,xO,xA]
   rw [show ((j:Nat):Int)=Int.ofNat j from rfl,lB8 _ _ _ _ _ q];simp only [xC,Nat.mul_one];have f:=u.cell j;rw [List.drop_eq_getElem_cons (by grind)] at f;simp only [List.head?_cons,List.getElem_map] at f;rw [f];simp only [dA,yA];rw [eY hi];simp only [dA,yA,rAx,aA];rw [List.drop_eq_getElem_cons q];simp only [gQ]
   cases I:lA7 l[j] (s.drop i) with
   | true=>
    simp only [xA,fA];have r:fB .i64 ((i:Int)+2)=((i+2:Nat):Int):=by grind [wG]
    rw [r,show H.store (A,0) [yI0 5,.str l[j],yI0 (i:Int)]=some (H.put A (.row (tkc 5 l[j] (i:Int)) .own)) from h.store rfl];rfl
   | false=>
    simp only [xB];rw [show Int.ofNat j=(j:Int) from rfl,iB (by omega)]
    grind
  ·simp only [q,xQ,xB]
   rw [show l.drop j=[] from List.drop_of_length_le (by omega)];rfl
def aAc (C:s.length<=3000000) (O:s.length<N) (H:20<=N) {i:Nat} (hi:i<s.length) (h:Heap):∃ r h',f145 N s (i:Int) h=some (r,h')/\Chg [] h h'/\qB8 i r (jI (s.drop i)):=by
 unfold f145;have o1:=wA h (tkc 0 [] 0);have c1:=uA h (.row (tkc 0 [] 0) .own);have I:h.push (.row yZE .own)=h.push (.row (tkc 0 [] 0) .own):=rfl;rw [I];generalize h.push (.row (tkc 0 [] 0) .own)=f at *;have o2:=Heap.is_push f (two.map AV.str);have y:=uA f (.row (two.map AV.str) .own);have j:=o1.chg y;have L:f.push (.row [(.str [58,58]),(.str [45,62]),(.str [61,61])] .own)=f.push (.row (two.map AV.str) .own):=rfl;dsimp only;rw [L];have Q:(f.push (.row (two.map AV.str) .own)).next=f.next+1:=rfl;generalize f.push (.row (two.map AV.str) .own)=F at *;have A:=dAy (N:=N) C (Nat.le_of_lt hi) o2 (by decide) j N 0 (xc _) (by show 3-0<N;omega);rw [show ((0:Nat):Int)=0 from rfl,show (⟨some (f.next,0),two.length,two.length,1⟩:SL)=⟨some (f.next,0),3,3,1⟩ from rfl,show Int.ofNat two.length=Int.ofNat 3 from rfl,List.drop_zero] at A;rw [A];have K:=c1.trans y;have u:∀ k x a,Chg [] h (F.put h.next (.row (tkc k x a) .own)):=fun k x a=>K.put (.inr (xD _)) _;unfold jI
 cases M:gQ (s.drop i) two with
 | some p=>
  simp only [mB,eA4,xB,fA];rw [rL (kB j _)];exact ⟨_,_,rfl,u _ _ _,rfl⟩
 | none=>
  simp only [mB,vF,xO,xA];rw [dJ hi,tAx,aA];have J:((s[i]).toNat:Int).toNat.toUInt8=s[i]:=by simp
  rw [J];rw [drop_cons hi];have B:=cAy s[i] fB5 0;unfold fB5 at B;rw [B];dsimp only
  cases w:gAv s[i] [40,41,123,125,60,62,44,59,58,46,42,38,43,45,61,33] with
  | false=>
   simp only [Bool.not_false,xA,fA];rw [dAt j rfl];refine ⟨_,_,rfl,u _ _ _,?_⟩;simp only [fB5,w,xE,xL];rfl
  | true=>
   simp only [xV,xB,fA];rw [iB (by omega),cW (by omega) (by omega),sub_eq];simp only [dA,yA];rw [dAt j rfl];refine ⟨_,_,rfl,u _ _ _,?_⟩;simp only [fB5,w,xM];show _=_
   grind [drop_cons]
def uZ {t:Bs} {k:Int} {x:Bs} {n:Nat} (h:jI t=some (k,x,n)):k=5/\x=t.take n/\1<=n/\n<=t.length:=by
 unfold jI at h
 cases f:gQ t two with
 | some p=>
  rw [f] at h;simp only [xF,xI] at h;obtain ⟨rfl,rfl,rfl⟩:=h;have ⟨j,r⟩:=bAy f
  grind
 | none=>
  grind
end
end Qp
namespace Qp
def yA4 (a b:Nat):cD (a:Int) (b:Int)=decide (a<=b):=by
 grind [leI]
def eU (t:Bs):Option (Int×Bs×Nat):=let n:=runN t;let x:=t.take n;if isWord x=true then some (2,x,n) else if n<=32 then some (1,x,n) else none
def eA9 (t:Bs):Option (Int×Bs×Nat):=let n:=runN t;let x:=t.take n;if fY x=true then some (4,x,n) else none
def iY (t:Bs):Option (Int×Bs×Nat):=let n:=runN t;if oN uC t=true then (if n<=32 then some (3,t.take n,n+1) else none) else none
def iD:Bs->Option (Int×Bs×Nat)
 | []=>none
 | c::r=>if uC c=true then eU (c::r) else if mD c=true then eA9 (c::r) else if c.toNat=39 then iY r else jI (c::r)
section
variable {N:Nat} {s:Bs}
def eBk (J:s.length<=3000000) (L:s.length<N) (Q:20<=N) {i:Nat} (hi:i<s.length) (h:Heap):∃ r h',f91 N s (i:Int) h=some (r,h')/\Chg [] h h'/\qB8 i r (iD (s.drop i)):=by
 unfold f91;have o1:=wA h (tkc 0 [] 0);have c1:=uA h (.row (tkc 0 [] 0) .own);have e1:h.push (.row yZE .own)=h.push (.row (tkc 0 [] 0) .own):=rfl;rw [e1];generalize h.push (.row (tkc 0 [] 0) .own)=K at *;dsimp only;rw [dJ hi];have w:cD 97 ((s[i]).toNat:Int)=decide (97<=(s[i]).toNat):=yA4 97 _;have j:cD ((s[i]).toNat:Int) 122=decide ((s[i]).toNat<=122):=yA4 _ 122;have y:cD 65 ((s[i]).toNat:Int)=decide (65<=(s[i]).toNat):=yA4 65 _;have A:cD ((s[i]).toNat:Int) 90=decide ((s[i]).toNat<=90):=yA4 _ 90;have H:cD 49 ((s[i]).toNat:Int)=decide (49<=(s[i]).toNat):=yA4 49 _;have C:cD ((s[i]).toNat:Int) 57=decide ((s[i]).toNat<=57):=yA4 _ 57;have B:pA ((s[i]).toNat:Int) 95=decide ((s[i]).toNat=95):=dU _ 95;have F:pA ((s[i]).toNat:Int) 48=decide ((s[i]).toNat=48):=dU _ 48;have I:pA ((s[i]).toNat:Int) 39=decide ((s[i]).toNat=39):=dU _ 39;have Y:uC s[i]=true->iD (s.drop i)=eU (s.drop i):=fun q=>by rw [drop_cons hi];simp only [iD,q,xM]
 have nD:uC s[i]=false->mD s[i]=true->iD (s.drop i)=eA9 (s.drop i):=fun q U=>by grind [drop_cons,iD]
 have nF:uC s[i]=false->mD s[i]=false->(s[i]).toNat=39->iD (s.drop i)=iY (s.drop (i+1)):=fun q U M=>by grind [drop_cons,iD]
 have nS:uC s[i]=false->mD s[i]=false->(s[i]).toNat≠39->iD (s.drop i)=jI (s.drop i):=fun q U M=>by grind [drop_cons,iD]
 unfold eU at Y;unfold eA9 at nD;unfold iY at nF
 by_cases O:97<=(s[i]).toNat
 ·by_cases U:(s[i]).toNat<=122
  ·simp only [w,j,xO,xA,fA,dB,rB,O,U]
   have ⟨r,p,e,u,t⟩:=gAl J L (Nat.le_of_lt hi) K;have o2:=o1.chg u;have f:p.store (h.next,0) (yRI r.1)=some (p.put h.next (.row (tkc r.1.1 r.1.2.1 r.1.2.2.1) .own)):=o2.store rfl;simp only [e,aA,fA,f,dB,rB];rw [rL (kB o2 _)];refine ⟨_,_,rfl,(c1.trans u).put (.inr (xD _)) _,?_⟩;show qB8 i r _;rw [Y (by first | (unfold uC;simp only [Bool.or_eq_true,xU];omega))];exact t
  ·have z3:65<=(s[i]).toNat:=by omega
   have z4:¬ (s[i]).toNat<=90:=by omega
   have S:¬ (s[i]).toNat=95:=by omega
   have Z:¬ (s[i]).toNat=48:=by omega
   have z7:49<=(s[i]).toNat:=by omega
   have z8:¬ (s[i]).toNat<=57:=by omega
   have R:¬ (s[i]).toNat=39:=by omega
   have W:=R;have nl:uC s[i]=false:=by grind [uC,Bool.or_eq_false_iff,xd]
   have nd:mD s[i]=false:=by grind [mD,xd]
   simp only [w,j,y,A,B,F,H,C,I,xO,xQ,xA,xB,fA,dB,rB,aA,O,U,z3,z4,S,Z,z7,z8,R];have ⟨r,p,e,u,t⟩:=aAc J L Q hi K;have o2:=o1.chg u;have f:p.store (h.next,0) (yRI r.1)=some (p.put h.next (.row (tkc r.1.1 r.1.2.1 r.1.2.2.1) .own)):=o2.store rfl;simp only [e,aA,fA,f];rw [rL (kB o2 _)];refine ⟨_,_,rfl,(c1.trans u).put (.inr (xD _)) _,?_⟩
   grind
 ·by_cases M:65<=(s[i]).toNat
  ·by_cases q4:(s[i]).toNat<=90
   ·simp only [w,j,y,A,B,xO,xQ,xA,xB,fA,dB,rB,aA,O,M,q4]
    have ⟨r,p,e,u,t⟩:=gAl J L (Nat.le_of_lt hi) K;have o2:=o1.chg u;have f:p.store (h.next,0) (yRI r.1)=some (p.put h.next (.row (tkc r.1.1 r.1.2.1 r.1.2.2.1) .own)):=o2.store rfl;simp only [e,aA,fA,f,dB,rB];rw [rL (kB o2 _)];refine ⟨_,_,rfl,(c1.trans u).put (.inr (xD _)) _,?_⟩;show qB8 i r _;rw [Y (by first | (unfold uC;simp only [Bool.or_eq_true,xU];omega))];exact t
   ·by_cases q5:(s[i]).toNat=95
    ·have a0:decide (95=95)=true:=rfl
     simp only [w,j,y,A,B,xO,xQ,xA,xB,fA,dB,rB,aA,O,M,q4,decide_eq_true q5];have ⟨r,p,e,u,t⟩:=gAl J L (Nat.le_of_lt hi) K;have o2:=o1.chg u;have f:p.store (h.next,0) (yRI r.1)=some (p.put h.next (.row (tkc r.1.1 r.1.2.1 r.1.2.2.1) .own)):=o2.store rfl;simp only [e,aA,fA,f,dB,rB];rw [rL (kB o2 _)];refine ⟨_,_,rfl,(c1.trans u).put (.inr (xD _)) _,?_⟩;show qB8 i r _;rw [Y (by first | (unfold uC;simp only [Bool.or_eq_true,xU];omega))];exact t
    ·have Z:¬ (s[i]).toNat=48:=by omega
     have z7:49<=(s[i]).toNat:=by omega
     have z8:¬ (s[i]).toNat<=57:=by omega
     have R:¬ (s[i]).toNat=39:=by omega
     have W:=R;have nl:uC s[i]=false:=by grind [uC,Bool.or_eq_false_iff,xd]
     have nd:mD s[i]=false:=by grind [mD,xd]
     simp only [w,j,y,A,B,F,H,C,I,xO,xQ,xA,xB,fA,dB,rB,aA,O,M,q4,q5,Z,z7,z8,R];have ⟨r,p,e,u,t⟩:=aAc J L Q hi K;have o2:=o1.chg u;have f:p.store (h.next,0) (yRI r.1)=some (p.put h.next (.row (tkc r.1.1 r.1.2.1 r.1.2.2.1) .own)):=o2.store rfl;simp only [e,aA,fA,f];rw [rL (kB o2 _)];refine ⟨_,_,rfl,(c1.trans u).put (.inr (xD _)) _,?_⟩
     grind
  ·have S:¬ (s[i]).toNat=95:=by omega
   have nl:uC s[i]=false:=by grind [uC,Bool.or_eq_false_iff,xd]
   by_cases V:(s[i]).toNat=48
   ·have dD:mD s[i]=true:=by unfold mD;grind
    simp only [w,j,y,A,B,F,H,C,xQ,xA,xB,fA,dB,rB,aA,O,M,S,decide_eq_true V];have ⟨r,p,e,u,t⟩:=aAy J L hi dD K;have o2:=o1.chg u;have f:p.store (h.next,0) (yRI r.1)=some (p.put h.next (.row (tkc r.1.1 r.1.2.1 r.1.2.2.1) .own)):=o2.store rfl;simp only [e,aA,fA,f,dB,rB];rw [rL (kB o2 _)];refine ⟨_,_,rfl,(c1.trans u).put (.inr (xD _)) _,?_⟩
    grind
   ·by_cases X:49<=(s[i]).toNat
    ·by_cases q8:(s[i]).toNat<=57
     ·have dD:mD s[i]=true:=by unfold mD;grind
      simp only [w,j,y,A,B,F,H,C,xO,xQ,xA,xB,fA,dB,rB,aA,O,M,S,V,X,q8];have ⟨r,p,e,u,t⟩:=aAy J L hi dD K;have o2:=o1.chg u;have f:p.store (h.next,0) (yRI r.1)=some (p.put h.next (.row (tkc r.1.1 r.1.2.1 r.1.2.2.1) .own)):=o2.store rfl;simp only [e,aA,fA,f,dB,rB];rw [rL (kB o2 _)];refine ⟨_,_,rfl,(c1.trans u).put (.inr (xD _)) _,?_⟩
      grind
     ·have R:¬ (s[i]).toNat=39:=by omega
      have W:=R;have nd:mD s[i]=false:=by grind [mD,xd]
      simp only [w,j,y,A,B,F,H,C,I,xO,xQ,xA,xB,fA,dB,rB,aA,O,M,S,V,X,q8,R];have ⟨r,p,e,u,t⟩:=aAc J L Q hi K;have o2:=o1.chg u;have f:p.store (h.next,0) (yRI r.1)=some (p.put h.next (.row (tkc r.1.1 r.1.2.1 r.1.2.2.1) .own)):=o2.store rfl;simp only [e,aA,fA,f];rw [rL (kB o2 _)];refine ⟨_,_,rfl,(c1.trans u).put (.inr (xD _)) _,?_⟩
      grind
    ·have nd:mD s[i]=false:=by grind [mD,xd]
     by_cases W:(s[i]).toNat=39
     ·simp only [w,j,y,A,B,F,H,C,I,xQ,xA,xB,fA,dB,rB,aA,O,M,S,V,X,decide_eq_true W]
      have ⟨r,p,e,u,t⟩:=qBb J L hi K;have o2:=o1.chg u;have f:p.store (h.next,0) (yRI r.1)=some (p.put h.next (.row (tkc r.1.1 r.1.2.1 r.1.2.2.1) .own)):=o2.store rfl;simp only [e,aA,fA,f,dB,rB];rw [rL (kB o2 _)];refine ⟨_,_,rfl,(c1.trans u).put (.inr (xD _)) _,?_⟩
      grind
     ·simp only [w,j,y,A,B,F,H,C,I,xQ,xB,fA,dB,rB,aA,O,M,S,V,X,W]
      have ⟨r,p,e,u,t⟩:=aAc J L Q hi K;have o2:=o1.chg u;have f:p.store (h.next,0) (yRI r.1)=some (p.put h.next (.row (tkc r.1.1 r.1.2.1 r.1.2.2.1) .own)):=o2.store rfl;simp only [e,aA,fA,f];rw [rL (kB o2 _)];refine ⟨_,_,rfl,(c1.trans u).put (.inr (xD _)) _,?_⟩
      grind
end
end Qp
namespace Qp
abbrev Tok:=Int×Bs×Nat
def pAj (q:Tok):D:=.t [.i q.1,.s q.2.1,.i (q.2.2:Int)]
def fBk (h:Heap) (V:Nat->Prop) (q:Tok):Dt h V (pAj q) (tkc q.1 q.2.1 (q.2.2:Int)):=by
 simp only [pAj,tkc,Dt,Dp]
 grind
theorem iAl {h:Heap} {V:Nat->Prop} {q:Tok} {cs:List AV} (x:Dt h V (pAj q) cs):cs=tkc q.1 q.2.1 (q.2.2:Int):=by
 simp only [pAj,Dt,Dp] at x;obtain ⟨a,b,rfl,rfl,f,p,rfl,rfl,j,r,rfl,rfl,rfl⟩:=x;rfl
def yBs:AppN E 57 61 3 100:=AppN.of (by kernel_rfl)
def fA9 {h0 H:Heap} {v:SL} {xs:List Tok} (c:Chg [] h0 H) (x:Ow h0.next H v 3 (xs.map pAj)) (r:xs.length<=2000000) (k:Int) (t:Bs) (a:Nat) :
  ∃ j h,(∀ {β:Type} (K:SL->Heap->Option β),tD (.val zJ3) (nB E 57 57 (yL v) (.slice (some (H.next,0)) 1 1 3) (H.push (.row [(yI0 k),(.str t),(yI0 (a:Int))] .own))) K=K j h)/\Ow h0.next h j 3 ((xs++[(k,t,a)]).map pAj)/\Chg [] h0 h:=by
 have ⟨f,h',e,o,p,_⟩:=mA4 (cs:=tkc k t (a:Int)) yBs (by decide) x (fBk H _ (k,t,a)) rfl c.next (by grind);refine ⟨f,h',fun K=>?_,?_,c.step p fun A u r=>?_⟩
 ·have e':nB E 57 57 (yL v) (.slice (some (H.next,0)) 1 1 3) (H.push (.row [(yI0 k),(.str t),(yI0 (a:Int))] .own))=some (.slice f.a f.len f.cap f.sz,h'):=e
  rw [e'];simp only [rF,qA]
 ·grind
 ·have:=x.ge A (by grind);omega
def aA5 (h:Heap) (v:AV) (c a:Int):Prop:=∃ A,v=AV.iface 127 (.ptr (some (A,0)))/\h.own A [yI0 c,yI0 a,AV.iface 78 (yI0 c)]
def eAy (N:Nat) {c:Int} (f:c≠0) (a:Int) (h:Heap):∃ v h',f37 N c a h=some (v,h')/\Chg [] h h'/\aA5 h' v c a:=by
 unfold f37
 have:pA c 0=false:=by grind [eqI]
 simp only [this,xB];exact ⟨_,_,rfl,uA _ _,h.next,rfl,wA h _⟩
def iQ {t:Bs} {k:Int} {x:Bs} {n:Nat} (h:iD t=some (k,x,n)):1<=n/\n<=t.length:=by
 cases t with
 | nil=>cases h
 | cons c r=>
  have f:uC c=true\/mD c=true->1<=runN (c::r)/\runN (c::r)<=(c::r).length:=fun q=>by
   refine ⟨?_,cU _⟩
   have:wJ c=true:=by grind [wJ]
   simp only [runN,this,xM];omega
  simp only [iD] at h
  split at h
  ·rename_i q
   have:=f (.inl q)
   simp only [eU] at h
   grind
  ·split at h
   ·rename_i _ q
    have:=f (.inr q)
    simp only [eA9] at h
    grind
   ·split at h
    ·have:=cU r
     simp only [iY] at h
     grind
    ·have:=uZ h;omega
def dAh:Nat->Bs->Nat->List Tok ⊕ Nat
 | 0,_,a=>.inr a
 | M+1,t,a=>match t with
  | []=>.inl []
  | c::r=>match iD (c::r) with
   | none=>.inr a
   | some (k,x,n)=>match dAh M ((c::r).drop (n+jD false ((c::r).drop n))) (a+(n+jD false ((c::r).drop n))) with
    | .inl l=>.inl ((k,x,a)::l)
    | .inr e=>.inr e
def fAy (M:Nat) (s:Bs) (i:Nat) (hi:i<s.length):dAh (M+1) (s.drop i) i=match iD (s.drop i) with
  | none=>.inr i
  | some (k,x,n)=>match dAh M (s.drop (i+(n+jD false (s.drop (i+n))))) (i+(n+jD false (s.drop (i+n)))) with
   | .inl l=>.inl ((k,x,i)::l)
   | .inr e=>.inr e:=by
 have e:∀ n,s.drop (i+n)=(s.drop i).drop n:=fun n=>by rw [List.drop_drop]
 simp only [e];rw [drop_cons hi];rfl
def gB5 (M:Nat) (s:Bs) (i:Nat) (hi:s.length<=i):dAh (M+1) (s.drop i) i=.inl []:=by
 rw [List.drop_of_length_le hi];rfl
section
variable {N:Nat} {s:Bs}
def iB5 (hs:s.length<=1048576) (J:s.length<N) (w:20<=N) {h0:Heap}:∀ (M i:Nat) (v:SL) (xs:List Tok) (H:Heap),i<=s.length->s.length-i<M->xs.length<=i->Chg [] h0 H->Ow h0.next H v 3 (xs.map pAj)->
  match dAh M (s.drop i) i with
  | .inl l=>∃ j h,aAh N M s ⟨none,0,0,0⟩ AV.nilIface v (i:Int) H=some (.exit 0,(s,⟨none,0,0,0⟩,AV.nilIface,j,()),h)/\Chg [] h0 h/\Ow h0.next h j 3 ((xs++l).map pAj)/\(xs++l).length<=s.length
  | .inr a=>∃ j v3 h,aAh N M s ⟨none,0,0,0⟩ AV.nilIface v (i:Int) H=some (.ret,(s,⟨none,0,0,0⟩,v3,j,()),h)/\Chg [] h0 h/\aA5 h v3 20 (a:Int):=by
 intro M
 induction M with
 | zero=>omega
 | succ M R=>
  intro i v xs H hi hM hx c o;rw [cAl];unfold vAb;simp only [wA4]
  by_cases q:i<s.length
  ·rw [fAy M s i q]
   simp only [q,xO,xA];have ⟨r,f,e,F,t⟩:=eBk (by omega) J w q H;rw [e,aA];have L:=c.trans F;have K:=wA f (tkc 0 [] 0);have Y:f.push (.row yZE .own)=f.push (.row (tkc 0 [] 0) .own):=rfl;have S:=L.push (.row (tkc 0 [] 0) .own);have C:h0.next<=f.next:=L.next;have A:(f.push (.row (tkc 0 [] 0) .own)).store (f.next,0) (yRI r.1)=some ((f.push (.row (tkc 0 [] 0) .own)).put f.next (.row (tkc r.1.1 r.1.2.1 r.1.2.2.1) .own)):=K.store rfl;rw [Y,A,fA];have O:=kB K (tkc r.1.1 r.1.2.1 r.1.2.2.1);have I:Chg [] h0 ((f.push (.row (tkc 0 [] 0) .own)).put f.next (.row (tkc r.1.1 r.1.2.1 r.1.2.2.1) .own)):=S.put (.inr C) _;have y:Chg [] f ((f.push (.row (tkc 0 [] 0) .own)).put f.next (.row (tkc r.1.1 r.1.2.1 r.1.2.2.1) .own)):=((Chg.refl [] f).push _).put (.inr (xD _)) _;have B:=F.trans y;generalize (f.push (.row (tkc 0 [] 0) .own)).put f.next (.row (tkc r.1.1 r.1.2.1 r.1.2.2.1) .own)=Z at *
   cases u:iD (s.drop i) with
   | none=>
    rw [u] at t;have z:pA r.2.1 0=true:=by rw [show r.2.1=0 from t];rfl
    simp only [z,xA];have ⟨vv,h6,V,c6,f6⟩:=eAy N (c:=20) (by decide) (i:Int) Z;rw [V,aA];exact ⟨_,_,_,rfl,I.trans c6,f6⟩
   | some p=>
    have ⟨k,x,n⟩:=p;rw [u] at t;have U:=iQ u;rw [List.length_drop] at U;have Q:r=((k,x,(i:Int),()),((i+n:Nat):Int),()):=t;have z:pA r.2.1 0=false:=by grind [eqI]
    simp only [z,xB];rw [rL O,Q];dsimp only;have ox:=o.chg B;have ⟨j,h,W,X,ca⟩:=fA9 I ox (by omega) k x i;rw [W,pB8 (by omega) J (by omega),aA];have hb:=eW (s.drop (i+n)) false;rw [List.length_drop] at hb
    have:=R (i+(n+jD false (s.drop (i+n)))) j (xs++[(k,x,i)]) h (by omega) (by omega) (by grind) ca X
    rw [show i+n+jD false (s.drop (i+n))=i+(n+jD false (s.drop (i+n))) by omega]
    cases hl:dAh M (s.drop (i+(n+jD false (s.drop (i+n))))) (i+(n+jD false (s.drop (i+n)))) with
    | inl l=>
     grind
    | inr a=>grind
  ·rw [gB5 M s i (by omega)]
   grind
def iAv (N:Nat) (s:Bs):List Tok ⊕ Nat:=match dAh N (s.drop (jD false s)) (jD false s) with
 | .inl l=>.inl (l++[(0,[],s.length)])
 | .inr a=>.inr a
def gBk (A:s.length<=1048576) (w:s.length<N) (p:20<=N) (h:Heap):∃ r h',f54 N s h=some (r,h')/\Chg [] h h'/\match iAv N s with
  | .inl l=>r.2.1=AV.nilIface/\Ow h.next h' r.1 3 (l.map pAj)/\l.length<=s.length+1
  | .inr a=>aA5 h' r.2.1 20 (a:Int):=by
 unfold f54 iAv;have z:ltInt 1048576 (Int.ofNat s.length)=false:=by grind [ltI,xd]
 simp only [z,xB];have u:=pB8 (by omega) w (xc _) h;rw [List.drop_zero,xC] at u;rw [show ((0:Nat):Int)=0 from rfl] at u;rw [u,aA];have I:=eW s false;have j:=iB5 A w p (h0:=h) N (jD false s) ⟨none,0,0,0⟩ [] h I (by omega) (by simp) (Chg.refl _ _) (Ow.nil _ _ _ _)
 cases y:dAh N (s.drop (jD false s)) (jD false s) with
 | inl l=>
  rw [y] at j;have ⟨H,C,e,c,o,B⟩:=j;rw [e];simp only [mB,vF,xO,xA];have ⟨v2,H2,F,J,K⟩:=fA9 c o (by omega) 0 [] s.length;rw [show Int.ofNat s.length=((s.length:Nat):Int) from rfl,F]
  grind
 | inr a=>
  rw [y] at j;have ⟨H,v3,C,e,c,f⟩:=j;rw [e];simp only [mB,eA4,xB]
  grind
end
end Qp
namespace Qp
def gAy:∀ (t:Bs) (v:Nat),v * 10 ^ t.length<=mS t v
 | [],v=>by simp [mS]
 | c::r,v=>by
  have:=gAy r (v * 10+(c.toNat-48))
  grind [mS,xJ,Nat.pow_succ,xT,Nat.mul_comm,Nat.mul_assoc,Nat.mul_le_mul_right]
theorem eAt {c:UInt8} {r:Bs} (j:10<(c::r).length):fY (c::r)=false:=by
 cases f:fY (c::r) with
 | false=>rfl
 | true=>
  exfalso
  simp only [fY,xG,Bool.not_eq_true',List.all_cons,oN,Nat.ble_eq,mS,Nat.zero_mul,xC,xJ,Bool.and_eq_false_imp,xU,xd] at f;have ⟨⟨⟨p,_⟩,y⟩,h⟩:=f;simp only [mD,xU] at p;simp only [xJ] at j;have w:=h (by omega)
  have:=gAy r (c.toNat-48)
  have u:(10:Nat) ^ 10<=10 ^ r.length:=Nat.pow_le_pow_right (by omega) (by omega);have A:1 * 10 ^ r.length<=(c.toNat-48) * 10 ^ r.length:=Nat.mul_le_mul_right _ (by omega);omega
def eAh:∀ t:Bs,runN (t.take (runN t))=runN t
 | []=>rfl
 | c::r=>by
  simp only [runN]
  by_cases q:wJ c=true
  ·simp only [q,xM,List.take_succ_cons,runN,eAh r]
  grind [runN]
def gA9 (t:Bs):yG (t.take (runN t))=(oN uC t&&decide (runN t<=32)):=by
 cases t with
 | nil=>rfl
 | cons c r=>
  have u:=cU (c::r);have j:((c::r).take (runN (c::r))).length=runN (c::r):=by grind
  unfold yG;rw [j,eAh]
  by_cases q:uC c=true
  ·have g:wJ c=true:=by simp [wJ,q]
   have p:1<=runN (c::r):=by simp [runN,g]
   have f:oN uC ((c::r).take (runN (c::r)))=true:=by
    simp only [runN,g,xM,List.take_succ_cons,oN];exact q
   rw [f];simp only [oN,q,p,xO,Bool.true_and,Bool.and_true]
  ·have h:uC c=false:=by grind
   have f:oN uC ((c::r).take (runN (c::r)))=false:=by
    by_cases g:wJ c=true
    ·simp only [runN,g,xM,List.take_succ_cons,oN];exact h
    grind [runN,oN]
   rw [f];simp only [oN,h,Bool.false_and,Bool.and_false]
section
variable {s:Bs} {i:Nat}
end
end Qp
namespace Qp
section
variable {N:Nat} {s:Bs}
end
end Qp
namespace Qp
def bA5 (x:Bs):Bool:=(match x with | [c]=>gAv c fB5 | _=>false)||bAh x two
structure TokOK (q:Tok):Prop where
 word:q.1=2->isWord q.2.1=true
 sign:q.1=5->bA5 q.2.1=true
 len:q.2.1.length<=3000000
 num:q.1=4->fY q.2.1=true/\0<q.2.1.length
 name:q.1=1->jE q.2.1=true
 life:q.1=3->yG q.2.1=true
structure Toks (T:List Tok):Prop where
 ok:∀ q∈T,TokOK q
 ends:∀ (i:Nat) (hi:i<T.length),(T[i]).1≠0->i+1<T.length
 len:T.length<=2000000
def tk (T:List Tok) (i:Nat):Tok:=T.getD i (0,[],0)
theorem jB5 {T:List Tok} {i:Nat} (hi:i<T.length):tk T i=T[i]:=by simp [tk,hi]
abbrev Er:=Option (Int×Int)
abbrev St:=Nat×Er
def oG (T:List Tok) (c:Int):St->St
 | (i,none)=>(i,some (c,((tk T i).2.2:Int)))
 | (i,some e)=>(i,some e)
def isS (T:List Tok) (w:Bs) (i:Nat):Bool:=decide ((tk T i).1=2\/(tk T i).1=5)&&bB (tk T i).2.1 w
def uB (T:List Tok) (w:Bs):St->Bool×St
 | (i,none)=>if isS T w i=true then (true,(i+1,none)) else (false,(i,none))
 | (i,some e)=>(false,(i,some e))
def kC (T:List Tok) (k:Int):St->Bs×St
 | (i,none)=>if (tk T i).1=k then ((tk T i).2.1,(i+1,none)) else ([],oG T 21 (i,none))
 | (i,some e)=>([],(i,some e))
def eD (T:List Tok) (w:Bs) (σ:St):St:=if (uB T w σ).1=true then (uB T w σ).2 else oG T 21 (uB T w σ).2
def rK (T:List Tok) (σ:St):Bs×St:=
 let a:=kC T 1 σ
 let b:=uB T [58,58] a.2
 if b.1=true then let c:=kC T 1 b.2;(a.1++[58,58]++c.1,c.2) else (a.1,b.2)
def ErrV (h:Heap) (P:Nat) (X:List Nat) (v:AV):Er->Prop
 | none=>v=AV.nilIface
 | some (c,a)=>∃ A,v=AV.iface 127 (.ptr (some (A,0)))/\(A≠P/\A ∉ X)/\h.own A [yI0 c,yI0 a,AV.iface 78 (yI0 c)]
structure PA (T:List Tok) (P:Nat) (X:List Nat) (h:Heap) (σ:St) (st:Int):Prop where
 ex:∃ s v,h.own P [SL.av s,.int .i64 (σ.1:Int),.int .i64 st,v]/\Sl h (fun C=>C<P) s (T.map pAj)/\(s.sz=3)/\ErrV h P X v σ.2
 lt:σ.1<T.length
 xl:∀ A∈X,P<A/\A<h.next
theorem ErrV.chg {h h':Heap} {P:Nat} {X:List Nat} {v:AV} {e:Er} {M:List Nat} (x:ErrV h P X v e) (c:Chg M h h') (u:∀ A∈M,A=P\/A∈X:=by simp):ErrV h' P X v e:=by
 cases e with
 | none=>exact x
 | some q=>
  have ⟨A,j,p,f⟩:=x;exact ⟨A,j,p,f.chg c fun r=>by grind⟩
section
variable {T:List Tok} {P:Nat} {X:List Nat} {h h':Heap} {σ:St} {st:Int}
def PA.P_lt (x:PA T P X h σ st):P<h.next:=by
 have ⟨⟨s,v,f,r,j,p⟩,w,u⟩:=x;exact f.2
def PA.chgM {M:List Nat} (x:PA T P X h σ st) (c:Chg M h h') (r:∀ A∈M,A∈X):PA T P X h' σ st:=by
 have ⟨⟨s,v,u,y,j,w⟩,C,B⟩:=x;refine ⟨⟨s,v,u.chg c (fun p=>by grind),y.chg c (fun A f p=>by grind),j,w.chg c fun A f=>.inr (r A f)⟩,C,fun A f=>?_⟩
 have:=B A f
 exact ⟨this.1,xW this.2 c.next⟩
theorem PA.chg (x:PA T P X h σ st) (c:Chg [] h h'):PA T P X h' σ st:=x.chgM c (by simp)
def PA.chg1 {A:Nat} (x:PA T P X h σ st) (c:Chg [A] h h') (f:A∈X):PA T P X h' σ st:=x.chgM c (by grind)
def PA.free {i:Nat} (x:PA T P X h (i,none) st) {X':List Nat} (j:∀ A∈X',P<A/\A<h.next):PA T P X' h (i,none) st:=by
 have ⟨⟨s,v,p,r,f,u⟩,w,y⟩:=x;exact ⟨⟨s,v,p,r,f,u⟩,w,j⟩
def PA.sub (x:PA T P X h σ st) {X':List Nat} (j:∀ A∈X',A∈X):PA T P X' h σ st:=by
 have ⟨⟨s,v,B,u,I,p⟩,F,C⟩:=x;refine ⟨⟨s,v,B,u,I,?_⟩,F,fun A w=>C A (j A w)⟩;have ⟨i,e⟩:=σ
 cases e with
 | none=>exact p
 | some q=>have ⟨A,H,f,y⟩:=p;exact ⟨A,H,⟨f.1,fun r=>f.2 (j A r)⟩,y⟩
theorem PA.add (x:PA T P X h σ st) (c:Chg [] h h') {A:Nat} (Q:h.next<=A) (K:A<h'.next):PA T P (A::X) h' σ st:=by
 have hP:=x.P_lt;have ⟨⟨s,v,U,J,M,S⟩,y,R⟩:=x.chg c;have ⟨⟨I,H,w,r,u,p⟩,O,V⟩:=x;refine ⟨⟨I,H,w.chg c,r.chg c,u,?_⟩,y,fun C L=>?_⟩
 ·have ⟨i,e⟩:=σ
  cases e with
  | none=>exact p
  | some q=>
   have ⟨C,F,B,f⟩:=p;refine ⟨C,F,⟨B.1,fun j=>?_⟩,f.chg c⟩;rcases List.mem_cons.1 j with rfl | j
   ·have:=f.2;omega
   grind
 grind
end
def iBk (N:Nat) {c:Int} (f:c≠0) (a:Int) (h:Heap):∃ h',f37 N c a h=some (AV.iface 127 (.ptr (some (h.next,0))),h')/\Chg [] h h'/\h'.own h.next [yI0 c,yI0 a,AV.iface 78 (yI0 c)]:=by
 unfold f37
 have:pA c 0=false:=by grind [eqI]
 simp only [this,xB];exact ⟨_,rfl,uA _ _,wA h _⟩
def eq_nil (k:Nat):tM E .eql 29 (.tmp k) (.const .nilIface) AV.nilIface AV.nilIface=some (.bool true):=by kernel_rfl
theorem aA2 (k:Nat) (v:AV):tM E .eql 29 (.tmp k) (.const .nilIface) (AV.iface 127 v) AV.nilIface=some (.bool false):=by kernel_rfl
def ne_nil (k:Nat):tM E .neq 29 (.tmp k) (.const .nilIface) AV.nilIface AV.nilIface=some (.bool false):=by kernel_rfl
theorem fW (k:Nat) (v:AV):tM E .neq 29 (.tmp k) (.const .nilIface) (AV.iface 127 v) AV.nilIface=some (.bool true):=by kernel_rfl
def ErrV.eq {h:Heap} {P:Nat} {X:List Nat} {v:AV} {e:Er} (x:ErrV h P X v e) (k:Nat):tM E .eql 29 (.tmp k) (.const .nilIface) v AV.nilIface=some (.bool e.isNone):=by
 cases e with
 | none=>rw [show v=AV.nilIface from x];exact eq_nil k
 | some q=>have ⟨A,f,_⟩:=x;grind [aA2]
def ErrV.ne {h:Heap} {P:Nat} {X:List Nat} {v:AV} {e:Er} (x:ErrV h P X v e) (k:Nat):tM E .neq 29 (.tmp k) (.const .nilIface) v AV.nilIface=some (.bool e.isSome):=by
 cases e with
 | none=>rw [show v=AV.nilIface from x];exact ne_nil k
 | some q=>have ⟨A,f,_⟩:=x;grind [fW]
def bAc {h:Heap} {V:Nat->Prop} {s:SL} {T:List Tok} (f:Sl h V s (T.map pAj)) (j:s.sz=3) {i:Nat} (hi:i<T.length):h.cells (s.at i 3) 3=some (.agg (tkc (tk T i).1 (tk T i).2.1 ((tk T i).2.2:Int)))/\s.a.isSome=true/\i<s.len:=by
 have ⟨cs,e⟩:=f.elt (i:=i) (by grind);rw [j] at e;have hd:=e.dt;rw [List.getElem_map] at hd;rw [jB5 hi,e.whole,iAl hd];exact ⟨rfl,f.isSome (by grind),by rw [f.len,xS];exact hi⟩
def kBv {β:Type} (k:Int) (x:Bs) (a:Int) (K:zB1->Option β):iA (.val zK) (some (.agg (tkc k x a))) K=K (k,x,a,()):=by
 simp [tkc]
abbrev TT:=Int×zO3×Int×Unit
def fAt (q:Tok):TT:=(q.1,q.2.1,(q.2.2:Int),())
section
variable {N:Nat} {T:List Tok} {P:Nat} {X:List Nat} {h:Heap} {σ:St} {st:Int}
def jQ (x:PA T P X h σ st):∃ h',f56 N (some (P,0)) h=some (fAt (tk T σ.1),h')/\Chg [] h h':=by
 have ⟨⟨s,v,w,p,C,F⟩,B,H⟩:=x;unfold f56;have o1:=wA h (tkc 0 [] 0);have c1:=uA h (.row (tkc 0 [] 0) .own);have r:h.push (.row yZE .own)=h.push (.row (tkc 0 [] 0) .own):=rfl;rw [r];generalize h.push (.row (tkc 0 [] 0) .own)=f at *;dsimp only;have j:=w.chg c1;have A:f.cell (P,0)=some (SL.av s):=j.cell 0;have y:f.cell (P,1)=some (yI0 (σ.1:Int)):=j.cell 1;have ⟨d1,d2,u⟩:=bAc (p.chg c1) C B;simp only [fA,xX,xC,A,y,dA,SL.av,qA,qB];rw [iA4 d2 u,d1,kBv];rw [dAt o1 rfl];exact ⟨_,rfl,c1.put (.inr (xD _)) _⟩
def PA.setErr {i:Nat} {c a:Int} (x:PA T P X h (i,none) st) {A:Nat} (w:A≠P/\A ∉ X) (B:h.own A [yI0 c,yI0 a,AV.iface 78 (yI0 c)]):∃ h',h.store (P,3) [AV.iface 127 (.ptr (some (A,0)))]=some h'/\Chg [P] h h'/\PA T P X h' (i,some (c,a)) st:=by
 have ⟨⟨s,F,f,u,p,C⟩,r,y⟩:=x;exact ⟨_,f.store1 (j:=3) (by grind) _,f.put _,⟨s,_,kB f _,u.chg (f.put _) (by grind),p,A,rfl,w,B.chg (f.put _) (by grind)⟩,r,y⟩
def PA.setI {i:Nat} (x:PA T P X h (i,none) st) {j:Nat} (r:j<T.length):∃ h',h.store (P,1) [yI0 (j:Int)]=some h'/\Chg [P] h h'/\PA T P X h' (j,none) st:=by
 have ⟨⟨s,A,f,u,p,w⟩,B,y⟩:=x;exact ⟨_,f.store1 (j:=1) (by grind) (yI0 (j:Int)),f.put _,⟨s,A,kB f _,u.chg (f.put _) (by grind),p,w⟩,r,y⟩
def PA.readI (x:PA T P X h σ st):h.cell (P,1)=some (yI0 (σ.1:Int)):=by
 have ⟨⟨s,y,f,u,j,r⟩,p,w⟩:=x;exact f.cell 1
def PA.readE (x:PA T P X h σ st):∃ v,h.cell (P,3)=some v/\ErrV h P X v σ.2:=by
 have ⟨⟨s,p,f,w,r,j⟩,u,y⟩:=x;exact ⟨p,f.cell 3,j⟩
def iA9 (x:PA T P X h σ st) {c:Int} (H:c≠0):∃ h',f57 N (some (P,0)) c h=some ((),h')/\Chg [P] h h'/\PA T P X h' (oG T c σ) st:=by
 unfold f57;have ⟨v,r,y⟩:=x.readE;simp only [fA,xC,r,dA,pF,y.eq 7,aC];have ⟨i,e⟩:=σ
 cases e with
 | some q=>exact ⟨_,rfl,Chg.refl _ _,x⟩
 | none=>
  simp only [Option.isNone_none,xA];have ⟨j,J,f⟩:=jQ (N:=N) x;rw [J,aA];have ⟨L,F,p,I⟩:=iBk N H ((tk T i).2.2:Int) j;simp only [fAt];rw [F,aA];have A:=(x.chg f).chg p;have ⟨K,w,B,C⟩:=PA.setErr A ⟨by have:=(x.chg f).P_lt;omega,fun u=>by have:=(x.chg f).xl _ u;omega⟩ I;rw [show AV.single (AV.iface 127 (.ptr (some (j.next,0))))=true from rfl,yB,w,fA];exact ⟨_,rfl,((f.trans p).mono (by simp)).trans B,C⟩
end
end Qp
namespace Qp
def jBk {T:List Tok} (f:Toks T) {i:Nat} (hi:i<T.length):TokOK (tk T i):=by rw [jB5 hi];exact f.ok _ (xR hi)
def iAy {T:List Tok} (f:Toks T) {i:Nat} (hi:i<T.length) (h0:(tk T i).1≠0):i+1<T.length:=f.ends i hi (by grind [jB5])
theorem eqB {a b:Bs}:bB a b=true↔a=b:=by rw [tH,beq_iff_eq]
def kB5 {T:List Tok} {w:Bs} {i:Nat} (ok:TokOK (tk T i)) (j:bA5 w=false):isS T w i=(decide ((tk T i).1=2)&&bB (tk T i).2.1 w):=by
 unfold isS
 by_cases h:(tk T i).1=2
 ·grind
 ·by_cases f:(tk T i).1=5
  ·have:bB (tk T i).2.1 w=false:=by
    cases e:bB (tk T i).2.1 w with
    | false=>rfl
    | true=>
     have:=ok.sign f
     grind [eqB]
   grind
  grind
def qAp {T:List Tok} {w:Bs} {i:Nat} (ok:TokOK (tk T i)) (h:isWord w=false):isS T w i=(decide ((tk T i).1=5)&&bB (tk T i).2.1 w):=by
 unfold isS
 by_cases j:(tk T i).1=5
 ·grind
 ·by_cases f:(tk T i).1=2
  ·have:bB (tk T i).2.1 w=false:=by
    cases e:bB (tk T i).2.1 w with
    | false=>rfl
    | true=>
     have:=ok.word f
     grind [eqB]
   grind
  grind
section
variable {N:Nat} {T:List Tok} {P:Nat} {X:List Nat} {h:Heap} {σ:St} {st:Int}
def rAp (h:Heap) (q:Tok):∃ h',(h.push (.row yZE .own)).store (h.next,0) [(yI0 (fAt q).1),(.str (fAt q).2.1),(yI0 (fAt q).2.2.1)]=some h'/\Chg [] h h'/\h'.own h.next (tkc q.1 q.2.1 (q.2.2:Int)):=by
 have o1:=wA h (tkc 0 [] 0);exact ⟨_,o1.store rfl,(uA h _).put (.inr (xD _)) _,kB o1 _⟩
def jAl (x:PA T P X h σ st) (k:Int) (w:Bs):∃ h',f146 N (some (P,0)) k w h=some (σ.2.isNone&&(decide ((tk T σ.1).1=k)&&bB (tk T σ.1).2.1 w),h')/\Chg [] h h':=by
 unfold f146;have ⟨f,H,y⟩:=jQ (N:=N) x;rw [H,aA];have ⟨j,u,C,p⟩:=rAp f (tk T σ.1);dsimp only;rw [u,fA];have A:=y.trans C;have ⟨v,r,B⟩:=(x.chg A).readE;simp only [fA,xC,r,dA,pF,B.eq 13,aC]
 cases σ.2.isNone with
 | false=>grind
 | true=>
  simp only [xA,Bool.true_and];have r0:j.cell (f.next,0)=some (yI0 (tk T σ.1).1):=p.cell 0;have F:j.cell (f.next,1)=some (.str (tk T σ.1).2.1):=p.cell 1;simp only [r0,F,dA,qB,yA,eqI]
  grind
def tBb {i:Nat} (f:Toks T) (hi:i<T.length):fB .i64 ((i:Int)+1)=((i+1:Nat):Int):=iB (by have:=f.len;omega)
def tAp (y:Toks T) (x:PA T P X h σ st) {w:Bs} {b:Bool} {f:Heap} (j:Chg [] h f) (I:b=(σ.2.isNone&&isS T w σ.1)) :
  ∃ h',(let L:Bool:=!b
   (bif L then
    some (false,f)
    else
    (vA (some (P,0)) fun A=>
    (iA (.val zM3) (f.cell (A.1,A.2+1)) fun (K:Int)=>
    let C:Int:=fB .i64 (K+1)
    (vA (some (P,0)) fun u=>
    (vA (f.store (u.1,u.2+1) [(yI0 C)]) fun r=>
    some (true,r)))))))=some ((uB T w σ).1,h')/\Chg [P] h h'/\PA T P X h' (uB T w σ).2 st:=by
 have p:=x.chg j;have ⟨i,e⟩:=σ;subst I
 cases e with
 | some q=>exact ⟨_,rfl,j.mono (by simp),p⟩
 | none=>
  simp only [Option.isNone_none,Bool.true_and,uB]
  cases M:isS T w i with
  | false=>simp only [Bool.not_false,xA,xE,xL];exact ⟨_,rfl,j.mono (by simp),p⟩
  | true=>
   simp only [xV,xB,xM,fA,xC,p.readI,dA,qB];have h0:(tk T i).1≠0:=by
    grind [isS]
   have F:=iAy y x.lt h0;rw [tBb y x.lt];have ⟨r,J,B,H⟩:=PA.setI p F;rw [J,fA];exact ⟨_,rfl,(j.mono (by simp)).trans B,H⟩
def uAp (f:Toks T) (x:PA T P X h σ st) {w:Bs} (j:bA5 w=false):∃ h',f92 N (some (P,0)) w h=some ((uB T w σ).1,h')/\Chg [P] h h'/\PA T P X h' (uB T w σ).2 st:=by
 unfold f92;have ⟨u,r,p⟩:=jAl (N:=N) x 2 w;rw [r,aA];exact tAp f x p (by rw [kB5 (jBk f x.lt) j])
def jA9 (f:Toks T) (x:PA T P X h σ st) {w:Bs} (j:isWord w=false):∃ h',f93 N (some (P,0)) w h=some ((uB T w σ).1,h')/\Chg [P] h h'/\PA T P X h' (uB T w σ).2 st:=by
 unfold f93;have ⟨u,r,p⟩:=jAl (N:=N) x 5 w;rw [r,aA];exact tAp f x p (by rw [qAp (jBk f x.lt) j])
def fAh (A:Toks T) (x:PA T P X h σ st) {k:Int} (V:k≠0):∃ h',f94 N (some (P,0)) k h=some ((kC T k σ).1,h')/\Chg [P] h h'/\PA T P X h' (kC T k σ).2 st:=by
 unfold f94;have ⟨j,U,B⟩:=jQ (N:=N) x;rw [U,aA];have ⟨K,H,L,C⟩:=rAp j (tk T σ.1);dsimp only;rw [H,fA];have p:=B.trans L;have f:=x.chg p;have ⟨v,F,J⟩:=f.readE;simp only [fA,xC,F,dA,pF,J.ne 11,aC];have ⟨i,e⟩:=σ
 cases e with
 | some q=>
  simp only [Option.isSome_some,xA,kC];have ⟨R,u,w,r⟩:=iA9 (N:=N) f (c:=21) (by decide);rw [u,aA];exact ⟨_,rfl,(p.mono (by simp)).trans w,r⟩
 | none=>
  simp only [Option.isSome_none,xB];have r0:K.cell (j.next,0)=some (yI0 (tk T i).1):=C.cell 0;simp only [r0,dA,qB,eqI,kC]
  by_cases q:(tk T i).1=k
  ·simp only [q,xO,xV,xB,xM,f.readI,dA,qB]
   have M:=iAy A x.lt (by grind);rw [tBb A x.lt];have ⟨I,Q,y,O⟩:=PA.setI f M;rw [Q,fA];have hP:j.next≠P:=by have:=(x.chg B).P_lt;omega
   have S:I.cell (j.next,1)=some (.str (tk T i).2.1):=(C.chg y (by grind)).cell 1;simp only [S,dA,yA];exact ⟨_,rfl,(p.mono (by simp)).trans y,O⟩
  ·simp only [q,xQ,Bool.not_false,xA,xL]
   have ⟨R,u,w,r⟩:=iA9 (N:=N) f (c:=21) (by decide);rw [u,aA];exact ⟨_,rfl,(p.mono (by simp)).trans w,r⟩
def gAh (f:Toks T) (k:Int) (hi:σ.1<T.length):(kC T k σ).1.length<=3000000:=by
 have ⟨i,e⟩:=σ
 cases e with
 | some q=>simp [kC]
 | none=>
  simp only [kC]
  split
  ·exact (jBk f hi).len
  ·simp
def yC {a b:Bs} (h:a.length+b.length<=1099511627776):fC .add a b=some (.str (a++b)):=by
 have:Nat.ble (a.length+b.length) 1099511627776=true:=by rw [Nat.ble_eq];exact h
 simp only [fC,this,xA]
def rB8 (f:Toks T) (x:PA T P X h σ st):∃ h',f95 N (some (P,0)) h=some ((rK T σ).1,h')/\Chg [P] h h'/\PA T P X h' (rK T σ).2 st:=by
 unfold f95;have ⟨I,H,y,C⟩:=fAh (N:=N) f x (k:=1) (by decide);have J:=gAh f 1 x.lt;rw [H,aA];have ⟨K,u,B,j⟩:=jA9 (N:=N) f C (w:=[58,58]) (by decide);rw [u,aA];have A:=y.trans B;simp only [rK]
 cases M:(uB T [58,58] (kC T 1 σ).2).1
 ·grind
 ·simp only [xA,xM];have ⟨O,F,r,p⟩:=fAh (N:=N) f j (k:=1) (by decide);have L:=gAh f 1 j.lt;rw [yC (by grind)];simp only [dA,yA];rw [F,aA,yC (by grind)];simp only [dA,yA];exact ⟨_,rfl,A.trans r,p⟩
def kAl (x:PA T P X h σ st) (n:Nat):∃ h',f188 N (some (P,0)) (n:Int) h=some (((if 64<=n then oG T 5 σ else σ).2).isNone,h')/\Chg [P] h h'/\PA T P X h' (if 64<=n then oG T 5 σ else σ) st:=by
 unfold f188;have z:cD 64 (n:Int)=decide (64<=n):=yA4 64 n;simp only [z]
 by_cases q:64<=n
 ·simp only [q,xO,xA,xM]
  have ⟨u,r,w,p⟩:=iA9 (N:=N) x (c:=5) (by decide);rw [r,aA];have ⟨v,f,j⟩:=p.readE;simp only [fA,xC,f,dA,pF,j.eq 12,aC]
  grind
 ·simp only [q,xQ,xB,xL]
  have ⟨v,f,j⟩:=x.readE;simp only [fA,xC,f,dA,pF,j.eq 12,aC];exact ⟨_,rfl,Chg.refl _ _,x⟩
def jAy (u:Toks T) (x:PA T P X h σ st) {w:Bs} (f:isWord w=false):∃ h',f149 N (some (P,0)) w h=some ((),h')/\Chg [P] h h'/\PA T P X h' (eD T w σ) st:=by
 unfold f149 eD;have ⟨F,B,y,p⟩:=jA9 (N:=N) u x f;rw [B,aA]
 cases H:(uB T w σ).1 with
 | true=>grind
 | false=>
  simp only [Bool.not_false,xA,xE,xL];have ⟨C,r,A,j⟩:=iA9 (N:=N) p (c:=21) (by decide);rw [r,aA];exact ⟨_,rfl,y.trans A,j⟩
end
end Qp
namespace Qp
def pJ (T:List Tok):Nat->St->List Bs×St
 | 0,σ=>([],oG T 5 σ)
 | g+1,σ=>let a:=kC T 3 σ;let b:=uB T [44] a.2;if b.1=true then ((a.1::(pJ T g b.2).1),(pJ T g b.2).2) else ([a.1],b.2)
def tI (T:List Tok) (σ:St):List Bs×St:=
 let b:=uB T [60] σ
 if b.1=true then ((pJ T 64 b.2).1,eD T [62] (pJ T 64 b.2).2) else ([],b.2)
theorem yF {T:List Tok} {w:Bs} {σ:St} (h:(uB T w σ).1=true):(uB T w σ).2=(σ.1+1,none)/\σ.2=none:=by
 have ⟨i,e⟩:=σ
 cases e with
 | some q=>grind [uB]
 | none=>
  simp only [uB] at h ⊢
  grind
def iAh:AppN E 38 9 1 100:=AppN.of (by kernel_rfl)
def tK (h:Heap) (V:Nat->Prop) (x:Bs):Dt h V (.s x) [.str x]:=by grind [Dt]
section
variable {N:Nat} {T:List Tok} {P:Nat} {X:List Nat} {st:Int}
def gAt {h0 H:Heap} {M:List Nat} {v:SL} {xs:List Bs} (c:Chg M h0 H) (x:Ow h0.next H v 1 (xs.map D.s)) (r:xs.length<=2000000) (t:Bs) :
  ∃ j h,(∀ {β:Type} (K:SL->Heap->Option β),tD (.val zJ3) (nB E 38 38 (yL v) (.slice (some (H.next,0)) 1 1 1) (H.push (.row [(.str t)] .own))) K=K j h)/\Ow h0.next h j 1 ((xs++[t]).map D.s)/\Chg v.blk.toList H h:=by
 have ⟨f,h',e,o,p,_⟩:=mA4 (cs:=[AV.str t]) iAh (by decide) x (tK H _ t) rfl c.next (by grind);refine ⟨f,h',fun K=>?_,?_,p⟩
 ·have e':nB E 38 38 (yL v) (.slice (some (H.next,0)) 1 1 1) (H.push (.row [(.str t)] .own))=some (.slice f.a f.len f.cap f.sz,h'):=e
  rw [e'];simp only [rF,qA]
 grind
def uBb (U:Toks T) {h0 h:Heap} {O Q i:Nat} (x:PA T P X h (i,none) st) (Y:O∈X) (c:Chg [P,O] h0 h) (hO:P<O/\O<h0.next) (hQ:Q≠P/\Q≠O/\Q<h0.next) {v:SL} {xs:List Bs} (oO:h.own O [SL.av v]) (oQ:h.own Q [.ptr (some (P,0))]) (R:Ow h0.next h v 1 (xs.map D.s)) (hl:xs.length<=2000000) :
  ∃ p h',f148 N (some (O,0)) (some (Q,0)) h=some ((),h')/\PA T P X h' (kC T 3 (i,none)).2 st/\Chg [P,O] h0 h'/\h'.own O [SL.av p]/\h'.own Q [.ptr (some (P,0))]/\Ow h0.next h' p 1 ((xs++[(kC T 3 (i,none)).1]).map D.s):=by
 unfold f148;have M:h.cell (O,0)=some (SL.av v):=oO.cell 0;have S:h.cell (Q,0)=some (.ptr (some (P,0))):=oQ.cell 0;have hn:=c.next;have a0:∀ A∈v.blk.toList,h0.next<=A/\A<h.next:=fun A j=>R.ge A (by grind);have xr:=x.free (X':=v.blk.toList++X) (fun A j=>by
  rcases List.mem_append.1 j with j | j
  ·grind
  ·exact x.xl A j)
 have ⟨u,e6,C,V⟩:=fAh (N:=N) U xr (k:=3) (by decide);simp only [fA,M,S,SL.av,dA,qA,dC];rw [e6,aA];have r:u.own O [SL.av v]:=oO.chg C (by grind);have I:u.own Q [.ptr (some (P,0))]:=oQ.chg C (by grind);have B:Chg [P,O] h0 u:=c.trans (C.mono (by simp));have H:Ow h0.next u v 1 (xs.map D.s):=R.chg C (by grind);have ⟨p,w,e9,o9,F⟩:=gAt B H hl (kC T 3 (i,none)).1;rw [e9];have f:w.own O [SL.av v]:=r.chg F (by grind);have K:w.own Q [.ptr (some (P,0))]:=I.chg F (by grind);have y:w.store (O,0) [SL.av p]=some (w.put O (.row [SL.av p] .own)):=f.store rfl;simp only [SL.av] at y;rw [y,fA];have r7:(u.push (.row [(.str (kC T 3 (i,none)).1)] .own)).cell (O,0)=some (SL.av v):=(r.chg (uA u _)).cell 0;have r6:u.cell (O,0)=some (SL.av v):=r.cell 0;simp only [mF,S,r7,r6,M,SL.av,jC,xA,yB];have Z:PA T P (v.blk.toList++X) w (kC T 3 (i,none)).2 st:=V.chgM F (fun A j=>List.mem_append_left _ j);have J:=Z.chg1 (f.put [SL.av p]) (xg _ Y);have L:Chg [P,O] h0 w:=B.step F (fun A j W=>by grind);refine ⟨p,_,rfl,J.sub (fun A j=>xg _ j),L.put (.inl (by simp)) _,kB f _,K.chg (f.put [SL.av p]) (by grind),o9.chg (f.put [SL.av p]) (by grind)⟩
def kAy (F:Toks T) {h0:Heap} {O Q:Nat} (R:O∈X) (hO:P<O/\O<h0.next) (Y:Q≠P/\Q≠O/\Q<h0.next):∀ (g M:Nat) (i:Nat) (h:Heap) (v:SL) (xs:List Bs),g<M->g<=64->xs.length<=64-g->PA T P X h (i,none) st->Chg [P,O] h0 h->h.own O [SL.av v]->h.own Q [.ptr (some (P,0))]->Ow h0.next h v 1 (xs.map D.s)->
  ∃ o p h',mN N M (some (P,0)) [44] ((some (O,0)),(some (Q,0)),()) ((64-g:Nat):Int) h=some (o,(),h')/\PA T P X h' (pJ T g (i,none)).2 st/\Chg [P,O] h0 h'/\h'.own O [SL.av p]/\h'.own Q [.ptr (some (P,0))]/\Ow h0.next h' p 1 ((xs++(pJ T g (i,none)).1).map D.s):=by
 intro g
 induction g with
 | zero=>
  intro M i h v xs hM hg hx x c oO oQ u;obtain ⟨M,rfl⟩:∃ m,M=m+1:=⟨M-1,by omega⟩;rw [dP];unfold vJ;have ⟨C,B,f,j⟩:=kAl (N:=N) x (64-0);rw [B,aA];simp only [show 64<=64-0 by omega,xM,oG,Option.isNone_some,xB] at j ⊢;refine ⟨_,v,C,rfl,j,c.trans (f.mono (by simp)),oO.chg f (by grind),oQ.chg f (by grind),?_⟩;simp only [pJ,List.append_nil];exact u.chg f (by grind)
 | succ g U=>
  intro M i h v xs hM hg hx x c oO oQ u;obtain ⟨M,rfl⟩:∃ m,M=m+1:=⟨M-1,by omega⟩;rw [dP];unfold vJ;have ⟨C,B,f,j⟩:=kAl (N:=N) x (64-(g+1));rw [B,aA];have z:¬ 64<=64-(g+1):=by omega
  simp only [z,xL,Option.isNone_none,xA] at j ⊢;have y:=c.trans (f.mono (N:=[P,O]) (by simp));have ⟨p,h4,K,x4,V,o4,L,w4⟩:=uBb (N:=N) F j R y hO Y (oO.chg f (by grind)) (oQ.chg f (by grind)) (u.chg f (by grind)) (by omega);rw [K,aA];have ⟨h6,Z,r,H⟩:=jA9 (N:=N) F x4 (w:=[44]) (by decide);rw [Z,aA];have A:=V.trans (r.mono (N:=[P,O]) (by simp));have I:=o4.chg r (by grind);have W:=L.chg r (by grind);have S:=w4.chg r (by grind);simp only [pJ]
  cases hb:(uB T [44] (kC T 3 (i,none)).2).1 with
  | false=>
   grind
  | true=>
   simp only [xV,xB,xM];have J:=(yF hb).1;rw [J] at H ⊢;rw [iB (by omega),show 64-(g+1)+1=64-g by omega]
   have:=U M _ h6 p (xs++[(kC T 3 (i,none)).1]) (by omega) (by omega) (by grind) H A I W S
   simpa only [xY,List.singleton_append] using this
def tB8 (J:Toks T) (hN:100<=N) {h:Heap} {σ:St} (x:PA T P X h σ st):∃ v h',f96 N (some (P,0)) h=some (v,h')/\PA T P X h' (tI T σ).2 st/\Chg [P] h h'/\Sl h' (fun C=>h.next<=C) v ((tI T σ).1.map D.s):=by
 unfold f96;have oQ:=wA h [AV.ptr (some (P,0))];have cQ:=uA h (.row [AV.ptr (some (P,0))] .own);have nQ:(h.push (.row [AV.ptr (some (P,0))] .own)).next=h.next+1:=rfl;dsimp only;generalize h.push (.row [AV.ptr (some (P,0))] .own)=j at *;have oO:(j.push (.row [yS0] .own)).own j.next [SL.av ⟨none,0,0,0⟩]:=wA j _;have M:=uA j (.row [yS0] .own);have nO:(j.push (.row [yS0] .own)).next=j.next+1:=rfl;generalize j.push (.row [yS0] .own)=h2 at *;have y:=oQ.chg M;have x2:=(x.chg cQ).add M (A:=j.next) (xD _) (by omega);have F:=cQ.trans M;have r2:h2.cell (h.next,0)=some (.ptr (some (P,0))):=y.cell 0;have hP:=x.P_lt;simp only [r2,dA,dC];have ⟨V,e5,I,Z⟩:=jA9 (N:=N) J x2 (w:=[60]) (by decide);rw [e5,aA];have u:=oO.chg I (by grind);have B:=y.chg I (by grind);simp only [tI]
 cases hb:(uB T [60] σ).1 with
 | false=>
  simp only [xB,xE,xL];have R:V.cell (j.next,0)=some (SL.av ⟨none,0,0,0⟩):=u.cell 0;simp only [R,SL.av,dA,qA];exact ⟨_,_,rfl,Z.sub (by grind),(F.mono (by simp)).trans I,Sl.nil _ _ _⟩
 | true=>
  simp only [xA,xM];have hs:=(yF hb).1;rw [hs] at Z ⊢;have R:V.cell (h.next,0)=some (.ptr (some (P,0))):=B.cell 0;simp only [R,dA,dC];unfold wAb;have ⟨o,v',p,e8,x8,c8,o8,q8,w8⟩:=kAy (N:=N) J (h0:=h2) (X:=j.next::X) (O:=j.next) (Q:=h.next) (by simp) (by omega) (by omega) 64 N _ V ⟨none,0,0,0⟩ [] (by omega) (xD _) (by simp) Z (I.mono (by simp)) u B (Ow.nil _ _ _ _);rw [show ((64-64:Nat):Int)=0 from rfl] at e8;rw [e8];have hc:Chg [P] h p:=(F.mono (by simp)).step c8 (fun A hA a1=>by
   grind)
  have r8:p.cell (h.next,0)=some (.ptr (some (P,0))):=q8.cell 0;have fin:∀ (K:yO0 SL),(iA (.val zI3) (p.cell (h.next,0)) fun (x9:zH3)=>
  (jA (f149 N x9 [62] p) fun (a2:(Unit)) f=>
  (iA (.val zJ3) (f.cell (j.next,0)) fun (S:SL)=>
  some (S,f))))=K->(rD (some (o,((),p))) fun o9 (U:Unit) f=>(bif vD o9 (.exit 0) then some ((),f) else some ((),f)))=some ((),p):=fun K _=>by
   simp only [mB];cases vD o (.exit 0) <;> rfl
  have L:(rD (some (o,((),p))) fun o9 (U:Unit) f=>(bif vD o9 (.exit 0) then some ((),f) else some ((),f)))=some ((),p):=fin _ rfl;rw [L,aA];simp only [r8,dA,dC];have ⟨f,Y,r,W⟩:=jAy (N:=N) J x8 (w:=[62]) (by decide);rw [Y,aA];have a0:f.cell (j.next,0)=some (SL.av v'):=(o8.chg r (by grind)).cell 0;simp only [a0,SL.av,dA,qA];refine ⟨_,_,rfl,W.sub (by grind),hc.trans r,?_⟩;have H:=w8.chg r (by grind);rw [List.nil_append] at H;exact H.sl.weak (fun C hC _=>by omega)
end
end Qp
namespace Qp
abbrev TyV:=Int×zO3×SL×SL×Unit
abbrev sl0:SL:=⟨none,0,0,0⟩
def tyc (r:TyV):List AV:=[yI0 r.1,.str r.2.1,SL.av r.2.2.1,SL.av r.2.2.2.1]
def tyD (k:Int) (x:Bs) (lv:List Bs) (el:List D):D:=.t [.i k,.s x,.l (lv.map D.s),.l el]
theorem yJ {h:Heap} {V:Nat->Prop} {k:Int} {x:Bs} {lv:List Bs} {el:List D} {cs:List AV}:Dt h V (tyD k x lv el) cs↔∃ s1 s2,cs=tyc (k,x,s1,s2,())/\Sl h V s1 (lv.map D.s)/\Sl h V s2 el:=by
 simp only [tyD,Dt,Dp];constructor
 ·rintro ⟨a,b,rfl,rfl,I,H,rfl,rfl,J,K,rfl,⟨s1,A,rfl,w,r,B,p4,u⟩,F,L,rfl,⟨s2,v2,rfl,C,j,y,p,f⟩,rfl⟩
  exact ⟨s1,s2,rfl,⟨w,r,B,A,p4,u⟩,⟨C,j,y,v2,p,f⟩⟩
 ·rintro ⟨s1,s2,rfl,⟨w,r,B,A,p4,u⟩,⟨C,j,y,v2,p,f⟩⟩
  exact ⟨[_],_,rfl,rfl,[_],_,rfl,rfl,[_],_,rfl,⟨s1,A,rfl,w,r,B,p4,u⟩,[_],[],rfl,⟨s2,v2,rfl,C,j,y,p,f⟩,rfl⟩
def gW (h:Heap) (V:Nat->Prop) (k:Int) (x:Bs):Dt h V (tyD k x [] []) (tyc (k,x,sl0,sl0,())):=yJ.2 ⟨sl0,sl0,rfl,Sl.nil _ _ _,Sl.nil _ _ _⟩
def uB8 {h:Heap} {V:Nat->Prop} {A n:Nat} {cs:List AV} {d:D} (o:h.own A cs) (j:cs.length=n) (r:V A) (hd:Dt h V d cs):Sl h V ⟨some (A,0),1,1,n⟩ [d]:=by
 refine ⟨rfl,xD _,fun C u=>?_,cs,⟨by grind,fun f=>(by cases f),fun p off f=>?_⟩,?_⟩
 ·grind [SL.blk]
 ·simp only [xF,xI] at f
  obtain ⟨rfl,rfl⟩:=f;refine ⟨o.2,cs,by rw [o.1];rfl,by grind⟩
 ·simp only [De]
  grind
def vZ {β:Type} (r:TyV) (K:TyV->Option β):iA (.val zD) (some (.agg (tyc r))) K=K r:=by
 have ⟨k,x,s1,s2,_⟩:=r;simp [tyc,SL.av]
theorem kA9 {H:Heap} {A:Nat} {r:TyV} (o:H.own A (tyc r)) {β:Type} (K:TyV->Option β):iA (.val zD) (H.cells (A,0) 4) K=K r:=by
 have:H.cells (A,0) 4=some (.agg (tyc r)):=o.cells (j:=0) (m:=4) (xD _)
 rw [this,vZ]
theorem lAy {H:Heap} {A:Nat} {r0:TyV} (o:H.own A (tyc r0)) (r:TyV):H.store (A,0) (yRE r)=some (H.put A (.row (tyc r) .own)):=o.store rfl
def vBh {H:Heap} {A:Nat} {r0:TyV} (o:H.own A (tyc r0)) (r:TyV) {β:Type} (K:TyV->Heap->Option β) :
  (vA (H.store (A,0) (yRE r)) fun f=>iA (.val zD) (f.cells (A,0) 4) fun h=>K h f)=K r (H.put A (.row (tyc r) .own)):=by
 grind [lAy,fA,kA9,kB]
def jY (T:List Tok) (σ:St):List Bs×St:=if (tk T σ.1).1=3 then ([(kC T 3 σ).1],(kC T 3 σ).2) else ([],σ)
def nJ (T:List Tok):Nat->St->D×St
 | 0,σ=>(tyD 0 [] [] [],oG T 6 σ)
 | _+1,(i,some e)=>(tyD 0 [] [] [],(i,some e))
 | g+1,(i,none)=>
  let a:=uB T [105,110,116] (i,none)
  if a.1=true then (tyD 1 [] [] [],a.2) else
  let b:=uB T [98,111,111,108] a.2
  if b.1=true then (tyD 2 [] [] [],b.2) else
  let c:=uB T [38] b.2
  if c.1=true then
   let d:=jY T c.2
   let m:=uB T [109,117,116] d.2
   (tyD (if m.1=true then 5 else 4) [] d.1 [(nJ T g m.2).1],(nJ T g m.2).2)
  else
   let n:=rK T c.2
   let l:=tI T n.2
   (tyD 3 n.1 l.1 [],l.2)
section
variable {N:Nat} {T:List Tok} {P:Nat} {X:List Nat} {st:Int} {h:Heap} {σ:St}
def mAy (hT:Toks T) (x:PA T P X h σ st) {A:Nat} {deep:Int} {R:zH3} (Z:h.own A (tyc (4,[],sl0,sl0,()))) (Y:A∈X) :
  ∃ s1 p,(jA (f56 N (some (P,0)) h) fun (Q:zB1) y=>
    let M:Bool:=pA Q.1 3
    (bif M then
    (jA (f94 N (some (P,0)) 3 y) fun (L:zO3) f=>
    let u:Heap:=f.push (.row [(.str L)] .own)
    (vA (u.store ((A,0).1,(A,0).2+2) [(.slice (some (f.next,0)) 1 1 1)]) fun S=>
    some ((some (P,0),deep,R,(some (A,0)),()),S)))
    else
    some ((some (P,0),deep,R,(some (A,0)),()),y)))=some ((some (P,0),deep,R,(some (A,0)),()),p)/\PA T P X p (jY T σ).2 st/\Chg [P,A] h p/\p.own A (tyc (4,[],s1,sl0,()))/\Sl p (fun C=>h.next<=C) s1 ((jY T σ).1.map D.s):=by
 have ⟨y,O,r⟩:=jQ (N:=N) x;rw [O,aA];have F:=x.chg r;have H:=Z.chg r;simp only [fAt,eqI,jY]
 by_cases q:(tk T σ.1).1=3
 ·simp only [q,xO,xA,xM]
  have ⟨f,W,w,U⟩:=fAh (N:=N) hT F (k:=3) (by decide);rw [W,aA];have J:=H.chg w (by have:=(x.xl A Y).1;grind);have oB:=wA f [AV.str (kC T 3 σ).1];have cB:=uA f (.row [AV.str (kC T 3 σ).1] .own);generalize f.push (.row [AV.str (kC T 3 σ).1] .own)=u at *;have B:=J.chg cB;have I:u.store (A,2) [SL.av ⟨some (f.next,0),1,1,1⟩]=some (u.put A (.row (tyc (4,[],⟨some (f.next,0),1,1,1⟩,sl0,())) .own)):=B.store1 (j:=2) (by show 2<4;omega) _;simp only [SL.av] at I
  try simp only [xC]
  rw [I,fA];have K:=B.put (tyc (4,[],⟨some (f.next,0),1,1,1⟩,sl0,()));have a0:A<f.next:=J.2;refine ⟨_,_,rfl,(U.chg cB).chg1 K Y,((r.mono (by simp)).trans (w.mono (by simp))).trans ((cB.mono (by simp)).trans (K.mono (by simp))),kB B _,?_⟩
  have:=uB8 (V:=fun C=>h.next<=C) (oB.chg K (by grind)) rfl (xT r.next w.next) (tK _ _ _)
  grind
 ·simp only [q,xQ,xB,xL]
  exact ⟨sl0,_,rfl,F,r.mono (by simp),H,Sl.nil _ _ _⟩
def lB5 (M:Toks T) (x:PA T P X h σ st) {A:Nat} {deep:Int} {R:zH3} {s1:SL} (L:h.own A (tyc (4,[],s1,sl0,()))) (K:A∈X) :
  ∃ r,(jA (f92 N (some (P,0)) [109,117,116] h) fun (C:Bool) f=>
    (bif C then
    (vA (some (A,0)) fun y=>
    (vA (f.store (y.1,y.2+0) [(yI0 5)]) fun F=>
    some ((some (P,0),deep,R,(some (A,0)),()),F)))
    else
    some ((some (P,0),deep,R,(some (A,0)),()),f)))=some ((some (P,0),deep,R,(some (A,0)),()),r)/\PA T P X r (uB T [109,117,116] σ).2 st/\Chg [P,A] h r/\r.own A (tyc ((if (uB T [109,117,116] σ).1=true then 5 else 4),[],s1,sl0,())):=by
 have ⟨f,I,u,B⟩:=uAp (N:=N) M x (w:=[109,117,116]) (by decide);rw [I,aA];have p:=L.chg u (by have:=(x.xl A K).1;grind)
 cases O:(uB T [109,117,116] σ).1
 ·simp only [xB,xE,xL];exact ⟨_,rfl,B,u.mono (by simp),p⟩
 ·simp only [xA,xM,fA,xX];have H:f.store (A,0) [yI0 5]=some (f.put A (.row (tyc (5,[],s1,sl0,())) .own)):=p.store1 (j:=0) (by show 0<4;omega) _;rw [H,fA];have J:=p.put (tyc (5,[],s1,sl0,()));exact ⟨_,rfl,B.chg1 J K,(u.mono (by simp)).trans (J.mono (by simp)),kB p _⟩
end
end Qp
namespace Qp
def lE {T:List Tok} {w:Bs} {σ:St} (h:(uB T w σ).1=false):(uB T w σ).2=σ:=by
 have ⟨i,e⟩:=σ
 cases e with
 | some q=>rfl
 | none=>
  simp only [uB] at h ⊢
  grind
abbrev zt:List AV:=tyc (0,[],sl0,sl0,())
section
variable {N:Nat} {T:List Tok} {P:Nat} {st:Int}
def kBk (hT:Toks T) (hN:100<=N):∀ (g M:Nat) (h:Heap) (σ:St) (X:List Nat),g<M->g<=64->PA T P X h σ st->
  ∃ r h',f55 N M (some (P,0)) ((65-g:Nat):Int) h=some (r,h')/\PA T P X h' (nJ T g σ).2 st/\Chg [P] h h'/\Dt h' (fun C=>h.next<=C) (nJ T g σ).1 (tyc r):=by
 intro g
 induction g with
 | zero=>
  intro M h σ X hM hg x;obtain ⟨M,rfl⟩:∃ m,M=m+1:=⟨M-1,by omega⟩;rw [nAp];unfold cB5;have o1:=wA h zt;have c1:=uA h (.row zt .own);have x1:=x.add c1 (A:=h.next) (xD _) (xP _);have e1:h.push (.row yZG .own)=h.push (.row zt .own):=rfl;rw [e1];generalize h.push (.row zt .own)=h1 at *;have z:ltInt 64 ((65-0:Nat):Int)=true:=rfl;have hP:=x.P_lt;dsimp only;rw [z];simp only [xA];have ⟨h4,e4,c4,x4⟩:=iA9 (N:=N) x1 (c:=6) (by decide);rw [e4];simp only [aA,fA,xC];have ⟨v,k3,hv⟩:=x4.readE;simp only [k3,dA,pF,hv.ne 15,aC];have hs:(oG T 6 σ).2.isSome=true:=by have ⟨i,e⟩:=σ;cases e <;> rfl
  rw [hs];simp only [xA];have o4:=o1.chg c4 (by grind);have cp:=o4.put zt;refine ⟨(0,[],sl0,sl0,()),_,vBh o4 (0,[],sl0,sl0,()) (fun x h=>some (x,h)),(x4.chg1 cp (by simp)).sub (by grind),?_,gW _ _ _ _⟩;exact ((c1.mono (by simp)).trans c4).step cp (fun A hA hl=>by grind)
 | succ g ih=>
  intro M h σ X hM hg x;obtain ⟨M,rfl⟩:∃ m,M=m+1:=⟨M-1,by omega⟩;rw [nAp];unfold cB5;have o1:=wA h zt;have c1:=uA h (.row zt .own);have x1:=x.add c1 (A:=h.next) (xD _) (xP _);have e1:h.push (.row yZG .own)=h.push (.row zt .own):=rfl;rw [e1];have n1:(h.push (.row zt .own)).next=h.next+1:=rfl;generalize h.push (.row zt .own)=h1 at *;have z:ltInt 64 ((65-(g+1):Nat):Int)=false:=by
   rw [show (64:Int)=((64:Nat):Int) from rfl,qC,xd];omega
  have hP:=x.P_lt;dsimp only;rw [z];simp only [xB,aA,fA,xC];have ⟨v,k3,hv⟩:=x1.readE;simp only [k3,dA,pF,hv.ne 15,aC];have fin:∀ {h':Heap} (c:Chg [P] h1 h') (r:TyV),Chg [P] h (h'.put h.next (.row (tyc r) .own)):=fun c r=>
   ((c1.mono (by simp)).trans c).put (.inr (xD _)) _
  have ⟨i,e⟩:=σ
  cases e with
  | some q=>
   simp only [Option.isSome_some,xA,nJ];have cp:=o1.put zt;exact ⟨(0,[],sl0,sl0,()),_,vBh o1 (0,[],sl0,sl0,()) (fun x h=>some (x,h)),(x1.chg1 cp (by simp)).sub (by grind),fin (Chg.refl _ _) (0,[],sl0,sl0,()),gW _ _ _ _⟩
  | none=>
   simp only [Option.isSome_none,xB,nJ];have ⟨h3,f1,a6,a7⟩:=uAp (N:=N) hT x1 (w:=[105,110,116]) (by decide);rw [f1,aA];have b5:=o1.chg a6 (by grind)
   cases f7:(uB T [105,110,116] (i,none)).1 with
   | true=>
    simp only [xA,xM];have cp:=b5.put (tyc (1,[],sl0,sl0,()));exact ⟨(1,[],sl0,sl0,()),_,vBh b5 (1,[],sl0,sl0,()) (fun x h=>some (x,h)),(a7.chg1 cp (by simp)).sub (by grind),fin a6 (1,[],sl0,sl0,()),gW _ _ _ _⟩
   | false=>
   rw [lE f7] at a7 ⊢;simp only [xB,xE,xL];have ⟨h8,d8,c5,a8⟩:=uAp (N:=N) hT a7 (w:=[98,111,111,108]) (by decide);rw [d8,aA];have b4:=b5.chg c5 (by grind);have a0:=a6.trans c5
   cases e5:(uB T [98,111,111,108] (i,none)).1 with
   | true=>
    simp only [xA,xM];have cp:=b4.put (tyc (2,[],sl0,sl0,()));exact ⟨(2,[],sl0,sl0,()),_,vBh b4 (2,[],sl0,sl0,()) (fun x h=>some (x,h)),(a8.chg1 cp (by simp)).sub (by grind),fin a0 (2,[],sl0,sl0,()),gW _ _ _ _⟩
   | false=>
   rw [lE e5] at a8 ⊢;simp only [xB,xE,xL];have ⟨f,e8,d0,a9⟩:=jA9 (N:=N) hT a8 (w:=[38]) (by decide);rw [e8,aA];have b8:=b4.chg d0 (by grind);have K:=a0.trans d0;have h5:h.next+1<=f.next:=by have:=K.next;omega
   cases g2:(uB T [38] (i,none)).1 with
   | true=>
    simp only [xA,xM];have J:=wA f zt;have b0:=uA f (.row zt .own);have eA:f.push (.row yZG .own)=f.push (.row zt .own):=rfl;have Q:=lAy J (4,[],sl0,sl0,());have nA:(f.push (.row zt .own)).next=f.next+1:=rfl;rw [eA,show (f.push (.row zt .own)).store (f.next,0) [(yI0 4),(.str []),yS0,yS0]=_ from Q,fA];have oA:=kB J (tyc (4,[],sl0,sl0,()));have cA:Chg [] f ((f.push (.row zt .own)).put f.next (.row (tyc (4,[],sl0,sl0,())) .own)):=b0.put (.inr (xD _)) _;have f4:=a9.add cA (A:=f.next) (xD _) (xP _);have h2:((f.push (.row zt .own)).put f.next (.row (tyc (4,[],sl0,sl0,())) .own)).next=f.next+1:=rfl;have oR:=b8.chg cA (by simp);generalize (f.push (.row zt .own)).put f.next (.row (tyc (4,[],sl0,sl0,())) .own)=a5 at *;have ⟨s1,h9,d4,g3,c0,b6,c2⟩:=mAy (N:=N) hT f4 (deep:=((65-(g+1):Nat):Int)) (R:=some (h.next,0)) oA (by simp)
    try simp only [xC] at d4
    rw [d4,aA];have ⟨c8,c6,d9,b2,c3⟩:=lB5 (N:=N) hT g3 (deep:=((65-(g+1):Nat):Int)) (R:=some (h.next,0)) b6 (by simp);simp only [fA,xX] at c6;dsimp only;simp only [fA,xX];rw [c6,aA];dsimp only;rw [iB (by omega),show 65-(g+1)+1=65-g by omega];have ⟨r,u,e3,d7,b3,e2⟩:=ih M c8 _ _ (by omega) (by omega) d9;rw [e3,aA];have B:Chg [P,f.next] a5 u:=(c0.trans b2).trans (b3.mono (by simp));have d6:=c3.chg b3 (by grind);have b9:=oR.chg B (by grind);have g6:=B.next;have g9:a5.next<=c8.next:=(c0.trans b2).next;have oC:=wA u (tyc r);have cC:=uA u (.row (tyc r) .own);have eC:u.push (.row (yRE r) .own)=u.push (.row (tyc r) .own):=rfl;rw [eC];have L:=d6.chg cC (by simp);have c9:=b9.chg cC (by simp);have f9:=d7.chg cC;have f6:=e2.chg cC (by simp);have nC:(u.push (.row (tyc r) .own)).next=u.next+1:=rfl;generalize u.push (.row (tyc r) .own)=W at *;generalize hk:(if (uB T [109,117,116] (jY T (uB T [38] (i,none)).2).2).1=true then (5:Int) else 4)=k at *;have H:W.store (f.next,3) [SL.av ⟨some (u.next,0),1,1,4⟩]=some (W.put f.next (.row (tyc (k,[],s1,⟨some (u.next,0),1,1,4⟩,())) .own)):=L.store1 (j:=3) (by show 3<4;omega) _;simp only [SL.av] at H;simp only [fA,xC];rw [H,fA];have y:=L.put (tyc (k,[],s1,⟨some (u.next,0),1,1,4⟩,()));have b1:=kB L (tyc (k,[],s1,⟨some (u.next,0),1,1,4⟩,()));have F:=c9.chg y (by grind);have f3:=oC.chg y (by grind);have x5:=f9.chg1 y (by simp);have d5:=f6.chg y (fun C S=>by grind);generalize W.put f.next (.row (tyc (k,[],s1,⟨some (u.next,0),1,1,4⟩,())) .own)=g4 at *;rw [kA9 b1];have cR:=F.put (tyc (k,[],s1,⟨some (u.next,0),1,1,4⟩,()));have O:Chg [P] h g4:=by
     have a1:Chg [P] h f:=(c1.mono (by simp)).trans K;have a2:Chg [P] h a5:=a1.trans (cA.mono (by simp));have a3:Chg [P] h u:=a2.step B (fun A hA hl=>by
      grind)
     have a4:Chg [P] h W:=a3.trans (cC.mono (by simp));exact a4.step y (fun A hA hl=>by grind)
    refine ⟨(k,[],s1,⟨some (u.next,0),1,1,4⟩,()),_,vBh F (k,[],s1,⟨some (u.next,0),1,1,4⟩,()) (fun x h=>some (x,h)),(x5.chg1 cR (by simp)).sub (by grind),O.put (.inr (xD _)) _,?_⟩;refine yJ.2 ⟨_,_,rfl,?_,?_⟩
    ·have hs:=c2.chg b2 (fun C S=>by grind)
     have e6:=hs.chg b3 (fun C S=>by grind);have g1:=((e6.chg cC (by simp)).chg y (fun C S=>by grind)).chg cR (fun C S=>by grind);exact g1.weak (fun C S _=>by omega)
    ·refine uB8 (V:=fun C=>h.next<=C) (f3.chg cR (by grind)) rfl (by omega) ?_
     exact (d5.chg cR (fun C S=>by grind)).weak (fun C S _=>by omega)
   | false=>
    rw [lE g2] at a9 ⊢;simp only [xB,xE,xL];have ⟨p,g5,b7,f8⟩:=rB8 (N:=N) hT a9;rw [g5,aA];have f0:=b8.chg b7 (by grind);have Z:=K.trans b7;generalize h7:(rK T (i,none)).1=nm at *;have g8:h.next+1<=p.next:=by have:=Z.next;omega
    have J:=wA p zt;have b0:=uA p (.row zt .own);have eA:p.push (.row yZG .own)=p.push (.row zt .own):=rfl;have Q:=lAy J (3,nm,sl0,sl0,());rw [eA,show (p.push (.row zt .own)).store (p.next,0) [(yI0 3),(.str nm),yS0,yS0]=_ from Q,fA];have oA:=kB J (tyc (3,nm,sl0,sl0,()));have cA:Chg [] p ((p.push (.row zt .own)).put p.next (.row (tyc (3,nm,sl0,sl0,())) .own)):=b0.put (.inr (xD _)) _;have e9:=f8.add cA (A:=p.next) (xD _) (xP _);have h6:((p.push (.row zt .own)).put p.next (.row (tyc (3,nm,sl0,sl0,())) .own)).next=p.next+1:=rfl;have oR:=f0.chg cA (by simp);generalize (p.push (.row zt .own)).put p.next (.row (tyc (3,nm,sl0,sl0,())) .own)=i3 at *;have ⟨s1,Y,e7,f2,U,c7⟩:=tB8 (N:=N) hT hN e9;rw [e7,aA];have I:=oA.chg U (by grind);have d3:=oR.chg U (by grind);have H:Y.store (p.next,2) [SL.av s1]=some (Y.put p.next (.row (tyc (3,nm,s1,sl0,())) .own)):=I.store1 (j:=2) (by show 2<4;omega) _;simp only [SL.av] at H;rw [H,fA];have y:=I.put (tyc (3,nm,s1,sl0,()));have b1:=kB I (tyc (3,nm,s1,sl0,()));have F:=d3.chg y (by grind);have x5:=f2.chg1 y (by simp);have f5:=c7.chg y (fun C S=>by grind);have g7:=U.next;generalize Y.put p.next (.row (tyc (3,nm,s1,sl0,())) .own)=g0 at *;rw [kA9 b1];have cR:=F.put (tyc (3,nm,s1,sl0,()));have O:Chg [P] h g0:=by
     have a1:Chg [P] h p:=(c1.mono (by simp)).trans Z;have a3:Chg [P] h Y:=(a1.trans (cA.mono (by simp))).trans U;exact a3.step y (fun A hA hl=>by grind)
    refine ⟨(3,nm,s1,sl0,()),_,vBh F (3,nm,s1,sl0,()) (fun x h=>some (x,h)),(x5.chg1 cR (by simp)).sub (by grind),O.put (.inr (xD _)) _,?_⟩;refine yJ.2 ⟨_,_,rfl,?_,Sl.nil _ _ _⟩;exact (f5.chg cR (fun C S=>by grind)).weak (fun C S _=>by omega)
end
end Qp
namespace Qp
structure PB (T:List Tok) (P:Nat) (h:Heap) (σ:St) (it st:Int):Prop where
 ex:∃ s c a,h.own P [SL.av s,.int .i64 (σ.1:Int),.int .i64 c,.int .i64 a,.int .i64 it,.int .i64 st]/\Sl h (fun C=>C<P) s (T.map pAj)/\(s.sz=3)/\(match σ.2 with
  | none=>c=0
  | some (c',a')=>c=c'/\a=a'/\c'≠0)
 lt:σ.1<T.length
section
variable {N:Nat} {T:List Tok} {P:Nat} {h h':Heap} {σ:St} {it st:Int}
end
end Qp
namespace Qp
section
variable {N:Nat} {T:List Tok} {P:Nat} {h h':Heap} {σ:St} {it st:Int}
end
end Qp
namespace Qp
section
variable {N:Nat} {T:List Tok} {P:Nat} {it st:Int} {h:Heap} {σ:St}
end
end Qp
namespace Qp
def jAh {t:Bs}:∀ {l:List Bs},t∈l->bAh t l=true
 | w::r,h=>by
  simp only [bAh];rcases List.mem_cons.1 h with rfl | h
  ·rw [eqB.2 rfl];rfl
  ·rw [jAh h];cases bB t w <;> rfl
def kAh {t:Bs} {k:Int} {x:Bs} {n:Nat} (h:jI t=some (k,x,n)):bA5 x=true:=by
 unfold jI at h
 cases f:gQ t two with
 | some p=>
  rw [f] at h;simp only [xF,xI] at h;obtain ⟨rfl,rfl,rfl⟩:=h;simp only [bA5,jAh (gY f).1,Bool.or_true]
 | none=>
  rw [f] at h
  cases t with
  | nil=>cases h
  | cons c r=>
   simp only at h
   split at h
   ·rename_i j
    simp only [xF,xI] at h;obtain ⟨rfl,rfl,rfl⟩:=h;simp only [bA5,j,Bool.true_or]
   ·cases h
def iAt {t:Bs} {k:Int} {x:Bs} {n:Nat} (w:t.length<=3000000) (h:iD t=some (k,x,n)) (a:Nat):TokOK (k,x,a)/\k≠0:=by
 cases t with
 | nil=>cases h
 | cons c r=>
  have p:∀ n,((c::r).take n).length<=3000000:=fun n=>by rw [List.length_take];omega
  simp only [iD] at h
  split at h
  ·rename_i C
   simp only [eU] at h
   split at h
   ·rename_i j
    simp only [xF,xI] at h;obtain ⟨rfl,rfl,rfl⟩:=h;exact ⟨⟨fun _=>j,fun h=>by simp at h,p _,fun h=>by simp at h,fun h=>by simp at h,fun h=>by simp at h⟩,by decide⟩
   ·rename_i j
    split at h
    ·rename_i f
     simp only [xF,xI] at h;obtain ⟨rfl,rfl,rfl⟩:=h;refine ⟨⟨fun h=>by simp at h,fun h=>by simp at h,p _,fun h=>by simp at h,fun _=>?_,fun h=>by simp at h⟩,by decide⟩;show jE _=true;unfold jE;rw [gA9];simp only [oN,C,decide_eq_true f,Bool.true_and,Bool.not_eq_true'] at j ⊢;simpa using j
    ·cases h
  ·split at h
   ·rename_i hd
    simp only [eA9] at h
    split at h
    ·rename_i B
     simp only [xF,xI] at h;obtain ⟨rfl,rfl,rfl⟩:=h;have y:runN (c::r)=runN r+1:=by simp [runN,wJ,hd]
     exact ⟨⟨fun h=>by simp at h,fun h=>by simp at h,p _,fun _=>⟨B,by rw [List.length_take,xJ];omega⟩,fun h=>by simp at h,fun h=>by simp at h⟩,by decide⟩
    ·cases h
   ·split at h
    ·simp only [iY] at h
     split at h
     ·rename_i A
      split at h
      ·rename_i f
       simp only [xF,xI] at h;obtain ⟨rfl,rfl,rfl⟩:=h;simp only [xJ] at w;exact ⟨⟨fun h=>by simp at h,fun h=>by simp at h,by simp only [List.length_take];omega,fun h=>by simp at h,fun h=>by simp at h,fun _=>by rw [gA9,A,decide_eq_true f];rfl⟩,by decide⟩
      ·cases h
     ·cases h
    ·have u:=kAh h
     obtain ⟨rfl,rfl,y,F⟩:=uZ h;exact ⟨⟨fun h=>by simp at h,fun _=>u,p _,fun h=>by simp at h,fun h=>by simp at h,fun h=>by simp at h⟩,by decide⟩
def nAy:∀ (M:Nat) (t:Bs) (a:Nat) (l:List Tok),t.length<=3000000->dAh M t a=.inl l->∀ q∈l,TokOK q/\q.1≠0
 | 0,t,a,l,_,h=>by cases h
 | M+1,[],a,l,_,h=>by
  simp only [dAh,Sum.inl.injEq] at h;subst h;simp
 | M+1,c::r,a,l,j,h=>by
  simp only [dAh] at h
  split at h
  ·cases h
  ·rename_i k x n u
   have h0:=iAt j u a
   split at h
   ·rename_i y w
    simp only [Sum.inl.injEq] at h;subst h;have p:=nAy M _ _ y (by rw [List.length_drop];omega) w;intro q f;rcases List.mem_cons.1 f with rfl | f
    ·exact h0
    ·exact p q f
   ·cases h
def lAh {N:Nat} {s:Bs} (r:s.length<=3000000) {T:List Tok} (h:iAv N s=.inl T) (p:T.length<=2000000):Toks T/\0<T.length:=by
 unfold iAv at h
 split at h
 ·rename_i l j
  simp only [Sum.inl.injEq] at h;subst h;have ok:=nAy N _ _ l (by rw [List.length_drop];omega) j;refine ⟨⟨fun q f=>?_,fun i hi h0=>?_,p⟩,by simp⟩
  ·rcases List.mem_append.1 f with f | f
   ·exact (ok q f).1
   ·rw [List.mem_singleton] at f;subst f
    exact ⟨fun h=>by simp at h,fun h=>by simp at h,by simp,fun h=>by simp at h,fun h=>by simp at h,fun h=>by simp at h⟩
  ·rw [xN,List.length_singleton] at hi ⊢
   by_cases q:i<l.length
   ·omega
   ·rw [List.getElem_append_right (by omega)] at h0
    simp at h0
 ·cases h
def aBt (N:Nat) (s:Bs):D×Er:=match iAv N s with
 | .inr a=>(tyD 0 [] [] [],some (20,(a:Int)))
 | .inl T=>
  let r:=nJ T 64 (0,none)
  let σ:=if (tk T r.2.1).1=0 then r.2 else oG T 21 r.2
  if σ.2=none then (r.1,none) else (tyD 0 [] [] [],σ.2)
def lBk {h:Heap} {A B:Nat} {cs ds:List AV} (x:h.own A cs) (y:h.own B ds) (f:cs.length≠ds.length):A≠B:=by
 intro e;subst e
 have:=x.1.symm.trans y.1
 simp only [xF,Blk.row.injEq,and_true] at this;exact f (by rw [this])
section
variable {N:Nat} {s:Bs}
end
end Qp
namespace Qp
section
variable {N:Nat} {s:Bs}
end
end Qp
namespace Qp
def isTy:Nat->D->Prop
 | 0,_=>False
 | m+1,d=>∃ k x lv el,d=tyD k x lv el/\lv.length<=1000/\el.length<=1000/\∀ e∈el,isTy m e
def isTy.up:∀ {m:Nat} {d:D},isTy m d->∀ {f:Nat},m<=f->isTy f d
 | m+1,d,⟨k,x,lv,el,p,r,h,u⟩,f+1,j=>⟨k,x,lv,el,p,r,h,fun e w=>(u e w).up (Nat.le_of_succ_le_succ j)⟩
section
variable {N:Nat} {h h':Heap} {V W:Nat->Prop}
def dA5 {s:SL} {xs:List Bs} (x:Sl h V s (xs.map D.s)) {i:Nat} (hi:i<xs.length):h.cell (s.at i 1)=some (.str xs[i]):=by
 have ⟨cs,e⟩:=x.elt (i:=i) (by rw [xS];exact hi);have hd:=e.dt;rw [List.getElem_map] at hd;simp only [Dt] at hd;have f:=e.len;rw [hd] at f;have j:s.sz=1:=by simpa using f.symm
 have:=e.cell 0 (by omega)
 rw [j,hd] at this;simpa using this
end
end Qp
namespace Qp
end Qp
namespace Qz
open Qa
def asF (a b:AV) (h:Heap):yO0 Bool:=match asN [a,b] h with
 | some (.bool r,h')=>some (r,h')
 | _=>none
def cAc (_N:Nat):pC Tryz.prog 192 [(.one .any),(.one .any)] (.val (.one .bool)) (fun x h=>asF x.1 x.2.1 h):=by
 intro xs h r h' u μ w args' j p;have f:asF xs.1 xs.2.1 h=some (r,h'):=u;unfold asF at f
 split at f
 ·rename_i b A y
  simp only [xF,xI] at f;obtain ⟨rfl,rfl⟩:=f;exact iBs y j p
 ·cases f
end Qz
namespace Qw
open Go.RowKit Go.Stop
def oAy (w:World):Calls Tryz.prog 258 #[.string ⟨#[]⟩] w fun e w'=>e=.returned (.string ⟨#[]⟩)/\w'=w:=by
 go_enter Tryz.func258,Tryz.ntmps258
 go_wp2
 all_goals (go_ret;exact ⟨rfl,rfl⟩)
def uBv (s:ByteArray) (T:TypeId) (a:Addr) (w:World) (f:w.cell? ⟨3,0,none⟩=some (.iface T (.pointer (some a)))):Calls Tryz.prog 246 #[.string s,.string ⟨#[]⟩] w fun e w'=>e=.returned (.pointer (some ⟨w.heap.size,0,none⟩))/\(w'.Alike (w.alloc (.cells #[.string s,.string ⟨#[]⟩,.iface T (.pointer (some a))] 271))/\w'.tape=w.tape):=by
 go_enter Tryz.func246,Tryz.ntmps246
 go_wp2
 go_region_with (go_at_call 258;refine (oAy _).mono ?_;rintro e w' ⟨rfl,rfl⟩)
 all_goals (try go_wp2)
 all_goals (go_ret;exact ⟨rfl,⟨rfl,rfl,rfl⟩,rfl⟩)
set_option maxRecDepth 100000 in
def bBt (s:ByteArray) (T:TypeId) (a:Addr) (n m:Int) (w:World) (h:w.cell? ⟨3,0,none⟩=some (.iface T (.pointer (some a)))):Calls Tryz.prog 234 #[.string s,.string ⟨#[]⟩,.int .i64 n,.int .i64 m,.iface 256 (.int .i64 2)] w fun e w'=>e=.returned (.iface 259 (.pointer (some ⟨w.heap.size,0,none⟩)))/\(w'.Alike (w.alloc (.cells #[.string s,.string ⟨#[]⟩,.iface T (.pointer (some a))] 271))/\w'.tape=w.tape):=by
 have j:∀ w,(binOp .eql 29 (.iface 256 (.int .i64 2)) (.iface 256 (.int .i64 2))).run Tryz.prog w=.ok (.bool true) w:=fun w=>by kernel_rfl
 go_enter Tryz.func234,Tryz.ntmps234
 go_wp2_with (go_at_call 246;refine (uBv s T a _ h).mono ?_;rintro e w' ⟨rfl,f⟩)
 all_goals (go_ret;exact ⟨rfl,f⟩)
open Ai Qa
def wBh:Ai.Loc:=⟨3,0,1,false⟩
def sen:AV:=.iface 275 (.ptr (some (3,0)))
def pinned (h:Heap):Bool:=Qx.pinned h&&pA4 2 wBh h.pins&&vAk (h.t.get 2) [sen]
def oBr:AV->Bool
 | .iface t (.int .i64 n)=>Nat.beq t 256&&pA n 2
 | _=>false
def mAh (s u:List UInt8) (_n _m:Int) (e:AV) (h:Heap):yO0 AV:=bif bB u []&&oBr e&&pinned h then some (.iface 259 (.ptr (some (h.next,0))),h.push (.row [.str s,.str [],sen] .own)) else none
def vBb {e:AV} (h:oBr e=true):e=.iface 256 (yI0 2):=by
 unfold oBr at h
 split at h
 ·rename_i t n
  simp only [xG] at h;have f:=h.2;rw [pAg,xU] at f;rw [xK h.1,f]
 ·cases h
def lAl (_N:Nat):pC Tryz.prog 234 [(.one .str),(.one .str),(.one (.int .i64)),(.one (.int .i64)),(.one .any)] (.val (.one .any)) (fun x h=>mAh x.1 x.2.1 x.2.2.1 x.2.2.2.1 x.2.2.2.2.1 h):=by
 intro xs h r h' hx μ w args' B Y;have ⟨s,u,n,m,e,_⟩:=xs;have f:mAh s u n m e h=some (r,h'):=hx;unfold mAh at f
 cases C:(bB u []&&oBr e&&pinned h) with
 | false=>rw [C] at f;cases f
 | true=>
  rw [C] at f;simp only [xA,xF,xI] at f;obtain ⟨rfl,rfl⟩:=f;simp only [xG,pinned] at C;have ⟨⟨L,I⟩,⟨_,b3⟩,b4⟩:=C;rw [tH,beq_iff_eq] at L;subst L;have I:=vBb I;subst I;have p:VRs μ [.str s,.str [],.int .i64 n,.int .i64 m,.iface 256 (.int .i64 2)] args'.toList:=Y;simp only [VRs,VR] at p;obtain ⟨y1,a2,S,rfl,y2,a0,e2,rfl,y3,a1,e3,rfl,y4,a3,R,rfl,y5,W,e5,⟨z,rfl,rfl⟩,e6⟩:=p;subst e2 e3 R e5 e6;have ea:args' = #[.string ⟨s.toArray⟩,.string ⟨[].toArray⟩,.int .i64 n,.int .i64 m,.iface 256 (.int .i64 2)]:=by rw [<- Array.toList_inj,S]
  subst ea;have K:=B.pin _ (dQ b3);have A:RowR μ w wBh [sen]:=B.blk 2 wBh _ K (kAp b4);have ⟨y,Z,F⟩:=A.cell 0 sen rfl;have J:=F;simp only [sen,VR] at F;obtain ⟨x',rfl,l,hl,rfl⟩:=F;refine ⟨uR uBh (fn:=Tryz.f234) (by kernel_rfl) (by kernel_rfl) _ _,(bBt ⟨s.toArray⟩ 275 ⟨l.b,l.sh+0,none⟩ n m w Z).mono ?_⟩;rintro ev w' ⟨rfl,⟨O,U,q3⟩,V⟩;have H:VRs μ [.str s,.str [],sen] (#[.string ⟨s.toArray⟩,.string ⟨#[]⟩,.iface 275 (.pointer (some ⟨l.b,l.sh+0,none⟩))]:Array Value).toList:=VRs.cons (by simp only [VR]) (VRs.cons (by simp only [VR]) (VRs.cons J VRs.nil));have ⟨M,g1,Q,g3,g4,X,g6⟩:=B.pushRow _ _ 271 H;have j:Below (w.alloc (.cells #[.string ⟨s.toArray⟩,.string ⟨#[]⟩,.iface 275 (.pointer (some ⟨l.b,l.sh+0,none⟩))] 271)).heap.size (w.alloc (.cells #[.string ⟨s.toArray⟩,.string ⟨#[]⟩,.iface 275 (.pointer (some ⟨l.b,l.sh+0,none⟩))] 271)) w':=⟨U,V,q3,by rw [O];exact xD _,fun k _=>by rw [O]⟩;refine ⟨_,rfl,μ.add h.next M,?_,X.below j,Ext.trans B g6 (Ext.of_below j)⟩;show VR _ (.iface 259 (.ptr (some (h.next,0)))) _;simp only [VR];refine ⟨_,rfl,M,by simp [Mu.add],?_⟩;rw [g1,Q]
end Qw
namespace Qp
noncomputable section
def f154 (N:Nat) (w:zH3) (h:Heap):yO0 zG1:=let C:=h.push (.row yZD .own);(jA (f94 N w 1 C) fun A p=>let H:=p.push (.row yZD .own);(vA (H.store (p.next,0) [(.bool false),(.str A),(yI0 0),(.str []),yS0,yS0]) fun I=>(jA (f149 N w [58] I) fun J F=>(jA (f55 N N w 1 F) fun y B=>(vA (B.store (p.next,2) (yRE y)) fun f=>(iA (.val zP) (f.cells (p.next,0) 6) fun r=>(vA (f.store (h.next,0) (yRF r)) fun j=>(iA (.val zP) (j.cells (h.next,0) 6) fun u=>some (u,j)))))))))
def mBk:Ann:=.n
def mAl (N:Nat):pC Tryz.prog 154 [zI3] (.val zP) (fun x h=>f154 N x.1 h):=kD (bA (eQ N) (bA (oB8 N) (bA (qK N) kA))) N mBk Tryz.f154
def f153 (N:Nat) (w B:zH3) (h:Heap):yO0 (Unit):=(vA w fun f=>(iA (.val zJ3) (h.cell (f.1,f.2+3)) fun p=>(vA B fun H=>(iA (.val zI3) (h.cell H) fun y=>(jA (f154 N y h) fun I r=>let A:=r.push (.row (yRF I) .own);(tD (.val zJ3) (nB E 37 37 (yL p) (.slice (some (r.next,0)) 1 1 6) A) fun C F=>(vA w fun j=>(vA (F.store (j.1,j.2+3) [(yL C)]) fun u=>(pD (bif (mF B fun q=>jB (h.cell q) (.ptr y)) then (bif (jB (A.cell (f.1,f.2+3)) (yL p)) then (bif (jB (r.cell (f.1,f.2+3)) (yL p)) then (bif (jB (h.cell (f.1,f.2+3)) (yL p)) then true else false) else false) else false) else false) ( some ((()),u)))))))))))
def nBk:Ann:=.n
def wBb (N:Nat):pC Tryz.prog 153 [zI3,zI3] (.tup []) (fun x h=>f153 N x.1 x.2.1 h):=kD (bA (mAl N) kA) N nBk Tryz.f153
def pN (N:Nat) (y:zH3->zO3->zU->Int->Heap->Option (Out×(Unit)×Heap)) (f:zH3) (r:zO3) (v2:zU) (u:Int) (h:Heap):Option (Out×(Unit)×Heap):=(jA (f188 N f u h) fun C p=>(bif C then(jA (f153 N v2.1 v2.2.1 p) fun H F=>(jA (f93 N f r F) fun B j=>let w:=!B;(bif w then some (Out.ret,(()),j)else let A:=fB .i64 (u+1);y f r v2 A j)))else some ((Out.exit 0),(()),p)))
def qN (N M:Nat) (p:zH3) (f:zO3) (v2:zU) (j:Int) (h:Heap):Option (Out×(Unit)×Heap):=iter (fun r s h=>pN N (fun p f v2 j h=>r (p,f,v2,j,()) h) s.1 s.2.1 s.2.2.1 s.2.2.2.1 h) M (p,f,v2,j,()) h
def vA0 (N M v0 v1 v2 v6 h):qN N (M+1) v0 v1 v2 v6 h=pN N (qN N M) v0 v1 v2 v6 h:=rfl
def bA2 (N:Nat) (p:zH3) (w:zO3) (j:zU) (h:Heap):yO0 (Unit):=(rD (qN N N p w j 0 h) fun r (u:(Unit)) f=>(bif vD r (.exit 0) then some ((()),f)else some ((()),f)))
def jAt:Ann:=(.two .n (.two (.loop [(0,zI3),(1,zK3),(2,(.clo 153 [.ptr,.ptr])),(6,zM3)] [(.exit 0),.ret] [] .n) .n))
def nAl (N:Nat):pC Tryz.prog 147 [zI3,zK3,(.clo 153 [.ptr,.ptr])] (.tup []) (fun x h=>bA2 N x.1 x.2.1 x.2.2.1 h):=kD (bA (vH N) (bA (fQ N) (bA (wBb N) kA))) N jAt Tryz.f147
def f102 (N:Nat) (a0:zH3) (a1:Bool) (W:Int) (h:Heap):yO0 zF1:=let u:=h.push (.row [(.ptr a0)] .own);let S:=u.push (.row yZF .own);(iA (.val zI3) (S.cell (h.next,0)) fun x3=>(jA (f94 N x3 1 S) fun Y j=>let h6:=j.push (.row yZF .own);(vA (h6.store (j.next,0) [(.bool a1),(.str Y),yS0,yS0,(yI0 W)]) fun U=>(iA (.val zI3) (U.cell (h.next,0)) fun X=>(jA (f96 N X U) fun V C=>(vA (C.store (j.next,2) [(yL V)]) fun y=>(iA (.val zI3) (y.cell (h.next,0)) fun J=>(jA (f149 N J [123] y) fun a4 p=>(iA (.val zI3) (p.cell (h.next,0)) fun M=>(jA (f93 N M [125] p) fun F f=>let L:=!F;(bif L then(iA (.val zI3) (f.cell (h.next,0)) fun Q=>(jA (bA2 N Q [44] ((some (j.next,0)),(some (h.next,0)),()) f) fun a3 A=>(iA (.val zI3) (A.cell (h.next,0)) fun O=>(jA (f149 N O [125] A) fun Z B=>(iA (.val zJ) (B.cells (j.next,0) 5) fun R=>(vA (B.store (u.next,0) (yRG R)) fun r=>(iA (.val zJ) (r.cells (u.next,0) 5) fun H=>some (H,r))))))))else(iA (.val zJ) (f.cells (j.next,0) 5) fun I=>(vA (f.store (u.next,0) (yRG I)) fun w=>(iA (.val zJ) (w.cells (u.next,0) 5) fun K=>some (K,w)))))))))))))))
def oBk:Ann:=.n
def yBb (N:Nat):pC Tryz.prog 102 [zI3,zL3,zM3] (.val zJ) (fun x h=>f102 N x.1 x.2.1 x.2.2.1 h):=kD (bA (nB8 N) (bA (eQ N) (bA (vH N) (bA (qK N) (iC (sel:=fun a=>mJ 2 153 a) (nAl N) kA))))) N oBk Tryz.f102
noncomputable def f192 (N:Nat) (f j:AV) (h:Heap):yO0 Bool:=Qz.asF f j h
def cAc (N:Nat):pC Tryz.prog 192 [zN3,zN3] (.val zL3) (fun x h=>f192 N x.1 x.2.1 h):=Qz.cAc N
def f191 (N:Nat) (j:AV) (h:Heap):yO0 zH3:=let p:=h.push (.row [(.ptr none)] .own);(iA (.val zL3) (tM E .neq 29 (.tmp 4) (.const .nilIface) j AV.nilIface) fun r=>(bif r then(jA (f192 N j (AV.iface 214 (.ptr (some (h.next,0)))) p) fun w f=>(bif w then(iA (.val zI3) (f.cell (h.next,0)) fun u=>some (u,f))else some (none,f)))else some (none,p)))
def pBk:Ann:=.n
def aBc (N:Nat):pC Tryz.prog 191 [zN3] (.val zI3) (fun x h=>f191 N x.1 h):=kD (bA (cAc N) kA) N pBk Tryz.f191
def f159 (N:Nat) (p:AV) (h:Heap):yO0 Int:=(iA (.val zL3) (tM E .eql 29 (.tmp 5) (.const .nilIface) p AV.nilIface) fun B=>(bif B then some (0,h)else(jA (f191 N p h) fun w f=>let A:Bool:=(!w.isNone);(bif A then(vA w fun u=>(iA (.val zM3) (f.cell (u.1,u.2+0)) fun C=>some (C,f)))else let F:=f.push (.row yZK .own);(jA (f192 N p (AV.iface 199 (.ptr (some (f.next,0)))) F) fun y r=>(bif y then(iA (.val zM3) (r.cell (f.next,0)) fun j=>some (j,r))else some (1,r)))))))
def qBk:Ann:=.n
def bBc (N:Nat):pC Tryz.prog 159 [zN3] (.val zM3) (fun x h=>f159 N x.1 h):=kD (bA (cAc N) (bA (aBc N) kA)) N qBk Tryz.f159
def vB8:Ann:=.n
def f104 (N:Nat) (f:AV) (j:Int) (h:Heap):yO0 AV:=runK E (nK 159 [zN3] (.val zM3) (fun x h=>f159 N x.1 h) oAw) N vB8 Tryz.f104 (Tryz.f104.body.getD .skip) (.val zN3) [f,yI0 j] h
def cBc (N:Nat):pC Tryz.prog 104 [zN3,zM3] (.val zN3) (fun x h=>f104 N x.1 x.2.1 h):=oAk fBb mBr (bA (bBc N) kA) (N:=N) (x:=vB8) (fn:=Tryz.f104) (c:=Tryz.f104.body.getD .skip) (by kernel_rfl) (by kernel_rfl) (by kernel_rfl) (by kernel_rfl) (fun _ _=>rfl)
def mB5 (N:Nat) (f:Int) (h:Heap):f104 N AV.nilIface f h=some (AV.nilIface,h):=by kernel_rfl
def kAt (N:Nat) (p:zH3) (j:Int) (h:Heap):f104 N (AV.iface 127 (.ptr p)) j h=(jA (f159 N (AV.iface 127 (.ptr p)) h) fun (r:Int) f=>
  let u:=f.push (.row [(yI0 r),(yI0 j),(AV.iface 127 (.ptr p))] .own)
  some ((AV.iface 127 (.ptr (some (f.next,0)))),u)):=by kernel_rfl
def f189 (N:Nat) (w B:zH3) (h:Heap):yO0 (Unit):=(vA w fun f=>(iA (.val zJ3) (h.cell (f.1,f.2+1)) fun p=>(vA B fun H=>(iA (.val zI3) (h.cell H) fun y=>(jA (f94 N y 3 h) fun I r=>let A:=r.push (.row [(.str I)] .own);(tD (.val zJ3) (nB E 38 38 (yL p) (.slice (some (r.next,0)) 1 1 1) A) fun C F=>(vA w fun j=>(vA (F.store (j.1,j.2+1) [(yL C)]) fun u=>(pD (bif (mF B fun q=>jB (h.cell q) (.ptr y)) then (bif (jB (A.cell (f.1,f.2+1)) (yL p)) then (bif (jB (r.cell (f.1,f.2+1)) (yL p)) then (bif (jB (h.cell (f.1,f.2+1)) (yL p)) then true else false) else false) else false) else false) ( some ((()),u)))))))))))
def rBk:Ann:=.n
def dBc (N:Nat):pC Tryz.prog 189 [zI3,zI3] (.tup []) (fun x h=>f189 N x.1 x.2.1 h):=kD (bA (eQ N) kA) N rBk Tryz.f189
def rN (N:Nat) (y:zH3->zO3->zU->Int->Heap->Option (Out×(Unit)×Heap)) (f:zH3) (r:zO3) (v2:zU) (u:Int) (h:Heap):Option (Out×(Unit)×Heap):=(jA (f188 N f u h) fun C p=>(bif C then(jA (f189 N v2.1 v2.2.1 p) fun H F=>(jA (f93 N f r F) fun B j=>let w:=!B;(bif w then some (Out.ret,(()),j)else let A:=fB .i64 (u+1);y f r v2 A j)))else some ((Out.exit 0),(()),p)))
def tN (N M:Nat) (p:zH3) (f:zO3) (v2:zU) (j:Int) (h:Heap):Option (Out×(Unit)×Heap):=iter (fun r s h=>rN N (fun p f v2 j h=>r (p,f,v2,j,()) h) s.1 s.2.1 s.2.2.1 s.2.2.2.1 h) M (p,f,v2,j,()) h
def wA0 (N M v0 v1 v2 v6 h):tN N (M+1) v0 v1 v2 v6 h=rN N (tN N M) v0 v1 v2 v6 h:=rfl
def dA2 (N:Nat) (p:zH3) (w:zO3) (j:zU) (h:Heap):yO0 (Unit):=(rD (tN N N p w j 0 h) fun r (u:(Unit)) f=>(bif vD r (.exit 0) then some ((()),f)else some ((()),f)))
def lAt:Ann:=(.two .n (.two (.loop [(0,zI3),(1,zK3),(2,(.clo 189 [.ptr,.ptr])),(6,zM3)] [(.exit 0),.ret] [] .n) .n))
def oAl (N:Nat):pC Tryz.prog 147 [zI3,zK3,(.clo 189 [.ptr,.ptr])] (.tup []) (fun x h=>dA2 N x.1 x.2.1 x.2.2.1 h):=kD (bA (vH N) (bA (dBc N) (bA (fQ N) kA))) N lAt Tryz.f147
def f156 (N:Nat) (Q:zH3) (h:Heap):yO0 zD1:=let j:=h.push (.row [(.ptr Q)] .own);let H:=j.push (.row yZI .own);(iA (.val zI3) (H.cell (h.next,0)) fun R=>(jA (f94 N R 3 H) fun L r=>let O:=r.push (.row yZI .own);(vA (O.store (r.next,0) [(.str L),yS0]) fun I=>(iA (.val zI3) (I.cell (h.next,0)) fun K=>(jA (f93 N K [58] I) fun J f=>(bif J then(iA (.val zI3) (f.cell (h.next,0)) fun C=>(jA (dA2 N C [43] ((some (r.next,0)),(some (h.next,0)),()) f) fun M w=>(iA (.val zM) (w.cells (r.next,0) 2) fun B=>(vA (w.store (j.next,0) (yRH B)) fun u=>(iA (.val zM) (u.cells (j.next,0) 2) fun y=>some (y,u))))))else(iA (.val zM) (f.cells (r.next,0) 2) fun A=>(vA (f.store (j.next,0) (yRH A)) fun p=>(iA (.val zM) (p.cells (j.next,0) 2) fun F=>some (F,p))))))))))
def tBk:Ann:=.n
def eBc (N:Nat):pC Tryz.prog 156 [zI3] (.val zM) (fun x h=>f156 N x.1 h):=kD (bA (eQ N) (bA (vH N) (iC (sel:=fun a=>mJ 2 189 a) (oAl N) kA))) N tBk Tryz.f156
def f155 (N:Nat) (w B:zH3) (h:Heap):yO0 (Unit):=(vA w fun f=>(iA (.val zJ3) (h.cell (f.1,f.2+2)) fun p=>(vA B fun H=>(iA (.val zI3) (h.cell H) fun y=>(jA (f156 N y h) fun I r=>let A:=r.push (.row (yRH I) .own);(tD (.val zJ3) (nB E 36 36 (yL p) (.slice (some (r.next,0)) 1 1 2) A) fun C F=>(vA w fun j=>(vA (F.store (j.1,j.2+2) [(yL C)]) fun u=>(pD (bif (mF B fun q=>jB (h.cell q) (.ptr y)) then (bif (jB (A.cell (f.1,f.2+2)) (yL p)) then (bif (jB (r.cell (f.1,f.2+2)) (yL p)) then (bif (jB (h.cell (f.1,f.2+2)) (yL p)) then true else false) else false) else false) else false) ( some ((()),u)))))))))))
def uBk:Ann:=.n
def fBc (N:Nat):pC Tryz.prog 155 [zI3,zI3] (.tup []) (fun x h=>f155 N x.1 x.2.1 h):=kD (bA (eBc N) kA) N uBk Tryz.f155
def uN (N:Nat) (y:zH3->zO3->zU->Int->Heap->Option (Out×(Unit)×Heap)) (f:zH3) (r:zO3) (v2:zU) (u:Int) (h:Heap):Option (Out×(Unit)×Heap):=(jA (f188 N f u h) fun C p=>(bif C then(jA (f155 N v2.1 v2.2.1 p) fun H F=>(jA (f93 N f r F) fun B j=>let w:=!B;(bif w then some (Out.ret,(()),j)else let A:=fB .i64 (u+1);y f r v2 A j)))else some ((Out.exit 0),(()),p)))
def vN (N M:Nat) (p:zH3) (f:zO3) (v2:zU) (j:Int) (h:Heap):Option (Out×(Unit)×Heap):=iter (fun r s h=>uN N (fun p f v2 j h=>r (p,f,v2,j,()) h) s.1 s.2.1 s.2.2.1 s.2.2.2.1 h) M (p,f,v2,j,()) h
def yA0 (N M v0 v1 v2 v6 h):vN N (M+1) v0 v1 v2 v6 h=uN N (vN N M) v0 v1 v2 v6 h:=rfl
def iW (N:Nat) (p:zH3) (w:zO3) (j:zU) (h:Heap):yO0 (Unit):=(rD (vN N N p w j 0 h) fun r (u:(Unit)) f=>(bif vD r (.exit 0) then some ((()),f)else some ((()),f)))
def mAt:Ann:=(.two .n (.two (.loop [(0,zI3),(1,zK3),(2,(.clo 155 [.ptr,.ptr])),(6,zM3)] [(.exit 0),.ret] [] .n) .n))
def pAl (N:Nat):pC Tryz.prog 147 [zI3,zK3,(.clo 155 [.ptr,.ptr])] (.tup []) (fun x h=>iW N x.1 x.2.1 x.2.2.1 h):=kD (bA (vH N) (bA (fQ N) (bA (fBc N) kA))) N mAt Tryz.f147
def f157 (N:Nat) (J I:zH3) (h:Heap):yO0 (Unit):=(vA J fun R=>(iA (.val zI3) (h.cell R) fun O=>(jA (f92 N O [109,117,116] h) fun S H=>(vA J fun L=>(iA (.val zI3) (H.cell L) fun M=>(jA (f154 N M H) fun K r=>let Q:=r.push (.row yZD .own);(vA (Q.store (r.next,0) (yRF K)) fun u=>(vA (u.store (r.next,0) [(.bool S)]) fun f=>(vA I fun j=>(iA (.val zJ3) (f.cell (j.1,j.2+3)) fun C=>(iA (.val zP) (f.cells (r.next,0) 6) fun A=>let F:=f.push (.row (yRF A) .own);(tD (.val zJ3) (nB E 37 37 (yL C) (.slice (some (f.next,0)) 1 1 6) F) fun w y=>(vA I fun p=>(vA (y.store (p.1,p.2+3) [(yL w)]) fun B=>some ((()),B)))))))))))))))
def vBk:Ann:=.n
def gBc (N:Nat):pC Tryz.prog 157 [zI3,zI3] (.tup []) (fun x h=>f157 N x.1 x.2.1 h):=kD (bA (tZ N) (bA (mAl N) kA)) N vBk Tryz.f157
def wN (N:Nat) (y:zH3->zO3->zU->Int->Heap->Option (Out×(Unit)×Heap)) (f:zH3) (r:zO3) (v2:zU) (u:Int) (h:Heap):Option (Out×(Unit)×Heap):=(jA (f188 N f u h) fun C p=>(bif C then(jA (f157 N v2.1 v2.2.1 p) fun H F=>(jA (f93 N f r F) fun B j=>let w:=!B;(bif w then some (Out.ret,(()),j)else let A:=fB .i64 (u+1);y f r v2 A j)))else some ((Out.exit 0),(()),p)))
def yN (N M:Nat) (p:zH3) (f:zO3) (v2:zU) (j:Int) (h:Heap):Option (Out×(Unit)×Heap):=iter (fun r s h=>wN N (fun p f v2 j h=>r (p,f,v2,j,()) h) s.1 s.2.1 s.2.2.1 s.2.2.2.1 h) M (p,f,v2,j,()) h
def aA1 (N M v0 v1 v2 v6 h):yN N (M+1) v0 v1 v2 v6 h=wN N (yN N M) v0 v1 v2 v6 h:=rfl
def jW (N:Nat) (p:zH3) (w:zO3) (j:zU) (h:Heap):yO0 (Unit):=(rD (yN N N p w j 0 h) fun r (u:(Unit)) f=>(bif vD r (.exit 0) then some ((()),f)else some ((()),f)))
def nAt:Ann:=(.two .n (.two (.loop [(0,zI3),(1,zK3),(2,(.clo 157 [.ptr,.ptr])),(6,zM3)] [(.exit 0),.ret] [] .n) .n))
def qAl (N:Nat):pC Tryz.prog 147 [zI3,zK3,(.clo 157 [.ptr,.ptr])] (.tup []) (fun x h=>jW N x.1 x.2.1 x.2.2.1 h):=kD (bA (vH N) (bA (fQ N) (bA (gBc N) kA))) N nAt Tryz.f147
def kW (N:Nat) (V:zH3->zH3->zH3->Heap->Option (Out×zU×Heap)) (u v2 v3:zH3) (h:Heap):Option (Out×zU×Heap):=(jA (f93 N u [46] h) fun X U=>(bif X then(vA v3 fun W=>(iA (.val zJ3) (U.cell (W.1,W.2+1)) fun Y=>(jA (f188 N u (Int.ofNat Y.len) U) fun K A=>(bif K then(jA (f93 N u [42] A) fun Q j=>(bif Q then(vA v3 fun C=>(iA (.val zJ3) (j.cell (C.1,C.2+1)) fun S=>let F:=j.push (.row [(.str [42])] .own);(tD (.val zJ3) (nB E 38 38 (yL S) (.slice (some (j.next,0)) 1 1 1) F) fun J L=>(vA v3 fun y=>(vA (L.store (y.1,y.2+1) [(yL J)]) fun I=>V u v2 v3 I)))))else(vA v3 fun f=>(iA (.val zJ3) (j.cell (f.1,f.2+1)) fun p=>(jA (f94 N u 1 j) fun O r=>let B:=r.push (.row [(.str O)] .own);(tD (.val zJ3) (nB E 38 38 (yL p) (.slice (some (r.next,0)) 1 1 1) B) fun H R=>(vA v3 fun w=>(vA (R.store (w.1,w.2+1) [(yL H)]) fun M=>(pD (bif (jB (B.cell (f.1,f.2+1)) (yL p)) then (bif (jB (r.cell (f.1,f.2+1)) (yL p)) then (bif (jB (j.cell (f.1,f.2+1)) (yL p)) then true else false) else false) else false) ( V u v2 v3 M))))))))))else some ((Out.exit 0),(v2,v3,()),A)))))
 else some ((Out.exit 0),(v2,v3,()),U)))
def dAc (N M:Nat) (f v2 v3:zH3) (h:Heap):Option (Out×zU×Heap):=iter (fun j s h=>kW N (fun f v2 v3 h=>j (f,v2,v3,()) h) s.1 s.2.1 s.2.2.1 h) M (f,v2,v3,()) h
def wZ (N M v0 v2 v3 h):dAc N (M+1) v0 v2 v3 h=kW N (dAc N M) v0 v2 v3 h:=rfl
def f221 (N:Nat) (C:zH3) (h:Heap):yO0 zD1:=let H:=h.push (.row yZI .own);(jA (f94 N C 1 H) fun F r=>let I:=r.push (.row yZI .own);(vA (I.store (r.next,0) [(.str F),yS0]) fun J=>(rD (dAc N N C (some (h.next,0)) (some (r.next,0)) J) fun _ (f:zU) p=>(vA f.2.1 fun u=>(iA (.val zM) (p.cells u 2) fun w=>(vA f.1 fun y=>(vA (p.store y (yRH w)) fun j=>(vA f.1 fun A=>(iA (.val zM) (j.cells A 2) fun B=>some (B,j))))))))))
def wBk:Ann:=(.two .n (.two .n (.two (.two (.loop [(0,zI3),(2,zI3),(3,zI3)] [(.exit 0)] [(2,zI3),(3,zI3)] .n) .n) .n)))
def rAl (N:Nat):pC Tryz.prog 221 [zI3] (.val zM) (fun x h=>f221 N x.1 h):=kD (bA (eQ N) (bA (vH N) (bA (fQ N) kA))) N wBk Tryz.f221
noncomputable def f262 (N:Nat) (f:Int) (h:Heap):yO0 Int:=(iA (.val (.one (.int .u8))) (oAv .or .u8 f 32) fun j=>some (j,h))
def yBk:Ann:=.n
def pAy (N:Nat):pC Tryz.prog 262 [(.one (.int .u8))] (.val (.one (.int .u8))) (fun x h=>f262 N x.1 h):=kD kA N yBk Tryz.f262
def qAy (N:Nat) (j:zO3->Bool->Int->Int->Bool->Heap->Option (Out×zZ2×Heap)) (f:zO3) (v2:Bool) (v3 v4:Int) (v5:Bool) (h:Heap):Option (Out×zZ2×Heap):=let c6:=ltInt v4 (Int.ofNat f.length);(bif c6 then(iL f v4 fun d0=>let b0:Bool:=cD 48 d0;(bif b0 then(iL f v4 fun b8=>let a4:Bool:=cD b8 57;(bif a4 then let I:=fB .i64 (v4+1);j f v2 48 I v5 h else(bif v5 then(iL f v4 fun d5=>(jA (f262 N d5 h) fun c8 r=>let y:Bool:=cD 97 c8;(bif y then(iL f v4 fun J=>(jA (f262 N J r) fun Q p=>let B:Bool:=cD Q 102;(bif B then let c5:=fB .i64 (v4+1);j f v2 48 c5 v5 p else(iL f v4 fun d3=>let M:=pA d3 95;(bif M then let c0:=!pA v3 48;(bif c0 then some (Out.ret,(false,v3,()),p)else let X:=fB .i64 (v4+1);j f v2 95 X v5 p)else let a0:=pA v3 95;(bif a0 then some (Out.ret,(false,v3,()),p)else let a9:=fB .i64 (v4+1);j f v2 33 a9 v5 p))))))else(iL f v4 fun a7=>let b4:=pA a7 95;(bif b4 then let Z:=!pA v3 48;(bif Z then some (Out.ret,(false,v3,()),r)else let U:=fB .i64 (v4+1);j f v2 95 U v5 r)else let a2:=pA v3 95;(bif a2 then some (Out.ret,(false,v3,()),r)else let c2:=fB .i64 (v4+1);j f v2 33 c2 v5 r))))))else(iL f v4 fun a8=>let b2:=pA a8 95;(bif b2 then let c7:=!pA v3 48;(bif c7 then some (Out.ret,(false,v3,()),h)else let A:=fB .i64 (v4+1);j f v2 95 A v5 h)else let C:=pA v3 95;(bif C then some (Out.ret,(false,v3,()),h)
 else let d6:=fB .i64 (v4+1);j f v2 33 d6 v5 h))))))else(bif v5 then(iL f v4 fun F=>(jA (f262 N F h) fun V w=>let d4:Bool:=cD 97 V;(bif d4 then(iL f v4 fun R=>(jA (f262 N R w) fun b7 u=>let a5:Bool:=cD b7 102;(bif a5 then let S:=fB .i64 (v4+1);j f v2 48 S v5 u else(iL f v4 fun c3=>let d7:=pA c3 95;(bif d7 then let L:=!pA v3 48;(bif L then some (Out.ret,(false,v3,()),u)else let b1:=fB .i64 (v4+1);j f v2 95 b1 v5 u)else let K:=pA v3 95;(bif K then some (Out.ret,(false,v3,()),u)else let b3:=fB .i64 (v4+1);j f v2 33 b3 v5 u))))))else(iL f v4 fun a3=>let W:=pA a3 95;(bif W then let H:=!pA v3 48;(bif H then some (Out.ret,(false,v3,()),w)else let b6:=fB .i64 (v4+1);j f v2 95 b6 v5 w)else let a6:=pA v3 95;(bif a6 then some (Out.ret,(false,v3,()),w)else let c9:=fB .i64 (v4+1);j f v2 33 c9 v5 w))))))else(iL f v4 fun Y=>let b9:=pA Y 95;(bif b9 then let a1:=!pA v3 48;(bif a1 then some (Out.ret,(false,v3,()),h)else let b5:=fB .i64 (v4+1);j f v2 95 b5 v5 h)else let c4:=pA v3 95;(bif c4 then some (Out.ret,(false,v3,()),h)else let O:=fB .i64 (v4+1);j f v2 33 O v5 h))))))else some ((Out.exit 0),(v2,v3,()),h))
def iBc (N M:Nat) (f:zO3) (v2:Bool) (v3 v4:Int) (v5:Bool) (h:Heap):Option (Out×zZ2×Heap):=iter (fun j s h=>qAy N (fun f v2 v3 v4 v5 h=>j (f,v2,v3,v4,v5,()) h) s.1 s.2.1 s.2.2.1 s.2.2.2.1 s.2.2.2.2.1 h) M (f,v2,v3,v4,v5,()) h
def f263 (N:Nat) (w:zO3) (h:Heap):yO0 Bool:=(jA (α:=zA3) ((jA (α:=zD2) ( let x1:Bool:=cD 1 (Int.ofNat w.length);(bif x1 then(iL w 0 fun x2=>let x3:=pA x2 45;(bif x3 then some ((w,false,94,0,true,()),h)else(iL w 0 fun x4=>let x5:=pA x4 43;some ((w,false,94,0,x5,()),h))))else some ((w,false,94,0,false,()),h))) fun (r:zD2) Y=>(bif r.2.2.2.2.1 then(iA (.val zK3) (cF E Y 9 (.str r.1) (some (yI0 1)) none) fun x8=>some ((x8,r.2.1,r.2.2.1,r.2.2.2.1,()),Y))else some ((r.1,r.2.1,r.2.2.1,r.2.2.2.1,()),Y)))) fun (f:zA3) u=>(jA (α:=zD2) ((jA (α:=zT2) ( let V:Bool:=cD 2 (Int.ofNat f.1.length);(bif V then(iL f.1 0 fun Q=>let S:=pA Q 48;(bif S then(iL f.1 1 fun R=>(jA (f262 N R u) fun W y=>let L:=pA W 98;(bif L then some ((f.1,f.2.1,f.2.2.1,f.2.2.2.1,false,true,()),y)else(iL f.1 1 fun U=>(jA (f262 N U y) fun a3 A=>let a4:=pA a3 111;(bif a4 then some ((f.1,f.2.1,f.2.2.1,f.2.2.2.1,false,true,()),A)else(iL f.1 1 fun Z=>(jA (f262 N Z A) fun O a1=>let J:=pA O 120;some ((f.1,f.2.1,f.2.2.1,f.2.2.2.1,false,J,()),a1)))))))))else some ((f.1,f.2.1,f.2.2.1,f.2.2.2.1,false,false,()),u)))else some ((f.1,f.2.1,f.2.2.1,f.2.2.2.1,false,false,()),u))) fun (j:zT2) C=>(bif j.2.2.2.2.2.1 then(iL j.1 1 fun M=>(jA (f262 N M C) fun a5 K=>let H:=pA a5 120;some ((j.1,j.2.1,48,2,H,()),K)))
 else some ((j.1,j.2.1,j.2.2.1,j.2.2.2.1,j.2.2.2.2.1,()),C)))) fun (p:zD2) I=>(rD (iBc N N p.1 p.2.1 p.2.2.1 p.2.2.2.1 p.2.2.2.2.1 I) fun a2 (B:zZ2) F=>(bif vD a2 (.exit 0) then let X:=!pA B.2.1 95;some (X,F)else some (B.1,F)))))
def aBl:Ann:=(.two .n (.two .n (.two .n (.two (.join [(0,zK3),(2,zL3),(3,(.one (.int .i32))),(4,zM3)] (.two (.join [(0,zK3),(2,zL3),(3,(.one (.int .i32))),(4,zM3),(18,zL3)] .n) .n)) (.two .n (.two (.join [(0,zK3),(2,zL3),(3,(.one (.int .i32))),(4,zM3),(5,zL3)] (.two (.join [(0,zK3),(2,zL3),(3,(.one (.int .i32))),(4,zM3),(5,zL3),(46,zL3)] .n) .n)) (.two (.two (.loop [(0,zK3),(2,zL3),(3,(.one (.int .i32))),(4,zM3),(5,zL3)] [(.exit 0),.ret] [(2,zL3),(3,(.one (.int .i32)))] .n) .n) .n)))))))
def jBc (N:Nat):pC Tryz.prog 263 [zK3] (.val zL3) (fun x h=>f263 N x.1 h):=kD (bA (pAy N) kA) N aBl Tryz.f263
def rAy (N:Nat) (go:Int->Int->AV->Bool->zO3->Int->Int->Bool->Int->SL->Int->Int->Heap->Option (Out×zQ1×Heap)) (v1 v6:Int) (v7:AV) (v8:Bool) (v9:zO3) (S a0:Int) (J:Bool) (K:Int) (B:SL) (A y:Int) (h:Heap):Option (Out×zQ1×Heap):=let c7:=ltInt y A;(bif c7 then(vA (α:=Sum (zO1×Heap) (Sum (zQ1×Heap) (Empty))) ((ixK B.a B.len y 1 fun b0=>(iA (.val (.one (.int .u8))) (h.cell b0) fun L=>(vA (α:=Sum (zF2×Heap) (Sum (zO1×Heap) (Sum (zQ1×Heap) (Empty)))) ((jA (α:=zH1) ( let d3:=pA L 95;(bif d3 then some ((v1,v6,v7,v8,v9,S,a0,J,K,L,B,A,y,v8,()),h)else some ((v1,v6,v7,v8,v9,S,a0,J,K,L,B,A,y,false,()),h))) fun (j:zH1) I=>(bif j.2.2.2.2.2.2.2.2.2.2.2.2.2.1 then some (Sum.inr (Sum.inl ((j.1,j.2.1,j.2.2.1,j.2.2.2.1,j.2.2.2.2.1,j.2.2.2.2.2.1,j.2.2.2.2.2.2.1,true,j.2.2.2.2.2.2.2.2.1,j.2.2.2.2.2.2.2.2.2.2.1,j.2.2.2.2.2.2.2.2.2.2.2.1,j.2.2.2.2.2.2.2.2.2.2.2.2.1,()),I)))else(jA (α:=zH1) ( let d8:Bool:=cD 48 j.2.2.2.2.2.2.2.2.2.1;(bif d8 then let b2:Bool:=cD j.2.2.2.2.2.2.2.2.2.1 57;some ((j.1,j.2.1,j.2.2.1,j.2.2.2.1,j.2.2.2.2.1,j.2.2.2.2.2.1,j.2.2.2.2.2.2.1,j.2.2.2.2.2.2.2.1,j.2.2.2.2.2.2.2.2.1,j.2.2.2.2.2.2.2.2.2.1,j.2.2.2.2.2.2.2.2.2.2.1,j.2.2.2.2.2.2.2.2.2.2.2.1,j.2.2.2.2.2.2.2.2.2.2.2.2.1,b2,()),I)else some ((j.1,j.2.1,j.2.2.1,j.2.2.2.1,j.2.2.2.2.1,j.2.2.2.2.2.1,j.2.2.2.2.2.2.1,j.2.2.2.2.2.2.2.1,j.2.2.2.2.2.2.2.2.1,j.2.2.2.2.2.2.2.2.2.1,j.2.2.2.2.2.2.2.2.2.2.1,j.2.2.2.2.2.2.2.2.2.2.2.1,j.2.2.2.2.2.2.2.2.2.2.2.2.1,false,()),I))) fun (f:zH1) a8=>
 (bif f.2.2.2.2.2.2.2.2.2.2.2.2.2.1 then let d7:=fB .u8 (f.2.2.2.2.2.2.2.2.2.1-48);some (Sum.inl ((f.1,f.2.1,f.2.2.1,f.2.2.2.1,f.2.2.2.2.1,f.2.2.2.2.2.1,f.2.2.2.2.2.2.1,f.2.2.2.2.2.2.2.1,f.2.2.2.2.2.2.2.2.1,d7,f.2.2.2.2.2.2.2.2.2.2.1,f.2.2.2.2.2.2.2.2.2.2.2.1,f.2.2.2.2.2.2.2.2.2.2.2.2.1,()),a8))else(jA (α:=zH1) ((jA (f262 N f.2.2.2.2.2.2.2.2.2.1 a8) fun b5 Q=>let b4:Bool:=cD 97 b5;(bif b4 then(jA (f262 N f.2.2.2.2.2.2.2.2.2.1 Q) fun c2 b7=>let c8:Bool:=cD c2 122;some ((f.1,f.2.1,f.2.2.1,f.2.2.2.1,f.2.2.2.2.1,f.2.2.2.2.2.1,f.2.2.2.2.2.2.1,f.2.2.2.2.2.2.2.1,f.2.2.2.2.2.2.2.2.1,f.2.2.2.2.2.2.2.2.2.1,f.2.2.2.2.2.2.2.2.2.2.1,f.2.2.2.2.2.2.2.2.2.2.2.1,f.2.2.2.2.2.2.2.2.2.2.2.2.1,c8,()),b7))else some ((f.1,f.2.1,f.2.2.1,f.2.2.2.1,f.2.2.2.2.1,f.2.2.2.2.2.1,f.2.2.2.2.2.2.1,f.2.2.2.2.2.2.2.1,f.2.2.2.2.2.2.2.2.1,f.2.2.2.2.2.2.2.2.2.1,f.2.2.2.2.2.2.2.2.2.2.1,f.2.2.2.2.2.2.2.2.2.2.2.1,f.2.2.2.2.2.2.2.2.2.2.2.2.1,false,()),Q)))) fun (w:zH1) V=>(bif w.2.2.2.2.2.2.2.2.2.2.2.2.2.1 then(jA (f262 N w.2.2.2.2.2.2.2.2.2.1 V) fun c4 b6=>let c5:=fB .u8 (c4-97);let c0:=fB .u8 (c5+10);some (Sum.inl ((w.1,w.2.1,w.2.2.1,w.2.2.2.1,w.2.2.2.2.1,w.2.2.2.2.2.1,w.2.2.2.2.2.2.1,w.2.2.2.2.2.2.2.1,w.2.2.2.2.2.2.2.2.1,c0,w.2.2.2.2.2.2.2.2.2.2.1,w.2.2.2.2.2.2.2.2.2.2.2.1,w.2.2.2.2.2.2.2.2.2.2.2.2.1,()),b6)))else some (Sum.inr (Sum.inr (Sum.inl ((0,(AV.iface 256 (yI0 2)),w.2.2.2.2.1,w.2.2.2.2.2.2.2.1,w.2.2.2.2.2.2.2.2.1,()),V))))))))))) fun d6=>
 (mC d6 (fun (p:zF2) F=>let d5:=fB .u8 p.1;let b9:Bool:=cD d5 p.2.2.2.2.2.2.2.2.2.1;(bif b9 then some (Sum.inr (Sum.inl ((0,(AV.iface 256 (yI0 2)),p.2.2.2.2.1,p.2.2.2.2.2.2.2.1,p.2.2.2.2.2.2.2.2.1,()),F)))else let c6:Bool:=cD p.2.2.2.2.2.1 p.2.2.2.2.2.2.2.2.1;(bif c6 then some (Sum.inr (Sum.inl ((p.2.2.2.2.2.2.1,(AV.iface 256 (yI0 1)),p.2.2.2.2.1,p.2.2.2.2.2.2.2.1,p.2.2.2.2.2.2.2.2.1,()),F)))else let b8:=fB .u64 p.1;let H:=fB .u64 (p.2.2.2.2.2.2.2.2.1 * b8);let c9:=fB .u64 p.2.2.2.2.2.2.2.2.2.1;let C:=fB .u64 (H+c9);(vA (α:=Sum (zO1×Heap) (Sum (zQ1×Heap) (Empty))) ((jA (α:=zH1) ( let b1:=ltInt C H;(bif b1 then some ((p.1,p.2.1,p.2.2.1,p.2.2.2.1,p.2.2.2.2.1,p.2.2.2.2.2.1,p.2.2.2.2.2.2.1,p.2.2.2.2.2.2.2.1,H,C,p.2.2.2.2.2.2.2.2.2.2.1,p.2.2.2.2.2.2.2.2.2.2.2.1,p.2.2.2.2.2.2.2.2.2.2.2.2.1,true,()),F)else let d4:=ltInt p.2.2.2.2.2.2.1 C;some ((p.1,p.2.1,p.2.2.1,p.2.2.2.1,p.2.2.2.2.1,p.2.2.2.2.2.1,p.2.2.2.2.2.2.1,p.2.2.2.2.2.2.2.1,H,C,p.2.2.2.2.2.2.2.2.2.2.1,p.2.2.2.2.2.2.2.2.2.2.2.1,p.2.2.2.2.2.2.2.2.2.2.2.2.1,d4,()),F))) fun (u:zH1) X=>(bif u.2.2.2.2.2.2.2.2.2.2.2.2.2.1 then some (Sum.inr (Sum.inl ((u.2.2.2.2.2.2.1,(AV.iface 256 (yI0 1)),u.2.2.2.2.1,u.2.2.2.2.2.2.2.1,u.2.2.2.2.2.2.2.2.1,()),X)))else some (Sum.inl ((u.1,u.2.1,u.2.2.1,u.2.2.2.1,u.2.2.2.2.1,u.2.2.2.2.2.1,u.2.2.2.2.2.2.1,u.2.2.2.2.2.2.2.1,u.2.2.2.2.2.2.2.2.2.1,u.2.2.2.2.2.2.2.2.2.2.1,u.2.2.2.2.2.2.2.2.2.2.2.1,u.2.2.2.2.2.2.2.2.2.2.2.2.1,()),X))))) fun b3=>
 (mC b3 (fun (c3:zO1) W=>some (Sum.inl (c3,W))) fun Y=>(mC Y (fun (R:zQ1) a1=>some (Sum.inr (Sum.inl (R,a1)))) fun _=>none)))))) fun d0=>(mC d0 (fun (a9:zO1) Z=>some (Sum.inl (a9,Z))) fun a2=>(mC a2 (fun (M:zQ1) a5=>some (Sum.inr (Sum.inl (M,a5)))) fun _=>none))))))) fun a6=>(mC a6 (fun (r:zO1) U=>let a7:=fB .i64 (r.2.2.2.2.2.2.2.2.2.2.2.1+1);go r.1 r.2.1 r.2.2.1 r.2.2.2.1 r.2.2.2.2.1 r.2.2.2.2.2.1 r.2.2.2.2.2.2.1 r.2.2.2.2.2.2.2.1 r.2.2.2.2.2.2.2.2.1 r.2.2.2.2.2.2.2.2.2.1 r.2.2.2.2.2.2.2.2.2.2.1 a7 U) fun a3=>(mC a3 (fun (a4:zQ1) O=>some (Out.ret,a4,O)) fun _=>none)))else some ((Out.exit 3),(v6,v7,v9,J,K,()),h))
def kBc (N M:Nat) (A C:Int) (B:AV) (F:Bool) (H:zO3) (u r:Int) (p:Bool) (w:Int) (y:SL) (j f:Int) (h:Heap):Option (Out×zQ1×Heap):=iter (fun I s h=>rAy N (fun A C B F H u r p w y j f h=>I (A,C,B,F,H,u,r,p,w,y,j,f,()) h) s.1 s.2.1 s.2.2.1 s.2.2.2.1 s.2.2.2.2.1 s.2.2.2.2.2.1 s.2.2.2.2.2.2.1 s.2.2.2.2.2.2.2.1 s.2.2.2.2.2.2.2.2.1 s.2.2.2.2.2.2.2.2.2.1 s.2.2.2.2.2.2.2.2.2.2.1 s.2.2.2.2.2.2.2.2.2.2.2.1 h) M (A,C,B,F,H,u,r,p,w,y,j,f,()) h
def f257 (N:Nat) (a0:zO3) (a1 a2:Int) (h:Heap):yO0 zU1:=let x1:=bB a0 [];(bif x1 then some ((0,(AV.iface 256 (yI0 2)),()),h)else let x2:=pA a1 0;(vA (α:=Sum (zZ1×Heap) (Sum (zU1×Heap) (Empty))) ((jA (α:=zW1) ( let x3:Bool:=cD 2 a1;(bif x3 then let x4:Bool:=cD a1 36;some ((a0,a1,a2,0,AV.nilIface,x2,a0,x4,()),h)else some ((a0,a1,a2,0,AV.nilIface,x2,a0,false,()),h))) fun (u:zW1) Q=>(bif u.2.2.2.2.2.2.2.1 then some (Sum.inl ((u.1,u.2.1,u.2.2.1,u.2.2.2.1,u.2.2.2.2.1,u.2.2.2.2.2.1,u.2.2.2.2.2.2.1,()),Q))else let x7:=pA u.2.1 0;(bif x7 then(iL u.1 0 fun x8=>let x9:=pA x8 48;(bif x9 then(jA (α:=zS1) ( let c2:Bool:=cD 3 (Int.ofNat u.1.length);(bif c2 then(iL u.1 1 fun b6=>(jA (f262 N b6 Q) fun b3 c6=>let d3:=pA b3 98;some ((u.1,u.2.2.1,u.2.2.2.1,u.2.2.2.2.1,u.2.2.2.2.2.1,u.2.2.2.2.2.2.1,d3,()),c6)))else some ((u.1,u.2.2.1,u.2.2.2.1,u.2.2.2.2.1,u.2.2.2.2.2.1,u.2.2.2.2.2.2.1,false,()),Q))) fun (p:zS1) F=>(bif p.2.2.2.2.2.2.1 then(iA (.val zK3) (cF E F 9 (.str p.1) (some (yI0 2)) none) fun e3=>some (Sum.inl ((e3,2,p.2.1,p.2.2.1,p.2.2.2.1,p.2.2.2.2.1,p.2.2.2.2.2.1,()),F)))else(jA (α:=zS1) ( let d5:Bool:=cD 3 (Int.ofNat p.1.length);(bif d5 then(iL p.1 1 fun d9=>(jA (f262 N d9 F) fun e5 e6=>let e7:=pA e5 111;some ((p.1,p.2.1,p.2.2.1,p.2.2.2.1,p.2.2.2.2.1,p.2.2.2.2.2.1,e7,()),e6)))else some ((p.1,p.2.1,p.2.2.1,p.2.2.2.1,p.2.2.2.2.1,p.2.2.2.2.2.1,false,()),F))) fun (r:zS1) H=>
 (bif r.2.2.2.2.2.2.1 then(iA (.val zK3) (cF E H 9 (.str r.1) (some (yI0 2)) none) fun e1=>some (Sum.inl ((e1,8,r.2.1,r.2.2.1,r.2.2.2.1,r.2.2.2.2.1,r.2.2.2.2.2.1,()),H)))else(jA (α:=zS1) ( let b1:Bool:=cD 3 (Int.ofNat r.1.length);(bif b1 then(iL r.1 1 fun c0=>(jA (f262 N c0 H) fun e4 b2=>let b4:=pA e4 120;some ((r.1,r.2.1,r.2.2.1,r.2.2.2.1,r.2.2.2.2.1,r.2.2.2.2.2.1,b4,()),b2)))else some ((r.1,r.2.1,r.2.2.1,r.2.2.2.1,r.2.2.2.2.1,r.2.2.2.2.2.1,false,()),H))) fun (w:zS1) I=>(bif w.2.2.2.2.2.2.1 then(iA (.val zK3) (cF E I 9 (.str w.1) (some (yI0 2)) none) fun c3=>some (Sum.inl ((c3,16,w.2.1,w.2.2.1,w.2.2.2.1,w.2.2.2.2.1,w.2.2.2.2.2.1,()),I)))else(iA (.val zK3) (cF E I 9 (.str w.1) (some (yI0 1)) none) fun c5=>some (Sum.inl ((c5,8,w.2.1,w.2.2.1,w.2.2.2.1,w.2.2.2.2.1,w.2.2.2.2.2.1,()),I)))))))))else some (Sum.inl ((u.1,10,u.2.2.1,u.2.2.2.1,u.2.2.2.2.1,u.2.2.2.2.2.1,u.2.2.2.2.2.2.1,()),Q))))else some (Sum.inr (Sum.inl ((0,(AV.iface 256 (yI0 3)),()),Q))))))) fun d7=>(mC d7 (fun (j:zZ1) M=>(vA (α:=Sum (zZ1×Heap) (Sum (zU1×Heap) (Empty))) ( let c7:=pA j.2.2.1 0;(bif c7 then some (Sum.inl ((j.1,j.2.1,64,j.2.2.2.1,j.2.2.2.2.1,j.2.2.2.2.2.1,j.2.2.2.2.2.2.1,()),M))else(jA (α:=zW1) ( let e8:=ltInt j.2.2.1 0;(bif e8 then some ((j.1,j.2.1,j.2.2.1,j.2.2.2.1,j.2.2.2.2.1,j.2.2.2.2.2.1,j.2.2.2.2.2.2.1,true,()),M)
 else let d8:=ltInt 64 j.2.2.1;some ((j.1,j.2.1,j.2.2.1,j.2.2.2.1,j.2.2.2.2.1,j.2.2.2.2.2.1,j.2.2.2.2.2.2.1,d8,()),M))) fun (B:zW1) U=>(bif B.2.2.2.2.2.2.2.1 then some (Sum.inr (Sum.inl ((0,(AV.iface 256 (yI0 4)),()),U)))else some (Sum.inl ((B.1,B.2.1,B.2.2.1,B.2.2.2.1,B.2.2.2.2.1,B.2.2.2.2.2.1,B.2.2.2.2.2.2.1,()),U)))))) fun b9=>(mC b9 (fun (f:zZ1) L=>(jA (α:=zM2) ( let d6:=pA f.2.1 10;(bif d6 then some ((f.1,f.2.1,f.2.2.1,f.2.2.2.1,f.2.2.2.2.1,f.2.2.2.2.2.1,f.2.2.2.2.2.2.1,1844674407370955162,()),L)else let b7:=pA f.2.1 16;(bif b7 then some ((f.1,f.2.1,f.2.2.1,f.2.2.2.1,f.2.2.2.2.1,f.2.2.2.2.2.1,f.2.2.2.2.2.2.1,1152921504606846976,()),L)else let c8:=fB .u64 f.2.1;(iA (.val (.one (.int .u64))) (kAo .quo .u64 18446744073709551615 c8) fun b5=>let e2:=fB .u64 (b5+1);some ((f.1,f.2.1,f.2.2.1,f.2.2.2.1,f.2.2.2.2.1,f.2.2.2.2.2.1,f.2.2.2.2.2.2.1,e2,()),L))))) fun (A:zM2) b8=>let c4:=fB .u64 A.2.2.1;(iA (.val (.one (.int .u64))) (cA8 .shl .u64 1 c4) fun d4=>let c9:=fB .u64 (d4-1);(tD (.val zJ3) (lX E 9 81 (.str A.1) b8) fun X b0=>(rD (kBc N N A.2.1 A.2.2.2.1 A.2.2.2.2.1 A.2.2.2.2.2.1 A.2.2.2.2.2.2.1 A.2.2.2.2.2.2.2.1 c9 false 0 X (Int.ofNat X.len) 0 b0) fun W (y:zQ1) C=>(bif vD W (.exit 3) then(vA (α:=Sum (zB2×Heap) (Sum (zU1×Heap) (Empty))) ((jA (α:=(Int×Bool×Unit)) (
 (bif y.2.2.2.1 then(jA (f263 N y.2.2.1 C) fun V O=>let R:=!V;some ((y.2.2.2.2.1,R,()),O))else some ((y.2.2.2.2.1,false,()),C))) fun (J:(Int×Bool×Unit)) K=>(bif J.2.1 then some (Sum.inr (Sum.inl ((0,(AV.iface 256 (yI0 2)),()),K)))else some (Sum.inl ((J.1,()),K))))) fun a4=>(mC a4 (fun (a9:zB2) Y=>some ((a9.1,AV.nilIface,()),Y)) fun a3=>(mC a3 (fun (a7:zU1) a6=>some (a7,a6)) fun _=>none)))else some ((y.1,y.2.1,()),C))))))) fun d0=>(mC d0 (fun (a5:zU1) Z=>some (a5,Z)) fun _=>none)))) fun e9=>(mC e9 (fun (a8:zU1) S=>some (a8,S)) fun _=>none))))
def bBl:Ann:=(.two .n (.two .n (.two .n (.two .n (.two (.joinO [(.norm,[(0,zK3),(1,zM3),(2,zM3),(6,(.one (.int .u64))),(7,zN3),(8,zL3),(9,zK3)]),(.ret,[(6,(.one (.int .u64))),(7,zN3)])] (.two (.two (.join [(0,zK3),(1,zM3),(2,zM3),(6,(.one (.int .u64))),(7,zN3),(8,zL3),(9,zK3),(25,zL3)] .n) (.two .n (.two .n (.two (.two .n (.two .n (.two (.two (.two (.join [(0,zK3),(2,zM3),(6,(.one (.int .u64))),(7,zN3),(8,zL3),(9,zK3),(40,zL3)] .n) (.two .n (.two (.join [(0,zK3),(2,zM3),(6,(.one (.int .u64))),(7,zN3),(8,zL3),(9,zK3),(52,zL3)] .n) (.two .n (.two (.join [(0,zK3),(2,zM3),(6,(.one (.int .u64))),(7,zN3),(8,zL3),(9,zK3),(64,zL3)] .n) .n))))) .n) .n))) .n)))) .n)) (.two (.joinO [(.norm,[(0,zK3),(1,zM3),(2,zM3),(6,(.one (.int .u64))),(7,zN3),(8,zL3),(9,zK3)]),(.ret,[(6,(.one (.int .u64))),(7,zN3)])] (.two .n (.two .n (.two (.join [(0,zK3),(1,zM3),(2,zM3),(6,(.one (.int .u64))),(7,zN3),(8,zL3),(9,zK3),(83,zL3)] .n) .n)))) (.two .n (.two (.join [(0,zK3),(1,zM3),(2,zM3),(6,(.one (.int .u64))),(7,zN3),(8,zL3),(9,zK3),(10,(.one (.int .u64)))] .n) (.two .n (.two .n (.two .n (.two (.two .n (.two (.loop [(1,zM3),(6,(.one (.int .u64))),(7,zN3),(8,zL3),(9,zK3),(10,(.one (.int .u64))),(11,(.one (.int .u64))),(12,zL3),(13,(.one (.int .u64))),(99,zJ3),(100,zM3),(101,zM3)] [(.exit 3),.ret] [(6,(.one (.int .u64))),(7,zN3),(9,zK3),(12,zL3),(13,(.one (.int .u64)))] (.two .n (.two .n (.two (.joinO [(.norm,[(1,zM3),(6,(.one (.int .u64))),(7,zN3),(8,zL3),(9,zK3),(10,(.one (.int .u64))),(11,(.one (.int .u64))),(12,zL3),(13,(.one (.int .u64))),(99,zJ3),(100,zM3),(101,zM3)]),(.ret,[(6,(.one (.int .u64))),(7,zN3),(9,zK3),(12,zL3),(13,(.one (.int .u64)))])] (.two (.two .n (.two .n (.two (.joinO [(.norm,[(1,zM3),(6,(.one (.int .u64))),(7,zN3),(8,zL3),(9,zK3),(10,(.one (.int .u64))),(11,(.one (.int .u64))),(12,zL3),(13,(.one (.int .u64))),(16,(.one (.int .u8))),(99,zJ3),(100,zM3),(101,zM3)]),((.exit 4),[(1,zM3),(6,(.one (.int .u64))),(7,zN3),(8,zL3),(9,zK3),(10,(.one (.int .u64))),(11,(.one (.int .u64))),(12,zL3),(13,(.one (.int .u64))),(99,zJ3),(100,zM3),(101,zM3)]),(.ret,[(6,(.one (.int .u64))),(7,zN3),(9,zK3),(12,zL3),(13,(.one (.int .u64)))])] (.two (.two (.join [(1,zM3),(6,(.one (.int .u64))),(7,zN3),(8,zL3),(9,zK3),(10,(.one (.int .u64))),(11,(.one (.int .u64))),(12,zL3),(13,(.one (.int .u64))),(15,(.one (.int .u8))),(99,zJ3),(100,zM3),(101,zM3),(106,zL3)] .n) (.two .n (.two (.join [(1,zM3),(6,(.one (.int .u64))),(7,zN3),(8,zL3),(9,zK3),(10,(.one (.int .u64))),(11,(.one (.int .u64))),(12,zL3),(13,(.one (.int .u64))),(15,(.one (.int .u8))),(99,zJ3),(100,zM3),(101,zM3),(112,zL3)] .n) (.two .n (.two (.join [(1,zM3),(6,(.one (.int .u64))),(7,zN3),(8,zL3),(9,zK3),(10,(.one (.int .u64))),(11,(.one (.int .u64))),(12,zL3),(13,(.one (.int .u64))),(15,(.one (.int .u8))),(99,zJ3),(100,zM3),(101,zM3),(121,zL3)] .n) .n))))) .n)) (.two .n (.two .n (.two .n (.two .n (.two (.joinO [(.norm,[(1,zM3),(6,(.one (.int .u64))),(7,zN3),(8,zL3),(9,zK3),(10,(.one (.int .u64))),(11,(.one (.int .u64))),(12,zL3),(17,(.one (.int .u64))),(99,zJ3),(100,zM3),(101,zM3)]),(.ret,[(6,(.one (.int .u64))),(7,zN3),(9,zK3),(12,zL3),(13,(.one (.int .u64)))])] (.two (.join [(1,zM3),(6,(.one (.int .u64))),(7,zN3),(8,zL3),(9,zK3),(10,(.one (.int .u64))),(11,(.one (.int .u64))),(12,zL3),(13,(.one (.int .u64))),(17,(.one (.int .u64))),(99,zJ3),(100,zM3),(101,zM3),(159,zL3)] .n) .n)) .n)))))))) .n)) .n)))) .n)) (.two (.joinO [(.norm,[(13,(.one (.int .u64)))]),(.ret,[(6,(.one (.int .u64))),(7,zN3)])] (.two (.join [(13,(.one (.int .u64))),(169,zL3)] .n) .n)) .n)))))))))))))
def lBc (N:Nat):pC Tryz.prog 257 [zK3,zM3,zM3] (.tup [(.one (.int .u64)),zN3]) (fun x h=>f257 N x.1 x.2.1 x.2.2.1 h):=kD (bA (jBc N) (bA (pAy N) kA)) N bBl Tryz.f257
def f245 (N:Nat) (J:zO3) (W R:Int) (h:Heap):yO0 zU1:=let x1:=bB J [];(bif x1 then some ((0,(AV.iface 256 (yI0 2)),()),h)else(jA (α:=zB3) ((iL J 0 fun x2=>let x3:=pA x2 43;(bif x3 then(iA (.val zK3) (cF E h 9 (.str J) (some (yI0 1)) none) fun x4=>some ((x4,W,R,false,()),h))else let x5:=pA x2 45;(bif x5 then(iA (.val zK3) (cF E h 9 (.str J) (some (yI0 1)) none) fun x6=>some ((x6,W,R,true,()),h))else some ((J,W,R,false,()),h))))) fun (w:zB3) h8=>(jA (f257 N w.1 w.2.1 w.2.2.1 h8) fun C F=>(jA (α:=zG3) ((iA (.val zL3) (tM E .neq 29 (.tmp 32) (.const .nilIface) C.2.1 AV.nilIface) fun Y=>(bif Y then(iA (.val zL3) (tM E .neq 29 (.tmp 35) (.tmp 36) C.2.1 (AV.iface 256 (yI0 1))) fun U=>some ((w.2.2.1,C.2.1,w.2.2.2.1,C.1,U,()),F))else some ((w.2.2.1,C.2.1,w.2.2.2.1,C.1,false,()),F)))) fun (j:zG3) u=>(bif j.2.2.2.2.1 then some ((0,j.2.1,()),u)else(jA (α:=(Int×Bool×Int×Unit)) ( let Z:=pA j.1 0;(bif Z then some ((64,j.2.2.1,j.2.2.2.1,()),u)else some ((j.1,j.2.2.1,j.2.2.2.1,()),u))) fun (p:(Int×Bool×Int×Unit)) I=>let X:=fB .i64 (p.1-1);let a4:=fB .u64 X;(iA (.val (.one (.int .u64))) (cA8 .shl .u64 1 a4) fun A=>(jA (α:=zO2) ( let a5:=!p.2.1;(bif a5 then let a3:Bool:=cD A p.2.2.1;some ((p.2.1,p.2.2.1,A,a3,()),I)else some ((p.2.1,p.2.2.1,A,false,()),I))) fun (f:zO2) B=>
 (bif f.2.2.2.1 then let a6:=fB .u64 (f.2.2.1-1);let O:=fB .i64 a6;some ((O,(AV.iface 256 (yI0 1)),()),B)else(jA (α:=zO2) ((bif f.1 then let Q:=ltInt f.2.2.1 f.2.1;some ((f.1,f.2.1,f.2.2.1,Q,()),B)else some ((f.1,f.2.1,f.2.2.1,false,()),B))) fun (r:zO2) y=>(bif r.2.2.2.1 then let V:=fB .i64 r.2.2.1;let L:=fB .i64 (0-V);some ((L,(AV.iface 256 (yI0 1)),()),y)else let H:=fB .i64 r.2.1;(jA (α:=zB2) ((bif r.1 then let S:=fB .i64 (0-H);some ((S,()),y)else some ((H,()),y))) fun (M:zB2) K=>some ((M.1,AV.nilIface,()),K)))))))))))))
def cBl:Ann:=(.two .n (.two .n (.two .n (.two (.join [(0,zK3),(1,zM3),(2,zM3),(8,zL3)] .n) (.two .n (.two .n (.two (.two (.join [(2,zM3),(7,zN3),(8,zL3),(9,(.one (.int .u64))),(38,zL3)] .n) .n) (.two (.join [(2,zM3),(8,zL3),(9,(.one (.int .u64)))] .n) (.two .n (.two (.two (.join [(8,zL3),(9,(.one (.int .u64))),(10,(.one (.int .u64))),(52,zL3)] .n) .n) (.two (.two (.join [(8,zL3),(9,(.one (.int .u64))),(10,(.one (.int .u64))),(62,zL3)] .n) .n) (.two .n (.two (.join [(11,zM3)] .n) .n)))))))))))))
def mBc (N:Nat):pC Tryz.prog 245 [zK3,zM3,zM3] (.tup [zM3,zN3]) (fun x h=>f245 N x.1 x.2.1 x.2.2.1 h):=kD (bA (lBc N) kA) N cBl Tryz.f245
noncomputable def eA5 (N:Nat) (J:Int->AV->zO3->Int->SL->Int->Int->Heap->Option (Out×zG2×Heap)) (v2:Int) (v3:AV) (v5:zO3) (C:Int) (j:SL) (p f:Int) (h:Heap):Option (Out×zG2×Heap):=let F:=ltInt f p;(bif F then(ixK j.a j.len f 1 fun B=>(iA (.val (.one (.int .u8))) (h.cell B) fun H=>let r:=fB .u8 (H-48);let A:=ltInt 9 r;(bif A then some (Out.ret,(0,(AV.iface 256 (yI0 2)),v5,C,()),h)else let u:=fB .i64 (C * 10);let I:=fB .i64 r;let w:=fB .i64 (u+I);let y:=fB .i64 (f+1);J v2 v3 v5 w j p y h)))else some ((Out.exit 0),(v2,v3,v5,C,()),h))
def eAc (N M:Nat) (v2:Int) (v3:AV) (v5:zO3) (r:Int) (f:SL) (p j:Int) (h:Heap):Option (Out×zG2×Heap):=iter (fun u s h=>eA5 N (fun v2 v3 v5 r f p j h=>u (v2,v3,v5,r,f,p,j,()) h) s.1 s.2.1 s.2.2.1 s.2.2.2.1 s.2.2.2.2.1 s.2.2.2.2.2.1 s.2.2.2.2.2.2.1 h) M (v2,v3,v5,r,f,p,j,()) h
def nAh (N M v2 v3 v5 v6 v47 v48 v49 h):eAc N (M+1) v2 v3 v5 v6 v47 v48 v49 h=eA5 N (eAc N M) v2 v3 v5 v6 v47 v48 v49 h:=rfl
def f233 (N:Nat) (B:zO3) (h:Heap):yO0 zU1:=(vA (α:=Sum (zX2×Heap) (Sum (zU1×Heap) (Empty))) ((jA (α:=zE3) ( let x1:=ltInt 0 (Int.ofNat B.length);(bif x1 then let x2:=ltInt (Int.ofNat B.length) 19;some ((B,0,AV.nilIface,x2,()),h)else some ((B,0,AV.nilIface,false,()),h))) fun (f:zE3) Q=>(bif f.2.2.2.1 then(vA (α:=Sum (zW2×Heap) (Sum (zU1×Heap) (Empty))) ((jA (α:=zU2) ((iL f.1 0 fun x5=>let x6:=pA x5 45;(bif x6 then some ((f.1,f.2.1,f.2.2.1,f.1,true,()),Q)else(iL f.1 0 fun x7=>let x8:=pA x7 43;some ((f.1,f.2.1,f.2.2.1,f.1,x8,()),Q))))) fun (r:zU2) p=>(bif r.2.2.2.2.1 then(iA (.val zK3) (cF E p 9 (.str r.1) (some (yI0 1)) none) fun A=>let Y:=ltInt (Int.ofNat A.length) 1;(bif Y then some (Sum.inr (Sum.inl ((0,(AV.iface 256 (yI0 2)),()),p)))else some (Sum.inl ((A,r.2.1,r.2.2.1,r.2.2.2.1,()),p))))else some (Sum.inl ((r.1,r.2.1,r.2.2.1,r.2.2.2.1,()),p))))) fun a3=>(mC a3 (fun (u:zW2) a4=>(tD (.val zJ3) (lX E 9 81 (.str u.1) a4) fun y U=>(rD (eAc N N u.2.1 u.2.2.1 u.2.2.2.1 0 y (Int.ofNat y.len) 0 U) fun S (j:zG2) w=>(bif vD S (.exit 0) then(jA (α:=zB2) ((iL j.2.2.1 0 fun I=>let W:=pA I 45;(bif W then let X:=fB .i64 (0-j.2.2.2.1);some ((X,()),w)else some ((j.2.2.2.1,()),w)))) fun (L:zB2) H=>some (Sum.inr (Sum.inl ((L.1,AV.nilIface,()),H))))else some (Sum.inr (Sum.inl ((j.1,j.2.1,()),w))))))) fun a1=>
 (mC a1 (fun (R:zU1) V=>some (Sum.inr (Sum.inl (R,V)))) fun _=>none)))else some (Sum.inl ((f.1,()),Q))))) fun M=>(mC M (fun (J:zX2) C=>(jA (f245 N J.1 10 0 C) fun F Z=>some (F,Z))) fun K=>(mC K (fun (a2:zU1) O=>some (a2,O)) fun _=>none)))
def dBl:Ann:=(.two .n (.two .n (.two (.joinO [(.norm,[(0,zK3)]),(.ret,[(2,zM3),(3,zN3)])] (.two (.join [(0,zK3),(2,zM3),(3,zN3),(30,zL3)] .n) (.two (.two .n (.two (.joinO [(.norm,[(0,zK3),(2,zM3),(3,zN3),(5,zK3)]),(.ret,[(2,zM3),(3,zN3)])] (.two (.join [(0,zK3),(2,zM3),(3,zN3),(5,zK3),(39,zL3)] .n) .n)) (.two .n (.two (.two .n (.two (.loop [(2,zM3),(3,zN3),(5,zK3),(6,zM3),(47,zJ3),(48,zM3),(49,zM3)] [(.exit 0),.ret] [(2,zM3),(3,zN3),(5,zK3),(6,zM3)] .n) .n)) (.two (.join [(6,zM3)] .n) .n))))) .n))) .n)))
def nBc (N:Nat):pC Tryz.prog 233 [zK3] (.tup [zM3,zN3]) (fun x h=>f233 N x.1 h):=kD (bA (mBc N) kA) N dBl Tryz.f233
noncomputable def f234 (N:Nat) (p u:zO3) (j f:Int) (r:AV) (h:Heap):yO0 AV:=Qw.mAh p u j f r h
def lAl (N:Nat):pC Tryz.prog 234 [zK3,zK3,zM3,zM3,zN3] (.val zN3) (fun x h=>f234 N x.1 x.2.1 x.2.2.1 x.2.2.2.1 x.2.2.2.2.1 h):=Qw.lAl N
def f220 (N:Nat) (j:zO3) (h:Heap):yO0 zU1:=(jA (f233 N j h) fun f p=>(iA (.val zL3) (tM E .neq 29 (.tmp 11) (.const .nilIface) f.2.1 AV.nilIface) fun w=>(bif w then(jA (f234 N [65,116,111,105] j 0 0 f.2.1 p) fun r u=>some ((f.1,r,()),u))else some ((f.1,AV.nilIface,()),p))))
def eBl:Ann:=.n
def oBc (N:Nat):pC Tryz.prog 220 [zK3] (.tup [zM3,zN3]) (fun x h=>f220 N x.1 h):=kD (bA (lAl N) (bA (nBc N) kA)) N eBl Tryz.f220
def f208 (N:Nat) (r:zH3) (h:Heap):yO0 zZ:=let R:=h.push (.row yZH .own);(jA (f92 N r [116,114,117,101] R) fun U M=>(bif U then(vA (M.store (h.next,0) [(yI0 2),(yI0 1),(.str []),yS0]) fun L=>(iA (.val zG) (L.cells (h.next,0) 4) fun V=>some (V,L)))else(jA (f92 N r [102,97,108,115,101] M) fun Q O=>(bif Q then(vA (O.store (h.next,0) [(yI0 2),(yI0 0),(.str []),yS0]) fun K=>(iA (.val zG) (K.cells (h.next,0) 4) fun S=>some (S,K)))else(jA (f56 N r O) fun B j=>let C:=pA B.1 4;(bif C then(jA (f94 N r 4 j) fun F y=>(jA (f220 N F y) fun I w=>(vA (w.store (h.next,0) [(yI0 1),(yI0 I.1),(.str []),yS0]) fun f=>(iA (.val zG) (f.cells (h.next,0) 4) fun H=>some (H,f)))))else(jA (f221 N r j) fun u A=>(vA (A.store (h.next,0) [(yI0 3),(yI0 0),(.str u.1),(yL u.2.1)]) fun p=>(iA (.val zG) (p.cells (h.next,0) 4) fun J=>some (J,p))))))))))
def fBl:Ann:=.n
def fAc (N:Nat):pC Tryz.prog 208 [zI3] (.val zG) (fun x h=>f208 N x.1 h):=kD (bA (eQ N) (bA (tZ N) (bA (fT N) (bA (rAl N) (bA (oBc N) kA))))) N fBl Tryz.f208
def f231 (N:Nat) (C:zH3) (Q:zO3) (h:Heap):yO0 Bool:=(vA C fun L=>(iA (.val zN3) (h.cell (L.1,L.2+3)) fun R=>(iA (.val zL3) (tM E .neq 29 (.tmp 9) (.const .nilIface) R AV.nilIface) fun S=>(bif S then some (false,h)else(jA (f56 N C h) fun O f=>let M:=!pA O.1 1;(bif M then some (false,f)else(vA C fun y=>(iA (.val zJ3) (f.cell (y.1,y.2+0)) fun B=>(vA C fun A=>(iA (.val zM3) (f.cell (A.1,A.2+1)) fun u=>let J:=fB .i64 (u+1);(ixK B.a B.len J 3 fun r=>(iA (.val zK) (f.cells r 3) fun w=>let j:=f.push (.row yZE .own);(vA (j.store (f.next,0) (yRI w)) fun p=>(pD (bif (jB (j.cells r 3) (.agg (yRI w))) then (bif (jB (f.cells r 3) (.agg (yRI w))) then (bif (jB (j.cell (A.1,A.2+1)) (yI0 u)) then (bif (jB (f.cell (A.1,A.2+1)) (yI0 u)) then (bif (jB (j.cell (y.1,y.2+0)) (yL B)) then (bif (jB (f.cell (y.1,y.2+0)) (yL B)) then true else false) else false) else false) else false) else false) else false) ((iA (.val zM3) (p.cell (f.next,0)) fun F=>let H:=pA F 5;(bif H then(iA (.val zK3) (p.cell (f.next,1)) fun I=>let K:=bB I Q;some (K,p))else some (false,p))))))))))))))))))
def gBl:Ann:=.n
def tAy (N:Nat):pC Tryz.prog 231 [zI3,zK3] (.val zL3) (fun x h=>f231 N x.1 x.2.1 h):=kD (bA (fT N) kA) N gBl Tryz.f231
def f222 (N:Nat) (f:zH3) (h:Heap):yO0 Bool:=(jA (f231 N f [58,58] h) fun p j=>(bif p then some (true,j)else(jA (f231 N f [40] j) fun u r=>some (u,r))))
def iBl:Ann:=.n
def uAy (N:Nat):pC Tryz.prog 222 [zI3] (.val zL3) (fun x h=>f222 N x.1 h):=kD (bA (tAy N) kA) N iBl Tryz.f222
def f256 (N:Nat) (j J:zH3) (h:Heap):yO0 (Unit):=(vA j fun q1=>(iA (.val zI3) (h.cell q1) fun L=>(vA j fun q3=>(iA (.val zI3) (h.cell q3) fun S=>(vA S fun F=>(iA (.val zJ3) (h.cell (F.1,F.2+13)) fun R=>(vA J fun q7=>(iA (.val zI3) (h.cell q7) fun x8=>(jA (f94 N x8 1 h) fun x9 r=>let C:=r.push (.row [(.str x9)] .own);(tD (.val zJ3) (nB E 38 38 (yL R) (.slice (some (r.next,0)) 1 1 1) C) fun a3 O=>(vA L fun Q=>(vA (O.store (Q.1,Q.2+13) [(yL a3)]) fun M=>(pD (bif (mF J fun q=>jB (h.cell q) (.ptr x8)) then (bif (jB (C.cell (F.1,F.2+13)) (yL R)) then (bif (jB (r.cell (F.1,F.2+13)) (yL R)) then (bif (jB (h.cell (F.1,F.2+13)) (yL R)) then (bif (mF j fun q=>jB (C.cell q) (.ptr S)) then (bif (mF j fun q=>jB (r.cell q) (.ptr S)) then (bif (mF j fun q=>jB (h.cell q) (.ptr S)) then (bif (mF j fun q=>jB (O.cell q) (.ptr L)) then (bif (mF j fun q=>jB (C.cell q) (.ptr L)) then (bif (mF j fun q=>jB (r.cell q) (.ptr L)) then (bif (mF j fun q=>jB (h.cell q) (.ptr L)) then true else false) else false) else false) else false) else false) else false) else false) else false) else false) else false) else false) ((vA J fun W=>(iA (.val zI3) (M.cell W) fun Z=>
 (jA (f149 N Z [58] M) fun a5 f=>(vA j fun a4=>(iA (.val zI3) (f.cell a4) fun w=>(vA j fun X=>(iA (.val zI3) (f.cell X) fun B=>(vA B fun p=>(iA (.val zJ3) (f.cell (p.1,p.2+14)) fun y=>(vA J fun V=>(iA (.val zI3) (f.cell V) fun I=>(jA (f208 N I f) fun a2 u=>let A:=u.push (.row (yRD a2) .own);(tD (.val zJ3) (nB E 102 102 (yL y) (.slice (some (u.next,0)) 1 1 4) A) fun U H=>(vA w fun K=>(vA (H.store (K.1,K.2+14) [(yL U)]) fun Y=>(pD (bif (mF J fun q=>jB (f.cell q) (.ptr I)) then (bif (jB (A.cell (p.1,p.2+14)) (yL y)) then (bif (jB (u.cell (p.1,p.2+14)) (yL y)) then (bif (jB (f.cell (p.1,p.2+14)) (yL y)) then (bif (mF j fun q=>jB (A.cell q) (.ptr B)) then (bif (mF j fun q=>jB (u.cell q) (.ptr B)) then (bif (mF j fun q=>jB (f.cell q) (.ptr B)) then (bif (mF j fun q=>jB (H.cell q) (.ptr w)) then (bif (mF j fun q=>jB (A.cell q) (.ptr w)) then (bif (mF j fun q=>jB (u.cell q) (.ptr w)) then (bif (mF j fun q=>jB (f.cell q) (.ptr w)) then true else false) else false) else false) else false) else false) else false) else false) else false) else false) else false) else false) (
 some ((()),Y))))))))))))))))))))))))))))))))
def jBl:Ann:=.n
def pBc (N:Nat):pC Tryz.prog 256 [zI3,zI3] (.tup []) (fun x h=>f256 N x.1 x.2.1 h):=kD (bA (eQ N) (bA (fAc N) (bA (qK N) kA))) N jBl Tryz.f256
def aO (N:Nat) (y:zH3->zO3->zU->Int->Heap->Option (Out×(Unit)×Heap)) (f:zH3) (r:zO3) (v2:zU) (u:Int) (h:Heap):Option (Out×(Unit)×Heap):=(jA (f188 N f u h) fun C p=>(bif C then(jA (f256 N v2.1 v2.2.1 p) fun H F=>(jA (f93 N f r F) fun B j=>let w:=!B;(bif w then some (Out.ret,(()),j)else let A:=fB .i64 (u+1);y f r v2 A j)))else some ((Out.exit 0),(()),p)))
def bO (N M:Nat) (p:zH3) (f:zO3) (v2:zU) (j:Int) (h:Heap):Option (Out×(Unit)×Heap):=iter (fun r s h=>aO N (fun p f v2 j h=>r (p,f,v2,j,()) h) s.1 s.2.1 s.2.2.1 s.2.2.2.1 h) M (p,f,v2,j,()) h
def bA1 (N M v0 v1 v2 v6 h):bO N (M+1) v0 v1 v2 v6 h=aO N (bO N M) v0 v1 v2 v6 h:=rfl
def eA2 (N:Nat) (p:zH3) (w:zO3) (j:zU) (h:Heap):yO0 (Unit):=(rD (bO N N p w j 0 h) fun r (u:(Unit)) f=>(bif vD r (.exit 0) then some ((()),f)else some ((()),f)))
def oAt:Ann:=(.two .n (.two (.loop [(0,zI3),(1,zK3),(2,(.clo 256 [.ptr,.ptr])),(6,zM3)] [(.exit 0),.ret] [] .n) .n))
def tAl (N:Nat):pC Tryz.prog 147 [zI3,zK3,(.clo 256 [.ptr,.ptr])] (.tup []) (fun x h=>eA2 N x.1 x.2.1 x.2.2.1 h):=kD (bA (vH N) (bA (pBc N) (bA (fQ N) kA))) N oAt Tryz.f147
def f244 (N:Nat) (K I:zH3) (h:Heap):yO0 (Unit):=let y:=h.push (.row [(.ptr K)] .own);let w:=y.push (.row [(.ptr I)] .own);(iA (.val zI3) (w.cell (h.next,0)) fun L=>(jA (f149 N L [123] w) fun M A=>(iA (.val zI3) (A.cell (h.next,0)) fun C=>(jA (f93 N C [125] A) fun B j=>let F:=!B;(bif F then(iA (.val zI3) (j.cell (h.next,0)) fun p=>(jA (eA2 N p [44] ((some (y.next,0)),(some (h.next,0)),()) j) fun J f=>(iA (.val zI3) (f.cell (h.next,0)) fun r=>(jA (f149 N r [125] f) fun H u=>some ((()),u)))))else some ((()),j))))))
def kBl:Ann:=.n
def qBc (N:Nat):pC Tryz.prog 244 [zI3,zI3] (.tup []) (fun x h=>f244 N x.1 x.2.1 h):=kD (bA (vH N) (bA (qK N) (iC (sel:=fun a=>mJ 2 256 a) (tAl N) kA))) N kBl Tryz.f244
def f235 (N:Nat) (p I:zH3) (h:Heap):yO0 (Unit):=(vA p fun M=>(iA (.val zI3) (h.cell M) fun u=>(vA p fun L=>(iA (.val zI3) (h.cell L) fun B=>(vA B fun r=>(iA (.val zJ3) (h.cell (r.1,r.2+14)) fun A=>(vA I fun J=>(iA (.val zI3) (h.cell J) fun H=>(jA (f208 N H h) fun K f=>let j:=f.push (.row (yRD K) .own);(tD (.val zJ3) (nB E 102 102 (yL A) (.slice (some (f.next,0)) 1 1 4) j) fun C w=>(vA u fun y=>(vA (w.store (y.1,y.2+14) [(yL C)]) fun F=>(pD (bif (mF I fun q=>jB (h.cell q) (.ptr H)) then (bif (jB (j.cell (r.1,r.2+14)) (yL A)) then (bif (jB (f.cell (r.1,r.2+14)) (yL A)) then (bif (jB (h.cell (r.1,r.2+14)) (yL A)) then (bif (mF p fun q=>jB (j.cell q) (.ptr B)) then (bif (mF p fun q=>jB (f.cell q) (.ptr B)) then (bif (mF p fun q=>jB (h.cell q) (.ptr B)) then (bif (mF p fun q=>jB (w.cell q) (.ptr u)) then (bif (mF p fun q=>jB (j.cell q) (.ptr u)) then (bif (mF p fun q=>jB (f.cell q) (.ptr u)) then (bif (mF p fun q=>jB (h.cell q) (.ptr u)) then true else false) else false) else false) else false) else false) else false) else false) else false) else false) else false) else false) ( some ((()),F)))))))))))))))
def lBl:Ann:=.n
def rBc (N:Nat):pC Tryz.prog 235 [zI3,zI3] (.tup []) (fun x h=>f235 N x.1 x.2.1 h):=kD (bA (fAc N) kA) N lBl Tryz.f235
def fO (N:Nat) (y:zH3->zO3->zU->Int->Heap->Option (Out×(Unit)×Heap)) (f:zH3) (r:zO3) (v2:zU) (u:Int) (h:Heap):Option (Out×(Unit)×Heap):=(jA (f188 N f u h) fun C p=>(bif C then(jA (f235 N v2.1 v2.2.1 p) fun H F=>(jA (f93 N f r F) fun B j=>let w:=!B;(bif w then some (Out.ret,(()),j)else let A:=fB .i64 (u+1);y f r v2 A j)))else some ((Out.exit 0),(()),p)))
def gO (N M:Nat) (p:zH3) (f:zO3) (v2:zU) (j:Int) (h:Heap):Option (Out×(Unit)×Heap):=iter (fun r s h=>fO N (fun p f v2 j h=>r (p,f,v2,j,()) h) s.1 s.2.1 s.2.2.1 s.2.2.2.1 h) M (p,f,v2,j,()) h
def dA1 (N M v0 v1 v2 v6 h):gO N (M+1) v0 v1 v2 v6 h=fO N (gO N M) v0 v1 v2 v6 h:=rfl
def fA2 (N:Nat) (p:zH3) (w:zO3) (j:zU) (h:Heap):yO0 (Unit):=(rD (gO N N p w j 0 h) fun r (u:(Unit)) f=>(bif vD r (.exit 0) then some ((()),f)else some ((()),f)))
def pAt:Ann:=(.two .n (.two (.loop [(0,zI3),(1,zK3),(2,(.clo 235 [.ptr,.ptr])),(6,zM3)] [(.exit 0),.ret] [] .n) .n))
def uAl (N:Nat):pC Tryz.prog 147 [zI3,zK3,(.clo 235 [.ptr,.ptr])] (.tup []) (fun x h=>fA2 N x.1 x.2.1 x.2.2.1 h):=kD (bA (vH N) (bA (rBc N) (bA (fQ N) kA))) N pAt Tryz.f147
def f223 (N:Nat) (K I:zH3) (h:Heap):yO0 (Unit):=let y:=h.push (.row [(.ptr K)] .own);let w:=y.push (.row [(.ptr I)] .own);(iA (.val zI3) (w.cell (h.next,0)) fun L=>(jA (f149 N L [40] w) fun M A=>(iA (.val zI3) (A.cell (h.next,0)) fun C=>(jA (f93 N C [41] A) fun B j=>let F:=!B;(bif F then(iA (.val zI3) (j.cell (h.next,0)) fun p=>(jA (fA2 N p [44] ((some (y.next,0)),(some (h.next,0)),()) j) fun J f=>(iA (.val zI3) (f.cell (h.next,0)) fun r=>(jA (f149 N r [41] f) fun H u=>some ((()),u)))))else some ((()),j))))))
def mBl:Ann:=.n
def vAy (N:Nat):pC Tryz.prog 223 [zI3,zI3] (.tup []) (fun x h=>f223 N x.1 x.2.1 h):=kD (bA (vH N) (bA (qK N) (iC (sel:=fun a=>mJ 2 235 a) (uAl N) kA))) N mBl Tryz.f223
def f232 (N:Nat) (w:zH3) (h:Heap):yO0 zW:=let J:=h.push (.row yZB .own);(jA (f95 N w J) fun O f=>let K:=f.push (.row yZB .own);(vA (K.store (f.next,0) [(yI0 6),(yI0 0),(yI0 0),(.str []),yS0,(yI0 0),(yI0 0),(.str []),yS0,(yI0 0),(.str []),yS0,(.str O),yS0,yS0]) fun M=>(jA (f146 N w 5 [123] M) fun I F=>(bif I then(vA (F.store (f.next,0) [(yI0 7)]) fun H=>(jA (f244 N w (some (f.next,0)) H) fun Q j=>(iA (.val zC) (j.cells (f.next,0) 15) fun C=>(vA (j.store (h.next,0) (yRB C)) fun p=>(iA (.val zC) (p.cells (h.next,0) 15) fun A=>some (A,p))))))else(jA (f223 N w (some (f.next,0)) F) fun L u=>(iA (.val zC) (u.cells (f.next,0) 15) fun y=>(vA (u.store (h.next,0) (yRB y)) fun r=>(iA (.val zC) (r.cells (h.next,0) 15) fun B=>some (B,r)))))))))
def nBl:Ann:=.n
def tBc (N:Nat):pC Tryz.prog 232 [zI3] (.val zC) (fun x h=>f232 N x.1 h):=kD (bA (qAx N) (bA (qBc N) (bA (vAy N) (bA (vA4 N) kA)))) N nBl Tryz.f232
def lW (N:Nat) (R:zH3->zH3->zH3->SL->Int->Int->Heap->Option (Out×zU×Heap)) (Q v2 v4:zH3) (j:SL) (w f:Int) (h:Heap):Option (Out×zU×Heap):=let L:=ltInt f w;(bif L then(ixK j.a j.len f 1 fun H=>(iA (.val zK3) (h.cell H) fun J=>(jA (f93 N Q J h) fun C y=>(bif C then let O:=fB .i64 (1+f);(jA (f208 N Q y) fun K I=>(vA v4 fun u=>(vA (I.store (u.1,u.2+0) [(yI0 5)]) fun A=>(vA v4 fun p=>(vA (A.store (p.1,p.2+9) [(yI0 O)]) fun B=>(vA v4 fun r=>(vA (B.store (r.1,r.2+5) (yRD K)) fun M=>some ((Out.exit 1),(v2,v4,()),M))))))))else let F:=fB .i64 (f+1);R Q v2 v4 j w F y))))else some ((Out.exit 1),(v2,v4,()),h))
def gAc (N M:Nat) (r v2 v4:zH3) (j:SL) (f p:Int) (h:Heap):Option (Out×zU×Heap):=iter (fun u s h=>lW N (fun r v2 v4 j f p h=>u (r,v2,v4,j,f,p,()) h) s.1 s.2.1 s.2.2.1 s.2.2.2.1 s.2.2.2.2.1 s.2.2.2.2.2.1 h) M (r,v2,v4,j,f,p,()) h
def yZ (N M v0 v2 v4 v34 v35 v36 h):gAc N (M+1) v0 v2 v4 v34 v35 v36 h=lW N (gAc N M) v0 v2 v4 v34 v35 v36 h:=rfl
def f219 (N:Nat) (j:zH3) (h:Heap):yO0 zW:=let h1:=h.push (.row yZB .own);(vA (α:=Sum (zU×Heap) (Sum (zE2×Heap) (Empty))) ((jA (f93 N j [38] h1) fun x2 h3=>(bif x2 then(jA (α:=zS2) ((jA (f92 N j [109,117,116] h3) fun x4 h5=>(bif x4 then some ((j,(some (h.next,0)),3,()),h5)else some ((j,(some (h.next,0)),2,()),h5)))) fun (K:zS2) h7=>(jA (f221 N K.1 h7) fun x8 h9=>(vA K.2.1 fun b0=>(vA (h9.store b0 [(yI0 K.2.2.1),(yI0 0),(yI0 0),(.str []),yS0,(yI0 0),(yI0 0),(.str []),yS0,(yI0 0),(.str x8.1),(yL x8.2.1),(.str []),yS0,yS0]) fun V=>some (Sum.inr (Sum.inl ((K.2.1,()),V)))))))else(jA (f93 N j [33] h3) fun a7 J=>(bif a7 then(jA (f208 N j J) fun r b2=>(vA (b2.store (h.next,0) [(yI0 4),(yI0 r.1),(yI0 r.2.1),(.str r.2.2.1),(yL r.2.2.2.1),(yI0 0),(yI0 0),(.str []),yS0,(yI0 0),(.str []),yS0,(.str []),yS0,yS0]) fun L=>some (Sum.inr (Sum.inl (((some (h.next,0)),()),L)))))else(jA (α:=zQ2) ((jA (f222 N j J) fun a2 F=>(bif a2 then some ((j,(some (h.next,0)),true,()),F)else(jA (f231 N j [123] F) fun b3 Z=>some ((j,(some (h.next,0)),b3,()),Z))))) fun (f:zQ2) A=>
 (bif f.2.2.1 then(jA (f232 N f.1 A) fun a5 b1=>(vA f.2.1 fun Q=>(vA (b1.store Q (yRB a5)) fun a9=>some (Sum.inr (Sum.inl ((f.2.1,()),a9))))))else some (Sum.inl ((f.1,f.2.1,()),A))))))))) fun a8=>(mC a8 (fun (u:zU) a3=>(jA (f208 N u.1 a3) fun p y=>let S:=y.push (.row yZB .own);(vA (S.store (y.next,0) [(yI0 1),(yI0 p.1),(yI0 p.2.1),(.str p.2.2.1),(yL p.2.2.2.1),(yI0 0),(yI0 0),(.str []),yS0,(yI0 0),(.str []),yS0,(.str []),yS0,yS0]) fun C=>let O:=C.push (.row [(.str [43]),(.str [45]),(.str [60]),(.str [61,61])] .own);(rD (gAc N N u.1 u.2.1 (some (y.next,0)) ⟨(some (C.next,0)),4,4,1⟩ (Int.ofNat 4) 0 O) fun _ (w:zU) H=>(vA w.2.1 fun W=>(iA (.val zC) (H.cells W 15) fun a4=>(vA w.1 fun a1=>(vA (H.store a1 (yRB a4)) fun B=>(vA w.1 fun a6=>(iA (.val zC) (B.cells a6 15) fun Y=>some (Y,B))))))))))) fun R=>(mC R (fun (X:zE2) I=>(vA X.1 fun U=>(iA (.val zC) (I.cells U 15) fun M=>
 some (M,I)))) fun _=>none)))
def oBl:Ann:=(.two .n (.two (.joinO [(.norm,[(0,zI3),(2,zI3)]),(.ret,[(2,zI3)])] (.two (.two .n (.two (.two .n (.two (.join [(0,zI3),(2,zI3),(3,zM3)] .n) .n)) (.two .n (.two .n (.two (.join [(0,zI3),(2,zI3),(22,zL3)] .n) .n))))) .n)) (.two .n (.two (.two .n (.two (.loop [(0,zI3),(2,zI3),(4,zI3),(34,zJ3),(35,zM3),(36,zM3)] [(.exit 1)] [(2,zI3),(4,zI3)] .n) .n)) .n))))
def wAy (N:Nat):pC Tryz.prog 219 [zI3] (.val zC) (fun x h=>f219 N x.1 h):=kD (bA (vH N) (bA (tZ N) (bA (tBc N) (bA (tAy N) (bA (uAy N) (bA (rAl N) (bA (fAc N) kA))))))) N oBl Tryz.f219
def f207 (N:Nat) (w u:zH3) (h:Heap):yO0 (Unit):=(jA (f92 N w [109,117,116] h) fun x1 Y=>(vA u fun W=>(vA (Y.store (W.1,W.2+0) [(yI0 1)]) fun Z=>(vA u fun V=>(vA (Z.store (V.1,V.2+2) [(.bool x1)]) fun h6=>(jA (f154 N w h6) fun X j=>let h9:=j.push (.row yZD .own);(vA (h9.store (j.next,0) (yRF X)) fun f=>(iA (.val zK3) (f.cell (j.next,1)) fun H=>(iA (.val zD) (f.cells (j.next,2) 4) fun r=>(vA u fun B=>(vA (f.store (B.1,B.2+3) [(.str H)]) fun y=>(vA u fun F=>(vA (y.store (F.1,F.2+4) (yRE r)) fun J=>(pD (bif (jB (y.cells (j.next,2) 4) (.agg (yRE r))) then (bif (jB (f.cells (j.next,2) 4) (.agg (yRE r))) then (bif (jB (f.cell (j.next,1)) (.str H)) then true else false) else false) else false) ((jA (f93 N w [61] J) fun M O=>(vA u fun A=>(vA (O.store (A.1,A.2+8) [(.bool M)]) fun p=>(vA u fun I=>(iA (.val zL3) (p.cell (I.1,I.2+8)) fun S=>(bif S then(jA (f219 N w p) fun Q U=>(vA u fun C=>(vA (U.store (C.1,C.2+11) (yRB Q)) fun L=>(jA (f149 N w [59] L) fun a2 R=>some ((()),R)))))else(jA (f149 N w [59] p) fun a3 K=>some ((()),K)))))))))))))))))))))))
def pBl:Ann:=.n
def uBc (N:Nat):pC Tryz.prog 207 [zI3,zI3] (.tup []) (fun x h=>f207 N x.1 x.2.1 h):=kD (bA (vH N) (bA (tZ N) (bA (wAy N) (bA (mAl N) (bA (qK N) kA))))) N pBl Tryz.f207
def f209 (N:Nat) (j f:zH3) (h:Heap):yO0 (Unit):=(jA (f92 N j [98,114,101,97,107] h) fun x1 h2=>(bif x1 then(vA f fun q3=>(vA (h2.store (q3.1,q3.2+0) [(yI0 8)]) fun h4=>some ((()),h4)))else(jA (f92 N j [99,111,110,116,105,110,117,101] h2) fun x5 h6=>(bif x5 then(vA f fun q7=>(vA (h6.store (q7.1,q7.2+0) [(yI0 9)]) fun h8=>some ((()),h8)))else(jA (f92 N j [114,101,116,117,114,110] h6) fun x9 C=>(bif x9 then(vA f fun M=>(vA (C.store (M.1,M.2+0) [(yI0 10)]) fun V=>(jA (f146 N j 5 [59] V) fun b0 R=>let b7:=!b0;(vA f fun A=>(vA (R.store (A.1,A.2+8) [(.bool b7)]) fun p=>(vA f fun O=>(iA (.val zL3) (p.cell (O.1,O.2+8)) fun b9=>(bif b9 then(jA (f219 N j p) fun a7 a8=>(vA f fun H=>(vA (a8.store (H.1,H.2+11) (yRB a7)) fun b8=>some ((()),b8))))else some ((()),p)))))))))else(jA (f92 N j [100,114,111,112] C) fun U K=>(bif U then(jA (f221 N j K) fun Y b2=>(vA f fun w=>(vA (b2.store (w.1,w.2+0) [(yI0 11)]) fun a3=>(vA f fun I=>(vA (a3.store (I.1,I.2+9) (yRH Y)) fun b4=>some ((()),b4))))))else(jA (f222 N j K) fun a6 y=>(bif a6 then(jA (f95 N j y) fun b5 S=>(vA f fun J=>(vA (S.store (J.1,J.2+0) [(yI0 3)]) fun a5=>(vA f fun u=>(vA (a5.store (u.1,u.2+11) [(yI0 6),(yI0 0),(yI0 0),(.str []),yS0,(yI0 0),(yI0 0),(.str []),yS0,(yI0 0),(.str []),yS0,(.str b5),yS0,yS0]) fun a4=>
 (vA f fun L=>(jA (f223 N j (some (L.1,L.2+11)) a4) fun c0 a2=>some ((()),a2))))))))else(jA (f221 N j y) fun Q b1=>(vA f fun B=>(vA (b1.store (B.1,B.2+0) [(yI0 2)]) fun Z=>(vA f fun F=>(vA (Z.store (F.1,F.2+9) (yRH Q)) fun b6=>(jA (f149 N j [61] b6) fun c2 a9=>(jA (f219 N j a9) fun b3 W=>(vA f fun r=>(vA (W.store (r.1,r.2+11) (yRB b3)) fun X=>some ((()),X))))))))))))))))))))
def qBl:Ann:=.n
def vBc (N:Nat):pC Tryz.prog 209 [zI3,zI3] (.tup []) (fun x h=>f209 N x.1 x.2.1 h):=kD (bA (qAx N) (bA (tZ N) (bA (vAy N) (bA (uAy N) (bA (rAl N) (bA (wAy N) (bA (qK N) (bA (vA4 N) kA)))))))) N qBl Tryz.f209
def lQ (N:Nat) (C:zH3->Int->Heap->yO0 SL) (p:zH3->Int->Heap->yO0 zR) (go:zH3->Int->SL->SL->Heap->Option (Out×zR1×Heap)) (u:zH3) (Z:Int) (v4 v5:SL) (h:Heap):Option (Out×zR1×Heap):=(vA u fun q8=>(iA (.val zN3) (h.cell (q8.1,q8.2+3)) fun x9=>(iA (.val zL3) (tM E .eql 29 (.tmp 15) (.const .nilIface) x9 AV.nilIface) fun M=>(bif M then(jA (f93 N u [125] h) fun V j=>let S:=!V;(bif S then(jA (α:=zV2) ((vA u fun B=>(iA (.val zM3) (j.cell (B.1,B.2+2)) fun X=>let J:=pA X 2000;(bif J then(jA (f56 N u j) fun L O=>let K:=!pA L.1 0;some ((u,Z,v4,v5,K,()),O))else some ((u,Z,v4,v5,false,()),j))))) fun (f:zV2) r=>(bif f.2.2.2.2.1 then(jA (f57 N f.1 5 r) fun a0 Y=>some (Out.ret,(⟨none,0,0,0⟩,f.2.2.2.1,()),Y))else(vA f.1 fun A=>(iA (.val zM3) (r.cell (A.1,A.2+2)) fun H=>let I:=fB .i64 (H+1);(vA f.1 fun y=>(vA (r.store (y.1,y.2+2) [(yI0 I)]) fun R=>(jA (p f.1 f.2.1 R) fun U w=>let W:=w.push (.row (yRA U) .own);(tD (.val zJ3) (nB E 42 42 (yL f.2.2.2.1) (.slice (some (w.next,0)) 1 1 32) W) fun Q F=>go f.1 f.2.1 f.2.2.1 Q F))))))))else some ((Out.exit 0),(v4,v5,()),j)))else some ((Out.exit 0),(v4,v5,()),h)))))
def fA5 (N:Nat) (j:zH3->Int->Heap->yO0 SL) (f:zH3->Int->Heap->yO0 zR) (M:Nat) (r:zH3) (p:Int) (v4 v5:SL) (h:Heap):Option (Out×zR1×Heap):=iter (fun u s h=>lQ N j f (fun r p v4 v5 h=>u (r,p,v4,v5,()) h) s.1 s.2.1 s.2.2.1 s.2.2.2.1 h) M (r,p,v4,v5,()) h
def mQ (N rec158 rec190 M v0 v1 v4 v5 h):fA5 N rec158 rec190 (M+1) v0 v1 v4 v5 h=lQ N rec158 rec190 (fA5 N rec158 rec190 M) v0 v1 v4 v5 h:=rfl
def vAp (N:Nat) (j:zH3->Int->Heap->yO0 SL) (f:zH3->Int->Heap->yO0 zR) (w:zH3) (A:Int) (h:Heap):yO0 SL:=(jA (α:=zC3) ( let F:=ltInt 64 A;(bif F then(jA (f57 N w 6 h) fun I B=>some ((w,A,⟨none,0,0,0⟩,()),B))else some ((w,A,⟨none,0,0,0⟩,()),h))) fun (u:zC3) H=>(jA (f149 N u.1 [123] H) fun J C=>(rD (fA5 N j f N u.1 u.2.1 u.2.2.1 ⟨none,0,0,0⟩ C) fun y (r:zR1) p=>(bif vD y (.exit 0) then some (r.2.1,p)else some (r.1,p)))))
def rBl:Ann:=(.two .n (.two (.join [(0,zI3),(1,zM3),(4,zJ3)] .n) (.two .n (.two .n (.two (.two (.loop [(0,zI3),(1,zM3),(4,zJ3),(5,zJ3)] [(.exit 0),.ret] [(4,zJ3),(5,zJ3)] (.two .n (.two (.two (.two (.join [(0,zI3),(1,zM3),(4,zJ3),(5,zJ3),(32,zL3)] .n) .n) .n) .n))) .n) .n)))))
def wAp (N:Nat) (f:zH3->Int->Heap->yO0 SL) (J:zH3->Int->Heap->yO0 zR) (p:zH3) (F:Int) (h:Heap):yO0 zR:=let h1:=h.push (.row yZA .own);(jA (f56 N p h1) fun x2 h3=>let h4:=h3.push (.row yZE .own);(vA (h4.store (h3.next,0) (yRI x2)) fun j=>(iA (.val zM3) (j.cell (h3.next,2)) fun x6=>let h7:=j.push (.row yZA .own);(vA (h7.store (j.next,0) [(yI0 0),(yI0 x6),(.bool false),(.str []),(yI0 0),(.str []),yS0,yS0,(.bool false),(.str []),yS0,(yI0 0),(yI0 0),(yI0 0),(.str []),yS0,(yI0 0),(yI0 0),(.str []),yS0,(yI0 0),(.str []),yS0,(.str []),yS0,yS0,(yI0 0),(yI0 0),(.str []),yS0,yS0,yS0]) fun h8=>(jA (α:=zU) ((jA (f92 N p [108,101,116] h8) fun x9 y=>(bif x9 then(jA (f207 N p (some (j.next,0)) y) fun d9 X=>some (((some (h.next,0)),(some (j.next,0)),()),X))else(jA (f92 N p [105,102] y) fun c4 w=>(bif c4 then(jA (f208 N p w) fun d0 K=>(vA (K.store (j.next,0) [(yI0 4)]) fun b8=>(vA (b8.store (j.next,26) (yRD d0)) fun b1=>let d6:=fB .i64 (F+1);(jA (f p d6 b1) fun c0 c2=>(vA (c2.store (j.next,30) [(yL c0)]) fun R=>
 (jA (f92 N p [101,108,115,101] R) fun b9 d5=>(vA (d5.store (j.next,8) [(.bool b9)]) fun u=>(iA (.val zL3) (u.cell (j.next,8)) fun a2=>(bif a2 then let b0:=fB .i64 (F+1);(jA (f p b0 u) fun b2 b3=>(vA (b3.store (j.next,31) [(yL b2)]) fun a3=>some (((some (h.next,0)),(some (j.next,0)),()),a3)))else some (((some (h.next,0)),(some (j.next,0)),()),u))))))))))else(jA (f92 N p [119,104,105,108,101] w) fun S B=>(bif S then(jA (f208 N p B) fun b6 a8=>(vA (a8.store (j.next,0) [(yI0 5)]) fun Q=>(vA (Q.store (j.next,26) (yRD b6)) fun c7=>let c5:=fB .i64 (F+1);(jA (f p c5 c7) fun a9 b5=>(vA (b5.store (j.next,30) [(yL a9)]) fun d4=>some (((some (h.next,0)),(some (j.next,0)),()),d4))))))else(jA (f92 N p [108,111,111,112] B) fun d3 A=>(bif d3 then let L:=fB .i64 (F+1);(jA (f p L A) fun V M=>(vA (M.store (j.next,0) [(yI0 6)]) fun a5=>(vA (a5.store (j.next,30) [(yL V)]) fun U=>some (((some (h.next,0)),(some (j.next,0)),()),U))))else(jA (f146 N p 5 [123] A) fun c9 C=>(bif c9 then let W:=fB .i64 (F+1);(jA (f p W C) fun c6 Y=>
 (vA (Y.store (j.next,0) [(yI0 7)]) fun c8=>(vA (c8.store (j.next,30) [(yL c6)]) fun Z=>some (((some (h.next,0)),(some (j.next,0)),()),Z))))else(jA (f209 N p (some (j.next,0)) C) fun d8 a4=>(jA (f149 N p [59] a4) fun d7 a6=>some (((some (h.next,0)),(some (j.next,0)),()),a6)))))))))))))) fun (r:zU) I=>(vA r.2.1 fun O=>(iA (.val zA) (I.cells O 32) fun c3=>(vA r.1 fun b4=>(vA (I.store b4 (yRA c3)) fun H=>(vA r.1 fun a7=>(iA (.val zA) (H.cells a7 32) fun b7=>some (b7,H))))))))))))
def tBl:Ann:=(.two .n (.two .n (.two .n (.two (.join [(4,zI3),(6,zI3)] .n) .n))))
def yAy (N M:Nat):((zH3->Int->Heap->yO0 SL)×(zH3->Int->Heap->yO0 zR)×Unit):=Nat.rec (fun _ _ _=>none,fun _ _ _=>none,()) (fun _ r=>(vAp N r.1 r.2.1,wAp N r.1 r.2.1,())) M
def f158 (N M:Nat):zH3->Int->Heap->yO0 SL:=(yAy N M).1
def f190 (N M:Nat):zH3->Int->Heap->yO0 zR:=(yAy N M).2.1
def oAh (N M a0 a1 h):f158 N (M+1) a0 a1 h=vAp N (f158 N M) (f190 N M) a0 a1 h:=rfl
def aAz (N M a0 a1 h):f190 N (M+1) a0 a1 h=wAp N (f158 N M) (f190 N M) a0 a1 h:=rfl
def fU (N:Nat):∀ M:Nat,(pC Tryz.prog 158 [zI3,zM3] (.val zJ3) (fun x h=>f158 N M x.1 x.2.1 h))/\(pC Tryz.prog 190 [zI3,zM3] (.val zA) (fun x h=>f190 N M x.1 x.2.1 h))/\True
 | 0=>⟨(fun xs h r h' f=>by cases f),(fun xs h r h' f=>by cases f),trivial⟩
 | M+1=>⟨kD (bA (vH N) (bA (uA4 N) (bA (fT N) (bA (fU N M).2.1 (bA (qK N) kA))))) N rBl Tryz.f158,kD (bA (tZ N) (bA (fT N) (bA (vBc N) (bA (fAc N) (bA (uBc N) (bA (fU N M).1 (bA (qK N) (bA (vA4 N) kA)))))))) N tBl Tryz.f190,trivial⟩
def wBc (N:Nat):pC Tryz.prog 158 [zI3,zM3] (.val zJ3) (fun x h=>f158 N N x.1 x.2.1 h):=(fU N N).1
def f103 (N:Nat) (a0:zH3) (a1:Bool) (a2:Int) (h:Heap):yO0 zA1:=let h1:=h.push (.row [(.ptr a0)] .own);let h2:=h1.push (.row yZC .own);(iA (.val zI3) (h2.cell (h.next,0)) fun x3=>(vA x3 fun q4=>(vA (h2.store (q4.1,q4.2+2) yZK) fun h5=>(iA (.val zI3) (h5.cell (h.next,0)) fun x6=>(jA (f94 N x6 1 h5) fun x7 A=>let h9:=A.push (.row yZC .own);(vA (h9.store (A.next,0) [(.bool a1),(.str x7),yS0,yS0,(yI0 0),(.str []),yS0,yS0,yS0,(yI0 a2)]) fun B=>(jA (α:=zE1) ((iA (.val zI3) (B.cell (h.next,0)) fun c5=>(jA (f93 N c5 [60] B) fun b6 w=>(bif b6 then(iA (.val zI3) (w.cell (h.next,0)) fun b7=>(jA (iW N b7 [44] ((some (A.next,0)),(some (h.next,0)),()) w) fun d4 y=>(iA (.val zI3) (y.cell (h.next,0)) fun a7=>(jA (f149 N a7 [62] y) fun d3 b8=>some (((some (h.next,0)),(some (h1.next,0)),(some (A.next,0)),()),b8)))))else some (((some (h.next,0)),(some (h1.next,0)),(some (A.next,0)),()),w))))) fun (f:zE1) K=>(vA f.1 fun a6=>(iA (.val zI3) (K.cell a6) fun b4=>(jA (f149 N b4 [40] K) fun c8 L=>(jA (α:=zE1) ((vA f.1 fun W=>(iA (.val zI3) (L.cell W) fun a8=>(jA (f93 N a8 [41] L) fun a9 r=>let c4:=!a9;(bif c4 then(vA f.1 fun X=>(iA (.val zI3) (r.cell X) fun b0=>(jA (jW N b0 [44] (f.1,f.2.2.1,()) r) fun c9 I=>
 (vA f.1 fun b1=>(iA (.val zI3) (I.cell b1) fun b9=>(jA (f149 N b9 [41] I) fun d0 c2=>some (f,c2)))))))else some (f,r)))))) fun (p:zE1) O=>(jA (α:=zE1) ((vA p.1 fun c3=>(iA (.val zI3) (O.cell c3) fun b2=>(jA (f93 N b2 [45,62] O) fun Q u=>(bif Q then(vA p.1 fun Z=>(iA (.val zI3) (u.cell Z) fun U=>(jA (f55 N N U 1 u) fun S c7=>(vA p.2.2.1 fun F=>(vA (c7.store (F.1,F.2+4) (yRE S)) fun c0=>some (p,c0))))))else some (p,u)))))) fun (j:zE1) C=>(vA j.1 fun V=>(iA (.val zI3) (C.cell V) fun b5=>(jA (f158 N N b5 1 C) fun b3 a3=>(vA j.2.2.1 fun J=>(vA (a3.store (J.1,J.2+8) [(yL b3)]) fun H=>(vA j.2.2.1 fun a5=>(iA (.val zE) (H.cells a5 10) fun c6=>(vA j.2.1 fun a4=>(vA (H.store a4 (yRC c6)) fun M=>(vA j.2.1 fun Y=>(iA (.val zE) (M.cells Y 10) fun R=>some (R,M))))))))))))))))))))))))
def uBl:Ann:=(.two .n (.two .n (.two .n (.two (.join [(3,zI3),(6,zI3),(7,zI3)] .n) (.two .n (.two (.join [(3,zI3),(6,zI3),(7,zI3)] .n) (.two (.join [(3,zI3),(6,zI3),(7,zI3)] .n) .n)))))))
def yBc (N:Nat):pC Tryz.prog 103 [zI3,zL3,zM3] (.val zE) (fun x h=>f103 N x.1 x.2.1 x.2.2.1 h):=kD (bA (eQ N) (bA (vH N) (bA (oB8 N) (bA (wBc N) (bA (qK N) (iC (sel:=fun a=>mJ 2 157 a) (qAl N) (iC (sel:=fun a=>mJ 2 155 a) (pAl N) kA))))))) N uBl Tryz.f103
def f63 (N:Nat) (j U:zH3) (h:Heap):yO0 (Unit):=(jA (f92 N j [112,117,98] h) fun x1 h2=>(jA (f56 N j h2) fun V h4=>(jA (f92 N j [115,116,114,117,99,116] h4) fun x5 S=>(bif x5 then(vA U fun u=>(iA (.val zJ3) (S.cell (u.1,u.2+0)) fun R=>(jA (f102 N j x1 V.2.2.1 S) fun x9 w=>let H:=w.push (.row (yRG x9) .own);(tD (.val zJ3) (nB E 22 22 (yL R) (.slice (some (w.next,0)) 1 1 5) H) fun Z b0=>(vA U fun Q=>(vA (b0.store (Q.1,Q.2+0) [(yL Z)]) fun O=>(pD (bif (jB (H.cell (u.1,u.2+0)) (yL R)) then (bif (jB (w.cell (u.1,u.2+0)) (yL R)) then (bif (jB (S.cell (u.1,u.2+0)) (yL R)) then true else false) else false) else false) ((vA j fun B=>(iA (.val zN3) (O.cell (B.1,B.2+3)) fun Y=>(jA (f104 N Y V.2.2.1 O) fun J a2=>(vA j fun L=>(pD (AV.single J) (vA (a2.store (L.1,L.2+3) [J]) fun a3=>some ((()),a3)))))))))))))))else(jA (f92 N j [102,110] S) fun a8 r=>(bif a8 then(vA U fun f=>(iA (.val zJ3) (r.cell (f.1,f.2+1)) fun p=>(jA (f103 N j x1 V.2.2.1 r) fun W y=>let I:=y.push (.row (yRC W) .own);(tD (.val zJ3) (nB E 23 23 (yL p) (.slice (some (y.next,0)) 1 1 10) I) fun a4 X=>
 (vA U fun A=>(vA (X.store (A.1,A.2+1) [(yL a4)]) fun F=>(pD (bif (jB (I.cell (f.1,f.2+1)) (yL p)) then (bif (jB (y.cell (f.1,f.2+1)) (yL p)) then (bif (jB (r.cell (f.1,f.2+1)) (yL p)) then true else false) else false) else false) ((vA j fun K=>(iA (.val zN3) (F.cell (K.1,K.2+3)) fun a7=>(jA (f104 N a7 V.2.2.1 F) fun M a6=>(vA j fun C=>(pD (AV.single M) (vA (a6.store (C.1,C.2+3) [M]) fun a5=>some ((()),a5)))))))))))))))else(jA (f57 N j 21 r) fun b1 a9=>some ((()),a9))))))))
def cBt:Ann:=.n
def vBl (N:Nat):pC Tryz.prog 63 [zI3,zI3] (.tup []) (fun x h=>f63 N x.1 x.2.1 h):=kD (bA (tZ N) (bA (uA4 N) (bA (fT N) (bA (cBc N) (bA (yBc N) (bA (yBb N) kA)))))) N cBt Tryz.f63
def mW (N:Nat) (K:zH3->zH3->zH3->Int->Heap->Option (Out×zE1×Heap)) (v2 p f:zH3) (H:Int) (h:Heap):Option (Out×zE1×Heap):=(vA f fun I=>(iA (.val zN3) (h.cell (I.1,I.2+3)) fun r=>(iA (.val zL3) (tM E .eql 29 (.tmp 24) (.const .nilIface) r AV.nilIface) fun C=>(bif C then(jA (f56 N f h) fun y j=>let B:=!pA y.1 0;(bif B then let F:=pA H 256;(bif F then(jA (f57 N f 5 j) fun J u=>some ((Out.exit 0),(v2,p,f,()),u))else(jA (f63 N f p j) fun L A=>let w:=fB .i64 (H+1);K v2 p f w A))else some ((Out.exit 0),(v2,p,f,()),j)))else some ((Out.exit 0),(v2,p,f,()),h)))))
def yAp (N M:Nat) (v2 j f:zH3) (p:Int) (h:Heap):Option (Out×zE1×Heap):=iter (fun r s h=>mW N (fun v2 j f p h=>r (v2,j,f,p,()) h) s.1 s.2.1 s.2.2.1 s.2.2.2.1 h) M (v2,j,f,p,()) h
def gU (N M v2 v6 v7 v8 h):yAp N (M+1) v2 v6 v7 v8 h=mW N (yAp N M) v2 v6 v7 v8 h:=rfl
def f27 (N:Nat) (Y:zO3) (h:Heap):yO0 (zR1×AV×Unit):=let W:=h.push (.row yZJ .own);(jA (f54 N Y W) fun O L=>(iA (.val zL3) (tM E .neq 29 (.tmp 14) (.const .nilIface) O.2.1 AV.nilIface) fun X=>(bif X then(vA (L.store (h.next,0) yZJ) fun R=>(iA (.val zQ) (R.cells (h.next,0) 2) fun V=>some ((V,O.2.1,()),R)))else let S:=L.push (.row yZJ .own);let U:=S.push (.row [(yL O.1),(yI0 0),(yI0 0),AV.nilIface] .own);(rD (yAp N N (some (h.next,0)) (some (L.next,0)) (some (S.next,0)) 0 U) fun _ (f:zE1) p=>(vA f.2.2.1 fun y=>(iA (.val zN3) (p.cell (y.1,y.2+3)) fun Q=>(iA (.val zL3) (tM E .neq 29 (.tmp 43) (.const .nilIface) Q AV.nilIface) fun C=>(bif C then(vA f.2.2.1 fun j=>(iA (.val zN3) (p.cell (j.1,j.2+3)) fun r=>(vA f.1 fun H=>(vA (p.store H yZJ) fun u=>(pD (bif (jB (u.cell (j.1,j.2+3)) r) then (bif (jB (p.cell (j.1,j.2+3)) r) then true else false) else false) ((vA f.1 fun A=>(iA (.val zQ) (u.cells A 2) fun I=>some ((I,r,()),u)))))))))else(vA f.2.1 fun K=>(iA (.val zQ) (p.cells K 2) fun M=>(vA f.1 fun J=>(vA (p.store J (yRJ M)) fun w=>(vA f.1 fun B=>(iA (.val zQ) (w.cells B 2) fun F=>some ((F,AV.nilIface,()),w)))))))))))))))
def dBt:Ann:=(.two .n (.two .n (.two .n (.two .n (.two .n (.two (.two .n (.two (.loop [(2,zI3),(6,zI3),(7,zI3),(8,zM3)] [(.exit 0)] [(2,zI3),(6,zI3),(7,zI3)] .n) .n)) .n))))))
def wBl (N:Nat):pC Tryz.prog 27 [zK3] (.tup [zQ,zN3]) (fun x h=>f27 N x.1 h):=kD (bA (vBl N) (bA (uA4 N) (bA (fT N) (bA (vBj N) kA)))) N dBt Tryz.f27
end
end Qp
namespace Qp
def qAt (N:Nat) (h:Heap):f233 N [] h=some ((0,AV.iface 256 (yI0 2),()),h):=rfl
def rAt {N:Nat} {h:Heap} (f:Qw.pinned h=true):∃ v h',f220 N [] h=some ((0,v,()),h')/\Chg [] h h':=by
 unfold f220;rw [qAt,aA];have e:tM E .neq 29 (.tmp 11) (.const .nilIface) (AV.iface 256 (.int .i64 2)) AV.nilIface=some (.bool true):=by kernel_rfl
 simp only [e,dA,aC,xA];have j:f234 N [65,116,111,105] [] 0 0 (AV.iface 256 (.int .i64 2)) h=some (AV.iface 259 (.ptr (some (h.next,0))),h.push (.row [.str [65,116,111,105],.str [],Qw.sen] .own)):=by
  unfold f234 Qw.mAh;rw [f];rfl
 rw [j,aA];exact ⟨_,_,rfl,uA _ _⟩
theorem lA9:∀ (t:Bs) (i:Nat) (hi:i<t.length),(ofBytes t)[i]? = some (.int .u8 ((t[i]).toNat:Int))
 | c::r,0,_=>rfl
 | c::r,i+1,hi=>by
  simp only [ofBytes,List.getElem?_cons_succ,List.getElem_cons_succ];exact lA9 r i (by grind)
theorem pAh:∀ (a:Bs) (c:UInt8) (v:Nat),mS (a++[c]) v=mS a v * 10+(c.toNat-48)
 | [],c,v=>rfl
 | d::a,c,v=>by simp only [List.cons_append,mS,pAh a c]
def bAz {N:Nat} {t:Bs} {h:Heap} {A:Nat} (u:h.t.get A=some (.row (ofBytes t) .grown)) (p:t.all mD=true) (H:t.length<=10) {v2:Int} {v3:AV} {v5:Bs} {cap:Nat}:∀ (M j v:Nat),j<=t.length->t.length-j<M->v<10 ^ j->
  eAc N M v2 v3 v5 (v:Int) ⟨some (A,0),t.length,cap,1⟩ (Int.ofNat t.length) (j:Int) h=some (.exit 0,(v2,v3,v5,((mS (t.drop j) v:Nat):Int),()),h):=by
 intro M
 induction M with
 | zero=>omega
 | succ M F=>
  intro j v C J B;rw [nAh];unfold eA5;simp only [wA4]
  by_cases q:j<t.length
  ·simp only [q,xO,xA]
   have hd:mD t[j]=true:=List.all_eq_true.1 p _ (xR q);have f:=hd;simp only [mD,xU] at f;rw [show ((j:Nat):Int)=Int.ofNat j from rfl,lB8 _ _ _ _ _ q];have w:h.cell (A,0+j * 1)=some (.int .u8 ((t[j]).toNat:Int)):=by
    rw [xC,Nat.mul_one];have K:wB3 (h.g A)=some (ofBytes t):=by
     have:h.g A=some (.row (ofBytes t) .grown):=u
     rw [this];rfl
    grind [Heap.cell_g,jA4,lA9]
   rw [w];simp only [dA,qB];have y:fB .u8 (((t[j]).toNat:Int)-48)=(((t[j]).toNat-48:Nat):Int):=by grind [u8_in]
   have z:ltInt 9 ((((t[j]).toNat-48:Nat)):Int)=false:=by
    have:=qC 9 ((t[j]).toNat-48)
    grind
   rw [y];simp only [z,xB];have I:(10:Nat) ^ j<=10 ^ 10:=Nat.pow_le_pow_right (by omega) (by omega);have r:fB .i64 (fB .i64 ((v:Int) * 10)+fB .i64 (((t[j]).toNat-48:Nat):Int))=((v * 10+((t[j]).toNat-48):Nat):Int):=by
    grind [wG,dW]
   rw [r,show Int.ofNat j=(j:Int) from rfl,iB (by omega),drop_cons q]
   grind [mS,Nat.pow_succ]
  ·simp only [q,xQ,xB]
   rw [show t.drop j=[] from List.drop_of_length_le (by omega)];rfl
def nB5 {N:Nat} {t:Bs} {h:Heap} (Q:20<=N) (C:fY t=true) (h0:0<t.length):∃ h',f220 N t h=some ((((mS t 0:Nat):Int),AV.nilIface,()),h')/\Chg [] h h':=by
 have J:t.length<=10:=by
  cases t with
  | nil=>grind
  | cons c r=>
   grind [eAt]
 have f:t.all mD=true:=by
  simp only [fY,xG] at C;grind
 have B:mS t 0<=2147483647:=by
  simp only [fY,xG,Nat.ble_eq] at C;omega
 have hd:mD t[0]=true:=List.all_eq_true.1 f _ (xR h0);have u:=hd;simp only [mD,xU] at u;unfold f220 f233;have O:ltInt 0 (Int.ofNat t.length)=true:=by rw [ltI,xU];grind
 have M:ltInt (Int.ofNat t.length) 19=true:=by rw [ltI,xU];grind
 have e0:∀ {β:Type} (K:Int->Option β),iL t 0 K=K ((t[0]).toNat:Int):=fun K=>dJ h0 K;have p:pA ((t[0]).toNat:Int) 45=false:=by grind [eqI,xd]
 have y:pA ((t[0]).toNat:Int) 43=false:=by grind [eqI,xd]
 have j:lX E 9 81 (.str t) h=some (.slice (some (h.next,0)) t.length t.length 1,h.push (.row (ofBytes t) .grown)):=by
  have F:E.und 9=some .string:=nBr;have w:∃ e,E.und 81=some (.slice e)/\E.und e=some (.int .u8):=by
   have:(match E.und 81 with | some (.slice e)=>(match E.und e with | some (.int .u8)=>true | _=>false) | _=>false)=true:=by kernel_rfl
   grind
  have ⟨e,I,H⟩:=w;simp only [lX,F,I,H]
 simp only [O,M,xA,aA,fA,e0,p,xB,y,dB,j,rF,qA];have L:(h.push (.row (ofBytes t) .grown)).t.get h.next=some (.row (ofBytes t) .grown):=iG _ rfl;have A:=bAz (N:=N) L f J (v2:=0) (v3:=AV.nilIface) (v5:=t) (cap:=t.length) N 0 0 (xc _) (by omega) (by simp);rw [show ((0:Nat):Int)=0 from rfl,List.drop_zero] at A;rw [A];simp only [mB,vF,xO,xA,e0,p,xB,aA,fA,dB,rB];have ne:tM E .neq 29 (.tmp 11) (.const .nilIface) AV.nilIface AV.nilIface=some (.bool false):=ne_nil 11;simp only [ne,dA,aC,xB];exact ⟨_,rfl,uA _ _⟩
end Qp
namespace Qp
structure PC (T:List Tok) (P:Nat) (X:List Nat) (h:Heap) (σ:St) (st:Int):Prop where
 pa:PA T P X h σ st
 pin:Qw.pinned h=true
 p4:4<=P
def pQ {h h':Heap} {M:List Nat} (c:Chg M h h') (r:∀ A∈M,4<=A) (u:4<=h.next) (f:Qw.pinned h=true):Qw.pinned h'=true:=by
 unfold Qw.pinned Qx.pinned at f ⊢;have e0:h'.t.get 0=h.t.get 0:=c.g 0 (by omega) (fun j=>by grind);have p:h'.t.get 2=h.t.get 2:=c.g 2 (by omega) (fun j=>by grind);rw [c.pins,e0,p];exact f
section
variable {N:Nat} {T:List Tok} {P:Nat} {X X':List Nat} {h h':Heap} {σ σ':St} {st st':Int}
def PC.to (x:PC T P X h σ st) {M:List Nat} (c:Chg M h h') (f:∀ A∈M,P<=A) (y:PA T P X' h' σ' st'):PC T P X' h' σ' st':=
 ⟨y,pQ c (fun A j=>xT x.p4 (f A j)) (by have:=x.pa.P_lt;have:=x.p4;omega) x.pin,x.p4⟩
def PC.to1 (x:PC T P X h σ st) (c:Chg [P] h h') (y:PA T P X' h' σ' st'):PC T P X' h' σ' st':=x.to c (by simp) y
theorem PC.chg (x:PC T P X h σ st) (c:Chg [] h h'):PC T P X h' σ st:=x.to c (by simp) (x.pa.chg c)
def PC.chgM {M:List Nat} (x:PC T P X h σ st) (c:Chg M h h') (f:∀ A∈M,A∈X):PC T P X h' σ st:=x.to c (fun A j=>Nat.le_of_lt (x.pa.xl A (f A j)).1) (x.pa.chgM c f)
def PC.chg1 {A:Nat} (x:PC T P X h σ st) (c:Chg [A] h h') (f:A∈X):PC T P X h' σ st:=x.chgM c (by grind)
def PC.free {i:Nat} (x:PC T P X h (i,none) st) (f:∀ A∈X',P<A/\A<h.next):PC T P X' h (i,none) st:=⟨x.pa.free f,x.pin,x.p4⟩
def PC.sub (x:PC T P X h σ st) (f:∀ A∈X',A∈X):PC T P X' h σ st:=⟨x.pa.sub f,x.pin,x.p4⟩
theorem PC.add (x:PC T P X h σ st) (c:Chg [] h h') {A:Nat} (f:h.next<=A) (j:A<h'.next):PC T P (A::X) h' σ st:=x.to c (by simp) (x.pa.add c f j)
def PC.P_lt (x:PC T P X h σ st):P<h.next:=x.pa.P_lt
def PC.lt (x:PC T P X h σ st):σ.1<T.length:=x.pa.lt
def aAq (x:PC T P X h σ st) {c:Int} (f:c≠0):∃ h',f57 N (some (P,0)) c h=some ((),h')/\Chg [P] h h'/\PC T P X h' (oG T c σ) st:=by
 have ⟨h',e,c,y⟩:=iA9 (N:=N) x.pa f;exact ⟨h',e,c,x.to1 c y⟩
def gJ (j:Toks T) (x:PC T P X h σ st) {w:Bs} (f:bA5 w=false):∃ h',f92 N (some (P,0)) w h=some ((uB T w σ).1,h')/\Chg [P] h h'/\PC T P X h' (uB T w σ).2 st:=by
 have ⟨h',e,c,y⟩:=uAp (N:=N) j x.pa f;exact ⟨h',e,c,x.to1 c y⟩
def qJ (j:Toks T) (x:PC T P X h σ st) {w:Bs} (f:isWord w=false):∃ h',f93 N (some (P,0)) w h=some ((uB T w σ).1,h')/\Chg [P] h h'/\PC T P X h' (uB T w σ).2 st:=by
 have ⟨h',e,c,y⟩:=jA9 (N:=N) j x.pa f;exact ⟨h',e,c,x.to1 c y⟩
def nW (j:Toks T) (x:PC T P X h σ st) {k:Int} (f:k≠0):∃ h',f94 N (some (P,0)) k h=some ((kC T k σ).1,h')/\Chg [P] h h'/\PC T P X h' (kC T k σ).2 st:=by
 have ⟨h',e,c,y⟩:=fAh (N:=N) j x.pa f;exact ⟨h',e,c,x.to1 c y⟩
def wB8 (f:Toks T) (x:PC T P X h σ st):∃ h',f95 N (some (P,0)) h=some ((rK T σ).1,h')/\Chg [P] h h'/\PC T P X h' (rK T σ).2 st:=by
 have ⟨h',e,c,y⟩:=rB8 (N:=N) f x.pa;exact ⟨h',e,c,x.to1 c y⟩
def aH (j:Toks T) (x:PC T P X h σ st) {w:Bs} (f:isWord w=false):∃ h',f149 N (some (P,0)) w h=some ((),h')/\Chg [P] h h'/\PC T P X h' (eD T w σ) st:=by
 have ⟨h',e,c,y⟩:=jAy (N:=N) j x.pa f;exact ⟨h',e,c,x.to1 c y⟩
def gA5 (x:PC T P X h σ st) (n:Nat):∃ h',f188 N (some (P,0)) (n:Int) h=some (((if 64<=n then oG T 5 σ else σ).2).isNone,h')/\Chg [P] h h'/\PC T P X h' (if 64<=n then oG T 5 σ else σ) st:=by
 have ⟨h',e,c,y⟩:=kAl (N:=N) x.pa n;exact ⟨h',e,c,x.to1 c y⟩
def yBl (j:Toks T) (f:100<=N) (x:PC T P X h σ st):∃ v h',f96 N (some (P,0)) h=some (v,h')/\PC T P X h' (tI T σ).2 st/\Chg [P] h h'/\Sl h' (fun C=>h.next<=C) v ((tI T σ).1.map D.s):=by
 have ⟨v,h',e,y,c,s⟩:=tB8 (N:=N) j f x.pa;exact ⟨v,h',e,x.to1 c y,c,s⟩
def yB8 (j:Toks T) (f:100<=N) (x:PC T P X h σ st):∃ r h',f55 N N (some (P,0)) 1 h=some (r,h')/\PC T P X h' (nJ T 64 σ).2 st/\Chg [P] h h'/\Dt h' (fun C=>h.next<=C) (nJ T 64 σ).1 (tyc r):=by
 have ⟨r,h',e,y,c,s⟩:=kBk (N:=N) j f 64 N h σ X (by omega) (by omega) x.pa;rw [show ((65-64:Nat):Int)=1 from rfl] at e;exact ⟨r,h',e,x.to1 c y,c,s⟩
end
def cAz {h0 H:Heap} {M:List Nat} {st e:TypeId} {n W:Nat} (B:AppN E st e n W) (u:0<n) {v:SL} {xs:List D} {d:D} {cs:List AV} (c:Chg M h0 H) (r:Ow h0.next H v n xs) (hd:Dt H (fun C=>h0.next<=C/\v.blk≠some C) d cs) (j:cs.length=n) (w:(xs.length+1) * W<=1073741824) :
  ∃ h f,(∀ {β:Type} (K:SL->Heap->Option β),tD (.val zJ3) (nB E st st (yL v) (.slice (some (H.next,0)) 1 1 n) (H.push (.row cs .own))) K=K h f)/\Ow h0.next f h n (xs++[d])/\Chg v.blk.toList H f/\(∀ A,h.blk=some A->v.blk=some A\/H.next<=A):=by
 have ⟨h,f,e,o,p,y⟩:=mA4 B u r hd j c.next w;exact ⟨h,f,fun K=>by rw [e];simp only [rF,qA],o,p,y⟩
def dAz {h0 H:Heap} {M:List Nat} {st e:TypeId} {n W:Nat} (V:AppN E st e n W) (Q:0<n) {O j:Nat} {f:List AV} {v:SL} {xs:List D} {d:D} {cs:List AV} (c:Chg M h0 H) (oO:H.own O f) (L:f[j]? = some (SL.av v)) (J:Ow h0.next H v n xs) (hO:O<h0.next) (hd:Dt H (fun C=>h0.next<=C/\v.blk≠some C) d cs) (y:cs.length=n) (R:(xs.length+1) * W<=1073741824) :
  ∃ p h,(∀ {β:Type} (K:Heap->Option β),(tD (.val zJ3) (nB E st st (yL v) (.slice (some (H.next,0)) 1 1 n) (H.push (.row cs .own))) fun (u:SL) X=>vA (X.store (O,j) [.slice u.a u.len u.cap u.sz]) K)=K h)/\h.own O (f.set j (SL.av p))/\Ow h0.next h p n (xs++[d])/\Chg (O::v.blk.toList) H h:=by
 have ⟨p,h,e,o,F,Z⟩:=cAz V Q c J hd y R;have U:∀ A∈v.blk.toList,h0.next<=A:=fun A B=>(J.ge A (by grind)).1;have r:h.own O f:=oO.chg F (fun Y=>by grind);have w:j<f.length:=(List.getElem?_eq_some_iff.1 L).1;have S:h.store (O,j) [SL.av p]=some (h.put O (.row (f.set j (SL.av p)) .own)):=r.store1 w _;have I:=r.put (f.set j (SL.av p));refine ⟨p,_,fun K=>?_,kB r _,o.chg I (by grind),(F.mono (fun A B=>xe _ B)).trans (I.mono (by simp))⟩
 grind [vA,SL.av,fA]
noncomputable def iP (N:Nat) (P:zH3) (sep:Bs) (F:Heap->yO0 Unit):Nat->Int->Heap->Option (Out×Unit×Heap)
 | 0,_,_=>none
 | M+1,n,h=>(jA (f188 N P n h) fun p j=>
  (bif p then
   (jA (F j) fun w r=>
   (jA (f93 N P sep r) fun u f=>
   (bif !u then
   some (Out.ret,(),f)
   else
   iP N P sep F M (fB .i64 (n+1)) f)))
  else
   some (Out.exit 0,(),j)))
def oW (T:List Tok) (one:St->D×St) (sep:Bs):Nat->St->List D×St
 | 0,σ=>([],oG T 5 σ)
 | g+1,σ=>let a:=one σ;let b:=uB T sep a.2;if b.1=true then ((a.1::(oW T one sep g b.2).1),(oW T one sep g b.2).2) else ([a.1],b.2)
def oB5 {N:Nat} {T:List Tok} {P:Nat} {X:List Nat} {st:Int} (J:Toks T) {F:Heap->yO0 Unit} {one:St->D×St} {Inv:Heap->List D->St->Prop}
  (j:∀ h xs σ,Inv h xs σ->PC T P X h σ st)
  (f:∀ h h' xs σ u,Inv h xs σ->Chg [P] h h'->PC T P X h' u st->Inv h' xs u)
  (p:∀ h xs i,Inv h xs (i,none)->xs.length<=64->∃ h',F h=some ((),h')/\Inv h' (xs++[(one (i,none)).1]) (one (i,none)).2)
  {sep:Bs} (r:isWord sep=false):∀ (g M i:Nat) (h:Heap) (xs:List D),g<M->g<=64->xs.length<=64-g->Inv h xs (i,none)->
  ∃ o h',iP N (some (P,0)) sep F M ((64-g:Nat):Int) h=some (o,(),h')/\Inv h' (xs++(oW T one sep g (i,none)).1) (oW T one sep g (i,none)).2:=by
 intro g
 induction g with
 | zero=>
  intro M i h xs Q R U x;obtain ⟨M,rfl⟩:∃ m,M=m+1:=⟨M-1,by omega⟩;have ⟨C,B,A,y⟩:=gA5 (N:=N) (j _ _ _ x) (64-0);simp only [iP];rw [B,aA];simp only [show 64<=64-0 by omega,xM,oG,Option.isNone_some,xB] at y ⊢;refine ⟨_,C,rfl,?_⟩;simp only [oW,List.append_nil];exact f _ _ _ _ _ x A y
 | succ g W=>
  intro M i h xs Q R U x;obtain ⟨M,rfl⟩:∃ m,M=m+1:=⟨M-1,by omega⟩;have ⟨C,B,A,y⟩:=gA5 (N:=N) (j _ _ _ x) (64-(g+1));simp only [iP];rw [B,aA];have z:¬ 64<=64-(g+1):=by omega
  simp only [z,xL,Option.isNone_none,xA] at y ⊢;have ⟨V,I,H⟩:=p _ _ _ (f _ _ _ _ _ x A y) (by omega);rw [I,aA];have ⟨Y,L,O,K⟩:=qJ (N:=N) J (j _ _ _ H) (w:=sep) r;rw [L,aA];have S:=f _ _ _ _ _ H O K;simp only [oW]
  cases Z:(uB T sep (one (i,none)).2).1 with
  | false=>
   grind
  | true=>
   simp only [xV,xB,xM]
   grind [yF,iB,xY,List.singleton_append]
def qD (T:List Tok) (one:St->D×St) (sep:Bs) (σ:St):List D×St:=match σ.2 with
 | none=>oW T one sep 64 σ
 | some _=>([],σ)
def bS {N:Nat} {T:List Tok} {P:Nat} {X:List Nat} {st:Int} (C:Toks T) (I:100<=N) {F:Heap->yO0 Unit} {one:St->D×St} {Inv:Heap->List D->St->Prop}
  (p:∀ h xs σ,Inv h xs σ->PC T P X h σ st)
  (f:∀ h h' xs σ u,Inv h xs σ->Chg [P] h h'->PC T P X h' u st->Inv h' xs u)
  (j:∀ h xs i,Inv h xs (i,none)->xs.length<=64->∃ h',F h=some ((),h')/\Inv h' (xs++[(one (i,none)).1]) (one (i,none)).2)
  {sep:Bs} (r:isWord sep=false) {σ:St} {h:Heap} (x:Inv h [] σ) :
  ∃ o h',iP N (some (P,0)) sep F N 0 h=some (o,(),h')/\Inv h' (qD T one sep σ).1 (qD T one sep σ).2:=by
 have ⟨i,e⟩:=σ
 cases e with
 | none=>
  have ⟨o,h',e,y⟩:=oB5 (N:=N) C p f j r 64 N i h [] (by omega) (xD _) (by simp) x;rw [show ((64-64:Nat):Int)=0 from rfl] at e;rw [List.nil_append] at y;exact ⟨o,h',e,y⟩
 | some q=>
  obtain ⟨M,rfl⟩:∃ m,N=m+1:=⟨N-1,by omega⟩;have ⟨B,A,H,w⟩:=gA5 (N:=M+1) (p _ _ _ x) 0;rw [show ((0:Nat):Int)=0 from rfl] at A;simp only [iP];rw [A,aA];simp only [show ¬ 64<=0 by omega,xL,Option.isNone_some,xB] at w ⊢;exact ⟨_,B,rfl,f _ _ _ _ _ x H w⟩
end Qp
namespace Qp
def oD {h:Heap} {A j:Nat} {cs vs f:List AV} (x:h.own A cs) (p:over j cs vs=some f):h.store (A,j) vs=some (h.put A (.row f .own)):=by
 rw [Heap.store_g,x.1,dY,p];rfl
abbrev FdV:=Bool×zO3×Int×zO3×SL×SL×Unit
def fdc (x:FdV):List AV:=[.bool x.1,.str x.2.1,yI0 x.2.2.1,.str x.2.2.2.1,SL.av x.2.2.2.2.1,SL.av x.2.2.2.2.2.1]
abbrev fd0:FdV:=(false,[],0,[],sl0,sl0,())
def iU (m:Bool) (nm:Bs) (r:TyV):FdV:=(m,nm,r.1,r.2.1,r.2.2.1,r.2.2.2.1,())
def aBm {β:Type} (r:FdV) (K:FdV->Option β):iA (.val zP) (some (.agg (fdc r))) K=K r:=by
 have ⟨m,n,k,x,s1,s2,_⟩:=r;simp [fdc,SL.av]
theorem bAq {H:Heap} {A:Nat} {r:FdV} (o:H.own A (fdc r)) {β:Type} (K:FdV->Option β):iA (.val zP) (H.cells (A,0) 6) K=K r:=by
 have:H.cells (A,0) 6=some (.agg (fdc r)):=o.cells (j:=0) (m:=6) (xD _)
 rw [this,aBm]
theorem eAz {H:Heap} {A:Nat} {r0:FdV} (o:H.own A (fdc r0)) (r:FdV):H.store (A,0) (yRF r)=some (H.put A (.row (fdc r) .own)):=o.store rfl
def vBv {H:Heap} {A:Nat} {r0:FdV} (o:H.own A (fdc r0)) (r:FdV) {β:Type} (K:FdV->Heap->Option β) :
  (vA (H.store (A,0) (yRF r)) fun f=>iA (.val zP) (f.cells (A,0) 6) fun h=>K h f)=K r (H.put A (.row (fdc r) .own)):=by
 grind [eAz,fA,bAq,kB]
def fdD (m:Bool) (nm:Bs) (ty:D):D:=.t [.b m,.s nm,ty]
def aB9 (h:Heap) (V:Nat->Prop) (x:Bool):Dt h V (.b x) [.bool x]:=by grind [Dt]
def tAt (h:Heap) (V:Nat->Prop) (x:Int):Dt h V (.i x) [yI0 x]:=by grind [Dt]
def aA0 (h:Heap) (V:Nat->Prop):Dp h V [] []:=by grind [Dp]
def rC {h:Heap} {V:Nat->Prop} {d:D} {r:List D} {a b:List AV} (x:Dt h V d a) (y:Dp h V r b):Dp h V (d::r) (a++b):=by
 simp only [Dp];grind
def yB3 {h:Heap} {V:Nat->Prop} {ds:List D} {cs:List AV} (x:Dp h V ds cs):Dt h V (.t ds) cs:=by grind [Dt]
def aBd {h:Heap} {V:Nat->Prop} {m:Bool} {nm:Bs} {ty:D} {r:TyV} (x:Dt h V ty (tyc r)):Dt h V (fdD m nm ty) (fdc (iU m nm r)):=
 yB3 (rC (a:=[_]) (aB9 h V m) (rC (a:=[_]) (tK h V nm) (rC (a:=tyc r) (b:=[]) x (aA0 h V))))
def tG (T:List Tok) (σ:St):D×St:=
 let a:=kC T 1 σ
 let r:=nJ T 64 (eD T [58] a.2)
 (fdD false a.1 r.1,r.2)
section
variable {N:Nat} {T:List Tok} {P:Nat} {X:List Nat} {st:Int} {h:Heap} {σ:St}
def vAl (O:Toks T) (hN:100<=N) (x:PC T P X h σ st):∃ r h',f154 N (some (P,0)) h=some (r,h')/\PC T P X h' (tG T σ).2 st/\Chg [P] h h'/\Dt h' (fun C=>h.next<=C) (tG T σ).1 (fdc r)/\∃ nm t,r=iU false nm t/\(tG T σ).1=fdD false nm (nJ T 64 (eD T [58] (kC T 1 σ).2)).1/\Dt h' (fun C=>h.next<=C) (nJ T 64 (eD T [58] (kC T 1 σ).2)).1 (tyc t):=by
 unfold f154;have hP:=x.P_lt;have o1:=wA h (fdc fd0);have c1:=uA h (.row (fdc fd0) .own);have x1:=x.add c1 (A:=h.next) (xD _) (xP _);have e1:h.push (.row yZD .own)=h.push (.row (fdc fd0) .own):=rfl;rw [e1];have n1:(h.push (.row (fdc fd0) .own)).next=h.next+1:=rfl;generalize h.push (.row (fdc fd0) .own)=h1 at *;dsimp only;have ⟨f,e3,Z,x3⟩:=nW (N:=N) O x1 (k:=1) (by decide);rw [e3,aA];have o3:=o1.chg Z (by grind);have a3:=Z.next;have B:=wA f (fdc fd0);have L:=uA f (.row (fdc fd0) .own);have eA:f.push (.row yZD .own)=f.push (.row (fdc fd0) .own):=rfl;generalize M:(kC T 1 σ).1=nm at *;have J:(f.push (.row (fdc fd0) .own)).store (f.next,0) [(.bool false),(.str nm),(yI0 0),(.str []),yS0,yS0]=some ((f.push (.row (fdc fd0) .own)).put f.next (.row (fdc (iU false nm (0,[],sl0,sl0,()))) .own)):=B.store rfl;rw [eA,J,fA];have oA:=kB B (fdc (iU false nm (0,[],sl0,sl0,())));have K:Chg [] f ((f.push (.row (fdc fd0) .own)).put f.next (.row (fdc (iU false nm (0,[],sl0,sl0,()))) .own)):=L.put (.inr (xD _)) _;have nA:((f.push (.row (fdc fd0) .own)).put f.next (.row (fdc (iU false nm (0,[],sl0,sl0,()))) .own)).next=f.next+1:=rfl;have x5:=x3.add K (A:=f.next) (xD _) (xP _);have oR:=o3.chg K;generalize (f.push (.row (fdc fd0) .own)).put f.next (.row (fdc (iU false nm (0,[],sl0,sl0,()))) .own)=h5 at *;have ⟨h7,e7,c7,x7⟩:=aH (N:=N) O x5 (w:=[58]) (by decide);rw [e7,aA];have ⟨j,Y,e9,x9,c9,d9⟩:=yB8 (N:=N) O hN x7;rw [e9,aA];have y:=c7.trans c9;have u:=oA.chg y (by grind);have U:=oR.chg y (by grind);have V:Y.store (f.next,2) (yRE j)=some (Y.put f.next (.row (fdc (iU false nm j)) .own)):=oD u rfl
 try simp only [xC]
 rw [V,fA];have cB:=u.put (fdc (iU false nm j));have F:=kB u (fdc (iU false nm j));have p:=U.chg cB (by grind);have S:=x9.chg1 cB (by simp);have a0:=c7.next;have R:=d9.chg cB (fun C hC=>by grind);have a2:=c9.next;generalize Y.put f.next (.row (fdc (iU false nm j)) .own)=Q at *;rw [bAq F];have cR:=p.put (fdc (iU false nm j));have H:Chg [P] h Q:=by
  have a1:Chg [P] h h5:=((c1.mono (by simp)).trans Z).trans (K.mono (by simp));exact (a1.trans y).step cB (fun A hA hl=>by grind)
 have I:=(R.chg cR (fun C hC=>by grind)).weak (W:=fun C=>h.next<=C) (fun C hC _=>by omega);simp only [tG,M];exact ⟨iU false nm j,_,vBv p (iU false nm j) (fun x h=>some (x,h)),(S.chg1 cR (by simp)).sub (by grind),H.put (.inr (xD _)) _,aBd I,nm,j,rfl,rfl,I⟩
end
end Qp
namespace Qp
structure CF (P:Nat) (X:List Nat) (h0:Heap) (O Q n j:Nat) (row:SL->List AV):Prop where
 o:P<O/\O<h0.next
 q:Q≠P/\Q≠O/\Q<h0.next
 x:O∈X
 rj:∀ v,(row v)[j]? = some (SL.av v)
 rs:∀ v v',(row v).set j (SL.av v')=row v'
structure CI (T:List Tok) (P:Nat) (X:List Nat) (st:Int) (h0:Heap) (O Q n:Nat) (row:SL->List AV) (h:Heap) (xs:List D) (σ:St):Prop where
 pc:PC T P X h σ st
 chg:Chg [P,O] h0 h
 q:h.own Q [.ptr (some (P,0))]
 ex:∃ v,h.own O (row v)/\Ow h0.next h v n xs
section
variable {T:List Tok} {P:Nat} {X:List Nat} {st:Int} {h0 h h' h6:Heap} {O Q n j:Nat} {row:SL->List AV} {xs:List D} {σ σ':St}
def CI.step (f:CF P X h0 O Q n j row) (x:CI T P X st h0 O Q n row h xs σ) (c:Chg [P] h h') (y:PC T P X h' σ' st):CI T P X st h0 O Q n row h' xs σ':=by
 have ⟨v,o1,p⟩:=x.ex
 have:=f.o;have:=f.q
 exact ⟨y,x.chg.trans (c.mono (by simp)),x.q.chg c (by grind),v,o1.chg c (by grind),p.chg c (by grind)⟩
def CI.open {i:Nat} (f:CF P X h0 O Q n j row) (x:CI T P X st h0 O Q n row h xs (i,none)):∃ v,h.own O (row v)/\Ow h0.next h v n xs/\PC T P (v.blk.toList++X) h (i,none) st/\h.cell (O,j)=some (yL v)/\h.cell (Q,0)=some (.ptr (some (P,0))):=by
 have ⟨v,o1,r⟩:=x.ex
 have:=f.o
 refine ⟨v,o1,r,x.pc.free fun A p=>?_,by rw [o1.cell j,f.rj v];rfl,x.q.cell 0⟩;rcases List.mem_append.1 p with p | p
 ·have:=r.ge A (by grind);omega
 ·exact x.pc.pa.xl A p
def CI.close {i:Nat} (f:CF P X h0 O Q n j row) (x:CI T P X st h0 O Q n row h xs (i,none)) {v:SL} (o1:h.own O (row v)) (S:Ow h0.next h v n xs) {t e:TypeId} {W:Nat} (ha:AppN E t e n W) (Z:0<n) (hW:W<=10000000) (hl:xs.length<=64) (c:Chg [P] h h6) (y:PC T P (v.blk.toList++X) h6 σ' st) {d:D} {cs:List AV} (hd:Dt h6 (fun C=>h.next<=C) d cs) (J:cs.length=n) :
  ∃ u,(∀ {β:Type} (K:Heap->Option β),(tD (.val zJ3) (nB E t t (yL v) (.slice (some (h6.next,0)) 1 1 n) (h6.push (.row cs .own))) fun (w:SL) h9=>vA (h9.store (O,j) [.slice w.a w.len w.cap w.sz]) K)=K u)/\CI T P X st h0 O Q n row u (xs++[d]) σ'/\h6.cell (O,j)=some (yL v)/\(h6.push (.row cs .own)).cell (O,j)=some (yL v):=by
 have R:=f.o;have hQ:=f.q;have V:∀ A,v.blk=some A->h0.next<=A/\A<h.next:=S.ge;have r:Chg [P,O] h0 h6:=x.chg.trans (c.mono (by simp));have B:h6.own O (row v):=o1.chg c (by grind);have Y:Ow h0.next h6 v n xs:=S.chg c (by grind);have a0:=x.chg.next;have I:Dt h6 (fun C=>h0.next<=C/\v.blk≠some C) d cs:=hd.weak fun C hC _=>⟨by omega,fun e=>by grind⟩;have F:(xs.length+1) * W<=1073741824:=by
  have:(xs.length+1) * W<=65 * 10000000:=Nat.mul_le_mul (by omega) hW
  omega
 have ⟨M,u,e',U,w',H⟩:=dAz ha Z r B (f.rj v) Y R.2 I J F;have hM:∀ A∈O::v.blk.toList,P<A/\A∈v.blk.toList++X:=fun A p=>by
  rcases List.mem_cons.1 p with rfl | p
  ·exact ⟨R.1,xg _ f.x⟩
  grind
 have y':=y.chgM H fun A p=>(hM A p).2;refine ⟨u,e',⟨y'.sub fun A p=>xg _ p,r.step H fun A p L=>?_,(x.q.chg c (by grind)).chg H fun hm=>?_,M,by rw [<- f.rs v M];exact U,w'⟩,by rw [B.cell j,f.rj v];rfl,by rw [(B.chg (uA h6 _)).cell j,f.rj v];rfl⟩
 ·grind
 grind
end
abbrev StV:=Bool×zO3×SL×SL×Int×Unit
def stc (x:StV):List AV:=[.bool x.1,.str x.2.1,SL.av x.2.2.1,SL.av x.2.2.2.1,yI0 x.2.2.2.2.1]
abbrev st0:StV:=(false,[],sl0,sl0,0,())
def bBm {β:Type} (r:StV) (K:StV->Option β):iA (.val zJ) (some (.agg (stc r))) K=K r:=by
 have ⟨m,n,s1,s2,k,_⟩:=r;simp [stc,SL.av]
theorem qAh {H:Heap} {A:Nat} {r:StV} (o:H.own A (stc r)) {β:Type} (K:StV->Option β):iA (.val zJ) (H.cells (A,0) 5) K=K r:=by
 have:H.cells (A,0) 5=some (.agg (stc r)):=o.cells (j:=0) (m:=5) (xD _)
 rw [this,bBm]
def lBv {H:Heap} {A:Nat} {r0:StV} (o:H.own A (stc r0)) (r:StV) {β:Type} (K:StV->Heap->Option β) :
  (vA (H.store (A,0) (yRG r)) fun f=>iA (.val zJ) (f.cells (A,0) 5) fun h=>K h f)=K r (H.put A (.row (stc r) .own)):=by
 have:H.store (A,0) (yRG r)=some (H.put A (.row (stc r) .own)):=o.store rfl
 grind [fA,qAh,kB]
def bV (pub:Bool) (nm:Bs) (lv:List Bs) (f:List D) (at_:Int):D:=.t [.b pub,.s nm,.l (lv.map D.s),.l f,.i at_]
def iAc {h:Heap} {V:Nat->Prop} {pub:Bool} {nm:Bs} {lv:List Bs} {f:List D} {at_:Int} {s1 s2:SL} (x:Sl h V s1 (lv.map D.s)) (y:Sl h V s2 f):Dt h V (bV pub nm lv f at_) (stc (pub,nm,s1,s2,at_,())):=
 yB3 (rC (a:=[_]) (aB9 h V pub) (rC (a:=[_]) (tK h V nm) (rC (a:=[_]) (kN.2 x) (rC (a:=[_]) (kN.2 y) (rC (a:=[_]) (b:=[]) (tAt h V at_) (aA0 h V))))))
def dG (T:List Tok) (pub:Bool) (at_:Int) (σ:St):D×St:=
 let a:=kC T 1 σ
 let l:=tI T a.2
 let b:=uB T [125] (eD T [123] l.2)
 if b.1=true then (bV pub a.1 l.1 [] at_,b.2)
 else let f:=qD T (tG T) [44] b.2;(bV pub a.1 l.1 f.1 at_,eD T [125] f.2)
def bBd:AppN E 37 140 6 1000:=AppN.of (by kernel_rfl)
section
variable {N:Nat} {T:List Tok} {P:Nat} {X:List Nat} {st:Int} {h:Heap} {σ:St}
def iT (P:zH3) (sep:Bs) (O Q:zH3):∀ (M:Nat) (n:Int) (h:Heap),qN N M P sep (O,Q,()) n h=iP N P sep (fun h=>f153 N O Q h) M n h
 | 0,n,h=>rfl
 | M+1,n,h=>by
  rw [vA0];unfold pN;simp only [iP];simp only [iT P sep O Q M]
def cBd (w:Toks T) (F:100<=N) {h0:Heap} {O Q:Nat} {row:SL->List AV} (f:CF P X h0 O Q 6 3 row) {xs:List D} {i:Nat} (x:CI T P X st h0 O Q 6 row h xs (i,none)) (J:xs.length<=64):∃ h',f153 N (some (O,0)) (some (Q,0)) h=some ((),h')/\CI T P X st h0 O Q 6 row h' (xs++[(tG T (i,none)).1]) (tG T (i,none)).2:=by
 unfold f153;have ⟨v,o1,B,y,S,p⟩:=x.open f;have ⟨r,L,I,C,M,H,_⟩:=vAl (N:=N) w F y;have ⟨A,K,ci,R,u⟩:=x.close f o1 B bBd (by decide) (by decide) J M C H rfl;simp only [fA,xC,S,p,dA,qA,dC];rw [I,aA];have j:(L.push (.row (yRF r) .own)).cell (O,3)=some (yL v):=u;simp only [mF,p,j,R,jC,xA,yB];exact ⟨A,K _,ci⟩
def wAl (j:Toks T) (p:100<=N) {h0:Heap} {O Q:Nat} {row:SL->List AV} (f:CF P X h0 O Q 6 3 row) (x:CI T P X st h0 O Q 6 row h0 [] σ):∃ h',bA2 N (some (P,0)) [44] ((some (O,0)),(some (Q,0)),()) h0=some ((),h')/\CI T P X st h0 O Q 6 row h' (qD T (tG T) [44] σ).1 (qD T (tG T) [44] σ).2:=by
 unfold bA2;have ⟨o,h',e,y⟩:=bS (N:=N) j p (F:=fun h=>f153 N (some (O,0)) (some (Q,0)) h) (one:=tG T) (Inv:=CI T P X st h0 O Q 6 row) (fun h xs σ c=>c.pc) (fun h h' xs σ r c d z=>c.step f d z) (fun h xs i c u=>cBd j p f c u) (sep:=[44]) (by decide) x;simp only [iT];rw [e];simp only [mB];cases vD o (.exit 0) <;> exact ⟨h',rfl,y⟩
def dBd (W:Toks T) (hN:100<=N) (x:PC T P X h σ st) (pub:Bool) (at_:Int):∃ r h',f102 N (some (P,0)) pub at_ h=some (r,h')/\PC T P X h' (dG T pub at_ σ).2 st/\Chg [P] h h'/\Dt h' (fun C=>h.next<=C) (dG T pub at_ σ).1 (stc r):=by
 unfold f102;have hP:=x.P_lt;have oQ:=wA h [AV.ptr (some (P,0))];have cQ:=uA h (.row [AV.ptr (some (P,0))] .own);have nQ:(h.push (.row [AV.ptr (some (P,0))] .own)).next=h.next+1:=rfl;dsimp only;generalize h.push (.row [AV.ptr (some (P,0))] .own)=K at *;have oR:=wA K (stc st0);have cR:=uA K (.row (stc st0) .own);have eR:K.push (.row yZF .own)=K.push (.row (stc st0) .own):=rfl;have nR:(K.push (.row (stc st0) .own)).next=K.next+1:=rfl;have x2:=(x.chg cQ).add cR (A:=K.next) (xD _) (xP _);rw [eR];generalize K.push (.row (stc st0) .own)=h2 at *;have a8:=oQ.chg cR;have e9:=cQ.trans cR;have r2:h2.cell (h.next,0)=some (.ptr (some (P,0))):=a8.cell 0;simp only [r2,dA,dC];have ⟨j,e5,c5,x5⟩:=nW (N:=N) W x2 (k:=1) (by decide);rw [e5,aA];have b9:=a8.chg c5 (by grind);have c9:=oR.chg c5 (by grind);have f4:=c5.next;generalize e7:(kC T 1 σ).1=nm at *;have b4:=wA j (stc st0);have d6:=uA j (.row (stc st0) .own);have eO:j.push (.row yZF .own)=j.push (.row (stc st0) .own):=rfl;have b2:(j.push (.row (stc st0) .own)).store (j.next,0) [(.bool pub),(.str nm),yS0,yS0,(yI0 at_)]=some ((j.push (.row (stc st0) .own)).put j.next (.row (stc (pub,nm,sl0,sl0,at_,())) .own)):=b4.store rfl;rw [eO,b2,fA];have oO:=kB b4 (stc (pub,nm,sl0,sl0,at_,()));have cO:Chg [] j ((j.push (.row (stc st0) .own)).put j.next (.row (stc (pub,nm,sl0,sl0,at_,())) .own)):=d6.put (.inr (xD _)) _;have nO:((j.push (.row (stc st0) .own)).put j.next (.row (stc (pub,nm,sl0,sl0,at_,())) .own)).next=j.next+1:=rfl;have x7:=x5.add cO (A:=j.next) (xD _) (xP _);have Z:=b9.chg cO;have c3:=c9.chg cO;generalize (j.push (.row (stc st0) .own)).put j.next (.row (stc (pub,nm,sl0,sl0,at_,())) .own)=h7 at *;have r7:h7.cell (h.next,0)=some (.ptr (some (P,0))):=Z.cell 0;simp only [r7,dA,dC];have ⟨u,y,e2,c8,H,a7⟩:=yBl (N:=N) W hN x7;rw [e2,aA];have Y:=Z.chg H (by grind);have a0:=c3.chg H (by grind);have F:=oO.chg H (by grind);have f3:=H.next;have d0:y.store (j.next,2) [.slice u.a u.len u.cap u.sz]=some (y.put j.next (.row (stc (pub,nm,u,sl0,at_,())) .own)):=oD F rfl
 try simp only [xC]
 rw [d0,fA];have cS:=F.put (stc (pub,nm,u,sl0,at_,()));have a4:=kB F (stc (pub,nm,u,sl0,at_,()));have L:=Y.chg cS (by grind);have a2:=a0.chg cS (by grind);have c2:=c8.chg1 cS (by simp);have b5:=a7.chg cS (fun C J=>by grind);have f5:(y.put j.next (.row (stc (pub,nm,u,sl0,at_,())) .own)).next=y.next:=rfl;have a5:Chg [P] h (y.put j.next (.row (stc (pub,nm,u,sl0,at_,())) .own)):=by
  have a1:Chg [P] h h7:=((e9.mono (by simp)).trans c5).trans (cO.mono (by simp));exact (a1.trans H).step cS (fun A hA hl=>by grind)
 generalize y.put j.next (.row (stc (pub,nm,u,sl0,at_,())) .own)=c0 at *;have d9:c0.cell (h.next,0)=some (.ptr (some (P,0))):=L.cell 0;simp only [d9,dA,dC];have ⟨e1,d5,b7,d7⟩:=aH (N:=N) W c2 (w:=[123]) (by decide);rw [d5,aA];have Q:=L.chg b7 (by grind);have e3:e1.cell (h.next,0)=some (.ptr (some (P,0))):=Q.cell 0;simp only [e3,dA,dC];have ⟨b1,e6,b3,b6⟩:=qJ (N:=N) W d7 (w:=[125]) (by decide);rw [e6,aA];have p:=b7.trans b3;have U:=Q.chg b3 (by grind);have V:=a4.chg p (by grind);have I:=a2.chg p (by grind);have R:=b5.chg p (fun C J=>by grind);have f2:=p.next;have M:=a5.trans p;simp only [dG,e7]
 cases hb:(uB T [125] (eD T [123] (tI T (kC T 1 σ).2).2)).1 with
 | true=>
  simp only [xV,xB,xM];rw [qAh V];have S:=I.put (stc (pub,nm,u,sl0,at_,()));refine ⟨(pub,nm,u,sl0,at_,()),_,lBv I (pub,nm,u,sl0,at_,()) (fun x h=>some (x,h)),(b6.chg1 S (by simp)).sub (by grind),M.step S (fun A hA hl=>by grind),iAc ?_ (Sl.nil _ _ _)⟩;exact (R.chg S (fun C J=>by grind)).weak (fun C J _=>by omega)
 | false=>
  simp only [Bool.not_false,xA,xE,xL];have c4:b1.cell (h.next,0)=some (.ptr (some (P,0))):=U.cell 0;simp only [c4,dA,dC];have f:CF P (j.next::K.next::X) b1 j.next h.next 6 3 (fun v=>stc (pub,nm,u,v,at_,())):=⟨by omega,by omega,by simp,fun v=>rfl,fun v v'=>rfl⟩;have ⟨e8,b8,ci⟩:=wAl (N:=N) W hN f ⟨b6,Chg.refl _ _,U,sl0,V,Ow.nil _ _ _ _⟩;rw [b8,aA];have ⟨v,a6,d4⟩:=ci.ex;have d3:e8.cell (h.next,0)=some (.ptr (some (P,0))):=ci.q.cell 0;simp only [d3,dA,dC];have ⟨d8,c7,B,c6⟩:=aH (N:=N) W ci.pc (w:=[125]) (by decide);rw [c7,aA];have f1:=ci.chg.next;have f0:=B.next;have a9:=a6.chg B (by grind);have e4:=d4.chg B (by grind);have O:=(I.chg ci.chg (by grind)).chg B (by grind);have a3:=(R.chg ci.chg (fun C J=>by grind)).chg B (fun C J=>by grind);rw [qAh a9];have S:=O.put (stc (pub,nm,u,v,at_,()));have b0:Chg [P] h d8:=(M.step ci.chg (fun A hA hl=>by
   grind)).trans B
  refine ⟨(pub,nm,u,v,at_,()),_,lBv O (pub,nm,u,v,at_,()) (fun x h=>some (x,h)),(c6.chg1 S (by simp)).sub (by grind),b0.step S (fun A hA hl=>by grind),iAc ?_ ?_⟩
  ·exact (a3.chg S (fun C J=>by grind)).weak (fun C J _=>by omega)
  ·exact (e4.sl.chg S (fun C J=>by grind)).weak (fun C J _=>by omega)
end
end Qp
end Go.Proofs.YtkcjphhjmlienaaGreatDoor
