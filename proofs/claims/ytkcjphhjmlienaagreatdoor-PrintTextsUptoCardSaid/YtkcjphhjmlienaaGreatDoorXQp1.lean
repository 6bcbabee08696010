import Derived.Test.YtkcjphhjmlienaaGreatDoorProg
import Derived.WalkKit
import Derived.LaidEql
import Derived.Stop.Asserts
import Derived.RowKitTokens
import Derived.Test.YtkcjphhjmlienaaGreatDoorAi2
import Derived.Laws.Externs
import Derived.Deep.RegionWith
import Derived.Test.YtkcjphhjmlienaaGreatDoorRows
import Derived.Shelf.Strings.Cut
import Derived.WalkSmall
import Derived.Shelf.Strings.OnBuilder
import Derived.Shelf.LaysM
import Derived.Shelf.Strconv.Itoa3
import Derived.Shelf.Strings.Repeat
import Derived.Lib.AppendIntMem
/- Functions of the program as plain functions, and what they come to; part 1. -/
namespace Go.Proofs.YtkcjphhjmlienaaGreatDoor
set_option linter.unusedVariables false
set_option linter.unusedSimpArgs false
open Go Go.Proofs
namespace Qa
open Go.RowKit Go.Extern.Stop Go.Stop Go.Extern
end Qa
open Go Ai Go.Proofs
open Go.RowKit (Below)
namespace Qa
def hdl:AV:=.iface 232 (.agg [.ptr (some (1,0))])
def nB1:Ai.Loc:=⟨1,0,1,false⟩
def oB1:Ai.Loc:=⟨7,29,30,false⟩
def gAw (a b:Ai.Loc):Bool:=Nat.beq a.b b.b&&Nat.beq a.sh b.sh&&Nat.beq a.tot b.tot&&(bif a.ex then b.ex else !b.ex)
def iA2 (A:Nat) (l:Ai.Loc):List (Nat×Ai.Loc)->Bool
 | []=>false
 | x::r=>(Nat.beq x.1 A&&gAw x.2 l)||iA2 A l r
def rAq (b:Option Blk) (cs:List AV):Bool:=match b with
 | some (.row cs' .ro)=>eqV (.agg cs') (.agg cs)
 | _=>false
theorem tAq {a b:Ai.Loc} (h:gAw a b=true):a=b:=by
 obtain ⟨a1,a2,a3,a4⟩:=a;obtain ⟨b1,b2,b3,b4⟩:=b;simp only [gAw,Bool.and_eq_true] at h;obtain ⟨⟨⟨h1,h2⟩,h3⟩,h4⟩:=h;obtain rfl:=Nat.eq_of_beq_eq_true h1;obtain rfl:=Nat.eq_of_beq_eq_true h2;obtain rfl:=Nat.eq_of_beq_eq_true h3
 have:a4=b4:=by cases a4 <;> cases b4 <;> simp_all
 rw [this]
theorem oA7 {A:Nat} {l:Ai.Loc}:∀ {p:List (Nat×Ai.Loc)},iA2 A l p=true->(A,l)∈p
 | [],h=>by cases h
 | x::r,h=>by
  simp only [iA2,Bool.or_eq_true,Bool.and_eq_true] at h;rcases h with ⟨h1,h2⟩ | h
  ·have e1:=Nat.eq_of_beq_eq_true h1
   have e2:=tAq h2;obtain ⟨x1,x2⟩:=x;simp only at e1 e2;rw [e1,e2];exact List.mem_cons_self
  ·exact List.mem_cons_of_mem _ (oA7 h)
def rB8 (h:Heap) (A:Nat):Option (List AV×BState):=match h.t.get A with
 | some (.row cs st)=>match st with
  | .own=>some (cs,st)
  | .grown=>some (cs,st)
  | _=>none
 | _=>none
def asN:List AV->Heap->Option (AV×Heap)
 | [.iface t (.ptr (some p)),.iface t' (.ptr (some (A,off)))],h=>
  bif Nat.beq t 127&&Nat.beq t' 214&&iA2 0 nB1 h.pins&&iA2 1 oB1 h.pins&&rAq (h.t.get 0) [hdl] then
   match rB8 h A with
   | some (cs,st)=>match over off cs [.ptr (some p)] with
    | some cs'=>some (.bool true,h.put A (.row cs' st))
    | none=>none
   | none=>none
  else none
 | _,_=>none
theorem vB7:EnvOK (rAv Tryz.prog [] aAf) Tryz.prog:=yAe (by kernel_rfl) (by kernel_rfl)
def kBc (c:UInt8):List UInt8->Nat->Int
 | [],_=>-1
 | x::r,k=>bif Nat.beq x.toNat c.toNat then .ofNat k else kBc c r (k+1)
def kBd:List AV->Heap->Option (AV×Heap)
 | [.str s,.int .u8 c],h=>some (.int .i64 (kBc c.toNat.toUInt8 s 0),h)
 | _,_=>none
def nat:FuncId->Option (List AV->Heap->Option (AV×Heap)):=fun f=>bif Nat.beq f 192 then some asN else bif Nat.beq f 206 then some kBd else none
end Qa
set_option maxRecDepth 100000
namespace Qx
open Qa
theorem lBc:Tryz.prog.follows .mixedOrders=true:=by kernel_rfl
def h0:Heap:={ t:=Tr.set .nil 0 (.row [hdl] .ro),next:=2,pins:=[(0,nB1),(1,oB1)] }
def mu0:Mu:=fun A=>if A=0 then some nB1 else if A=1 then some oB1 else none
theorem mu0_inv {A:Nat} {l:Ai.Loc} (h:mu0 A=some l):(A=0/\l=nB1)\/(A=1/\l=oB1):=by
 unfold mu0 at h
 split at h
 ·cases h;exact .inl ⟨by assumption,rfl⟩
 ·split at h
  ·cases h;exact .inr ⟨by assumption,rfl⟩
  ·cases h
theorem oW {A:Nat} {b:Blk} (h:h0.t.get A=some b):A=0/\b=.row [hdl] .ro:=by
 rcases Tr.get_set h with h | ⟨_,h⟩
 ·exact h
 ·simp [Tr.get_nil] at h
theorem h0_rof:Rof h0:=by
 refine ⟨fun A b hA=>?_,fun A hA=>?_⟩
 ·obtain ⟨_,rfl⟩:=oW hA;exact ⟨_,rfl⟩
 ·cases hb:h0.t.get A with
  | none=>rfl
  | some b=>
   have:=(oW hb).1
   have h1:(2:Nat)<=A:=hA;omega
def pinned (h:Heap):Bool:=iA2 0 nB1 h.pins&&iA2 1 oB1 h.pins&&rAq (h.t.get 0) [hdl]
end Qx
namespace Qp
abbrev yL (s:SL):AV:=.slice s.a s.len s.cap s.sz
noncomputable section
abbrev zA:VTy:=.agg [(.int .i64),(.int .i64),.bool,.str,(.int .i64),.str,.slice,.slice,.bool,.str,.slice,(.int .i64),(.int .i64),(.int .i64),.str,.slice,(.int .i64),(.int .i64),.str,.slice,(.int .i64),.str,.slice,.str,.slice,.slice,(.int .i64),(.int .i64),.str,.slice,.slice,.slice]
abbrev zC:VTy:=.agg [(.int .i64),(.int .i64),(.int .i64),.str,.slice,(.int .i64),(.int .i64),.str,.slice,(.int .i64),.str,.slice,.str,.slice,.slice]
abbrev zD:VTy:=.agg [(.int .i64),(.int .i64),.str,.slice]
abbrev zE:VTy:=.agg [(.int .i64),.str,.slice,.slice]
abbrev zG:VTy:=.agg [.str,.slice]
abbrev zH:VTy:=.agg [.bool,.str,.slice,.slice,(.int .i64),.str,.slice,.slice,.slice,(.int .i64)]
abbrev zJ:VTy:=.agg [.slice,.slice]
abbrev zK:VTy:=.agg [.bool,.str,.slice,.slice,(.int .i64)]
abbrev zM:VTy:=.agg [.bool,.str,(.int .i64),.str,.slice,.slice]
abbrev zP:Type:=Int×Int×Bool×List UInt8×Int×List UInt8×SL×SL×Bool×List UInt8×SL×Int×Int×Int×List UInt8×SL×Int×Int×List UInt8×SL×Int×List UInt8×SL×List UInt8×SL×SL×Int×Int×List UInt8×SL×SL×SL×Unit
abbrev zQ:Type:=Int×Int×Int×List UInt8×SL×Int×Int×List UInt8×SL×Int×List UInt8×SL×List UInt8×SL×SL×Unit
abbrev zR:Type:=Int×List UInt8×SL×SL×Unit
abbrev zU:Type:=Option (Nat×Nat)×Bool×Option (Nat×Nat)×Unit
abbrev zW:Type:=SL×Int×Bool×Int×Option (Nat×Nat)×Option (Nat×Nat)×Bool×Bool×Bool×Unit
abbrev zX:Type:=Int×Int×List UInt8×SL×Unit
abbrev zY:Type:=Option (Nat×Nat)×Bool×Unit
abbrev zZ:Type:=Option (Nat×Nat)×Option (Nat×Nat)×Unit
abbrev zA1:Type:=Option (Nat×Nat)×List UInt8×Unit
abbrev zB1:Type:=List UInt8×SL×Unit
abbrev zC1:Type:=Bool×Unit
abbrev zD1:Type:=SL×Int×Bool×Int×Option (Nat×Nat)×Option (Nat×Nat)×Bool×Bool×Bool×Int×Bool×Unit
abbrev zE1:Type:=Bool×List UInt8×SL×SL×Int×List UInt8×SL×SL×SL×Int×Unit
abbrev zF1:Type:=Int×Option (Nat×Nat)×Bool×Option (Nat×Nat)×Unit
abbrev zG1:Type:=Option (Nat×Nat)×Option (Nat×Nat)×Bool×Unit
abbrev zH1:Type:=List UInt8×Unit
abbrev zI1:Type:=Bool×Option (Nat×Nat)×Unit
abbrev zJ1:Type:=Int×Option (Nat×Nat)×Int×Bool×Unit
abbrev zK1:Type:=SL×Int×Bool×Int×Option (Nat×Nat)×Option (Nat×Nat)×Bool×Bool×Bool×Bool×Unit
abbrev zL1:Type:=Option (Nat×Nat)×List UInt8×Int×Unit
abbrev zM1:Type:=Option (Nat×Nat)×Option (Nat×Nat)×Int×Bool×Unit
abbrev zN1:Type:=Int×Unit
abbrev zO1:Type:=SL×SL×Unit
abbrev zP1:Type:=SL×Bool×Unit
abbrev zQ1:Type:=Option (Nat×Nat)×Bool×List UInt8×AV×List UInt8×Unit
abbrev zR1:Type:=Option (Nat×Nat)×SL×Unit
abbrev zS1:Type:=Option (Nat×Nat)×Bool×Option (Nat×Nat)×Int×Unit
abbrev zT1:Type:=Bool×List UInt8×SL×SL×Int×Unit
abbrev zU1:Type:=Option (Nat×Nat)×List UInt8×Int×Int×Unit
abbrev zV1:Type:=Option (Nat×Nat)×List UInt8×Bool×Unit
abbrev zW1:Type:=Bool×List UInt8×AV×List UInt8×Unit
abbrev zX1:Type:=SL×List UInt8×Int×Unit
abbrev zY1:Type:=Int×Option (Nat×Nat)×Bool×Unit
abbrev zZ1:Type:=List UInt8×AV×Unit
abbrev zA2:Type:=Option (Nat×Nat)×Bool×Option (Nat×Nat)×SL×Int×Int×Unit
abbrev zB2:Type:=SL×Int×Bool×Int×Unit
abbrev zC2:Type:=Option (Nat×Nat)×Int×Unit
abbrev zD2:Type:=Option (Nat×Nat)×Unit
abbrev zE2:Type:=List UInt8×Bool×Unit
abbrev zF2:Type:=Bool×List UInt8×Int×List UInt8×SL×SL×Unit
abbrev zG2:Type:=Int×Int×Unit
abbrev zH2:Type:=Int×List UInt8×Unit
abbrev zI2:Type:=List UInt8×List UInt8×Bool×Unit
abbrev zJ2:Type:=Option (Nat×Nat)
abbrev zK2:VTy:=.one .ptr
abbrev zL2:VTy:=.one .slice
abbrev zM2:VTy:=.one .str
abbrev zN2:VTy:=.one .bool
abbrev zO2:VTy:=.one (.int .i64)
abbrev zP2:VTy:=.one .any
abbrev zQ2:Type:=List UInt8
noncomputable def E:Env:=rAv Tryz.prog [1000085] aAf
theorem tB8:EnvOK E Tryz.prog:=yAe (by kernel_rfl) (by kernel_rfl)
theorem lBc:Tryz.prog.follows .mixedOrders=true:=by kernel_rfl
abbrev yRA {β:Type} (v:Int×Int×Bool×List UInt8×Int×List UInt8×SL×SL×Bool×List UInt8×SL×Int×Int×Int×List UInt8×SL×Int×Int×List UInt8×SL×Int×List UInt8×SL×List UInt8×SL×SL×Int×Int×List UInt8×SL×SL×SL×β):List AV:=[(.int .i64 v.1),(.int .i64 v.2.1),(.bool v.2.2.1),(.str v.2.2.2.1),(.int .i64 v.2.2.2.2.1),(.str v.2.2.2.2.2.1),(yL v.2.2.2.2.2.2.1),(yL v.2.2.2.2.2.2.2.1),(.bool v.2.2.2.2.2.2.2.2.1),(.str v.2.2.2.2.2.2.2.2.2.1),(yL v.2.2.2.2.2.2.2.2.2.2.1),(.int .i64 v.2.2.2.2.2.2.2.2.2.2.2.1),(.int .i64 v.2.2.2.2.2.2.2.2.2.2.2.2.1),(.int .i64 v.2.2.2.2.2.2.2.2.2.2.2.2.2.1),(.str v.2.2.2.2.2.2.2.2.2.2.2.2.2.2.1),(yL v.2.2.2.2.2.2.2.2.2.2.2.2.2.2.2.1),(.int .i64 v.2.2.2.2.2.2.2.2.2.2.2.2.2.2.2.2.1),(.int .i64 v.2.2.2.2.2.2.2.2.2.2.2.2.2.2.2.2.2.1),(.str v.2.2.2.2.2.2.2.2.2.2.2.2.2.2.2.2.2.2.1),(yL v.2.2.2.2.2.2.2.2.2.2.2.2.2.2.2.2.2.2.2.1),(.int .i64 v.2.2.2.2.2.2.2.2.2.2.2.2.2.2.2.2.2.2.2.2.1),(.str v.2.2.2.2.2.2.2.2.2.2.2.2.2.2.2.2.2.2.2.2.2.1),(yL v.2.2.2.2.2.2.2.2.2.2.2.2.2.2.2.2.2.2.2.2.2.2.1),(.str v.2.2.2.2.2.2.2.2.2.2.2.2.2.2.2.2.2.2.2.2.2.2.2.1),(yL v.2.2.2.2.2.2.2.2.2.2.2.2.2.2.2.2.2.2.2.2.2.2.2.2.1),(yL v.2.2.2.2.2.2.2.2.2.2.2.2.2.2.2.2.2.2.2.2.2.2.2.2.2.1),(.int .i64 v.2.2.2.2.2.2.2.2.2.2.2.2.2.2.2.2.2.2.2.2.2.2.2.2.2.2.1),(.int .i64 v.2.2.2.2.2.2.2.2.2.2.2.2.2.2.2.2.2.2.2.2.2.2.2.2.2.2.2.1),(.str v.2.2.2.2.2.2.2.2.2.2.2.2.2.2.2.2.2.2.2.2.2.2.2.2.2.2.2.2.1),(yL v.2.2.2.2.2.2.2.2.2.2.2.2.2.2.2.2.2.2.2.2.2.2.2.2.2.2.2.2.2.1),(yL v.2.2.2.2.2.2.2.2.2.2.2.2.2.2.2.2.2.2.2.2.2.2.2.2.2.2.2.2.2.2.1),(yL v.2.2.2.2.2.2.2.2.2.2.2.2.2.2.2.2.2.2.2.2.2.2.2.2.2.2.2.2.2.2.2.1)]
abbrev yRB {β:Type} (v:Int×Int×Int×List UInt8×SL×Int×Int×List UInt8×SL×Int×List UInt8×SL×List UInt8×SL×SL×β):List AV:=[(.int .i64 v.1),(.int .i64 v.2.1),(.int .i64 v.2.2.1),(.str v.2.2.2.1),(yL v.2.2.2.2.1),(.int .i64 v.2.2.2.2.2.1),(.int .i64 v.2.2.2.2.2.2.1),(.str v.2.2.2.2.2.2.2.1),(yL v.2.2.2.2.2.2.2.2.1),(.int .i64 v.2.2.2.2.2.2.2.2.2.1),(.str v.2.2.2.2.2.2.2.2.2.2.1),(yL v.2.2.2.2.2.2.2.2.2.2.2.1),(.str v.2.2.2.2.2.2.2.2.2.2.2.2.1),(yL v.2.2.2.2.2.2.2.2.2.2.2.2.2.1),(yL v.2.2.2.2.2.2.2.2.2.2.2.2.2.2.1)]
abbrev yRC {β:Type} (v:Int×Int×List UInt8×SL×β):List AV:=[(.int .i64 v.1),(.int .i64 v.2.1),(.str v.2.2.1),(yL v.2.2.2.1)]
abbrev yRD {β:Type} (v:Bool×List UInt8×SL×SL×Int×List UInt8×SL×SL×SL×Int×β):List AV:=[(.bool v.1),(.str v.2.1),(yL v.2.2.1),(yL v.2.2.2.1),(.int .i64 v.2.2.2.2.1),(.str v.2.2.2.2.2.1),(yL v.2.2.2.2.2.2.1),(yL v.2.2.2.2.2.2.2.1),(yL v.2.2.2.2.2.2.2.2.1),(.int .i64 v.2.2.2.2.2.2.2.2.2.1)]
abbrev yRE {β:Type} (v:Int×List UInt8×SL×SL×β):List AV:=[(.int .i64 v.1),(.str v.2.1),(yL v.2.2.1),(yL v.2.2.2.1)]
abbrev yRF {β:Type} (v:List UInt8×SL×β):List AV:=[(.str v.1),(yL v.2.1)]
abbrev yRG {β:Type} (v:Bool×List UInt8×SL×SL×Int×β):List AV:=[(.bool v.1),(.str v.2.1),(yL v.2.2.1),(yL v.2.2.2.1),(.int .i64 v.2.2.2.2.1)]
abbrev yRH {β:Type} (v:SL×SL×β):List AV:=[(yL v.1),(yL v.2.1)]
abbrev yRI {β:Type} (v:Bool×List UInt8×Int×List UInt8×SL×SL×β):List AV:=[(.bool v.1),(.str v.2.1),(.int .i64 v.2.2.1),(.str v.2.2.2.1),(yL v.2.2.2.2.1),(yL v.2.2.2.2.2.1)]
abbrev yZA:List AV:=[(.int .i64 0),(.int .i64 0),(.bool false),(.str []),(.int .i64 0),(.str []),(.slice none 0 0 0),(.slice none 0 0 0),(.bool false),(.str []),(.slice none 0 0 0),(.int .i64 0),(.int .i64 0),(.int .i64 0),(.str []),(.slice none 0 0 0),(.int .i64 0),(.int .i64 0),(.str []),(.slice none 0 0 0),(.int .i64 0),(.str []),(.slice none 0 0 0),(.str []),(.slice none 0 0 0),(.slice none 0 0 0),(.int .i64 0),(.int .i64 0),(.str []),(.slice none 0 0 0),(.slice none 0 0 0),(.slice none 0 0 0)]
abbrev yZB:List AV:=[(.int .i64 0),(.int .i64 0),(.int .i64 0),(.str []),(.slice none 0 0 0),(.int .i64 0),(.int .i64 0),(.str []),(.slice none 0 0 0),(.int .i64 0),(.str []),(.slice none 0 0 0),(.str []),(.slice none 0 0 0),(.slice none 0 0 0)]
abbrev yZC:List AV:=[(.int .i64 0),(.int .i64 0),(.str []),(.slice none 0 0 0)]
abbrev yZD:List AV:=[(.bool false),(.str []),(.slice none 0 0 0),(.slice none 0 0 0),(.int .i64 0),(.str []),(.slice none 0 0 0),(.slice none 0 0 0),(.slice none 0 0 0),(.int .i64 0)]
abbrev yZE:List AV:=[(.bool false),(.str []),(.slice none 0 0 0),(.slice none 0 0 0),(.int .i64 0)]
abbrev yZF:List AV:=[(.int .i64 0),(.str []),(.slice none 0 0 0),(.slice none 0 0 0)]
abbrev yZG:List AV:=[(.str []),(.slice none 0 0 0)]
abbrev yZH:List AV:=[(.bool false),(.str []),(.int .i64 0),(.str []),(.slice none 0 0 0),(.slice none 0 0 0)]
abbrev yZI:List AV:=[(.slice none 0 0 0)]
abbrev yZJ:List AV:=[(.int .i64 0)]
abbrev yZK:List AV:=[(.bool false)]
theorem cD {C:CallK} (hC:CallKOK Tryz.prog C) (N:Nat) (x:Ann) (fn:Func) {f:FuncId} {l:List VTy} {t:Ty} {F:nF l->Heap->Option (t.den×Heap)} (h1:E.fn f=some fn:=by kernel_rfl) (h2:fn.body=some (fn.body.getD .skip):=by kernel_rfl) (h3:Nat.ble fn.ntmps 1073741824=true:=by kernel_rfl) (h4:Nat.beq fn.results.size fn.resultTypes.size=true:=by kernel_rfl) (h5:∀ xs h,F xs h=runK E C N x fn (fn.body.getD .skip) t (VTy.tos l xs) h:=by intro _ _;kernel_rfl):jC Tryz.prog f l t F:=dAw tB8 lBc hC h1 h2 h3 h4 h5
noncomputable def f37 (N:Nat) (a0 a1:Int) (h:Heap):Option (AV×Heap):=let x1:=eA a0 0;(bif x1 then some (AV.nilIface,h)else let h2:=h.push (.row [(.int .i64 a0),(.int .i64 a1),(AV.iface 78 (.int .i64 a0))] .own);some ((AV.iface 127 (.ptr (some (h.next,0)))),h2))
def uB8:Ann:=.n
theorem pB1 (N:Nat):jC Tryz.prog 37 [zO2,zO2] (.val zP2) (fun x h=>f37 N x.1 x.2.1 h):=cD nA N uB8 Tryz.f37
noncomputable def f170 (N:Nat) (a0:Int) (h:Heap):Option (Bool×Heap):=let x1:Bool:=wB 97 a0;(bif x1 then let x2:Bool:=wB a0 122;(bif x2 then some (true,h)else let x3:Bool:=wB 65 a0;(bif x3 then let x4:Bool:=wB a0 90;(bif x4 then some (true,h)else let x5:=eA a0 95;(bif x5 then some (true,h)else some (false,h)))else let x6:=eA a0 95;(bif x6 then some (true,h)else some (false,h))))else let x7:Bool:=wB 65 a0;(bif x7 then let x8:Bool:=wB a0 90;(bif x8 then some (true,h)else let x9:=eA a0 95;(bif x9 then some (true,h)else some (false,h)))else let x10:=eA a0 95;(bif x10 then some (true,h)else some (false,h))))
def qB1:Ann:=.n
theorem mAl (N:Nat):jC Tryz.prog 170 [(.one (.int .u8))] (.val zN2) (fun x h=>f170 N x.1 h):=cD nA N qB1 Tryz.f170
def f195 (N:Nat) (a0:Int) (h:Heap):Option (Bool×Heap):=(mA (f170 N a0 h) fun (x1:Bool) h2=>(bif x1 then some (true,h2)else let x3:Bool:=wB 48 a0;(bif x3 then let x4:Bool:=wB a0 57;some (x4,h2)else some (false,h2))))
def rB1:Ann:=.n
theorem iAw (N:Nat):jC Tryz.prog 195 [(.one (.int .u8))] (.val zN2) (fun x h=>f195 N x.1 h):=cD (iA (mAl N) nA) N rB1 Tryz.f195
def pW (N:Nat) (go:zQ2->Int->Heap->Option (Out×zN1×Heap)) (v0:zQ2) (v1:Int) (h:Heap):Option (Out×zN1×Heap):=let x1:=ltInt v1 (Int.ofNat v0.length);(bif x1 then(iAp v0 v1 fun x2=>(mA (f195 N x2 h) fun (x3:Bool) h4=>(bif x3 then let x5:=jB .i64 (v1+1);go v0 x5 h4 else some ((Out.exit 0),(v1,()),h4))))else some ((Out.exit 0),(v1,()),h))
def jA2 (N M:Nat) (v0:zQ2) (v1:Int) (h:Heap):Option (Out×zN1×Heap):=iter (fun go s h=>pW N (fun v0 v1 h=>go (v0,v1,()) h) s.1 s.2.1 h) M (v0,v1,()) h
theorem pA7 (N M v0 v1 h):jA2 N (M+1) v0 v1 h=pW N (jA2 N M) v0 v1 h:=rfl
def f171 (N:Nat) (a0:zQ2) (a1:Int) (h:Heap):Option (Int×Heap):=(pC (jA2 N N a0 a1 h) fun _ (j7:zN1) h8=>some (j7.1,h8))
def tB1:Ann:=(.two .n (.two (.two (.loop [(0,zM2),(1,zO2)] [(.exit 0)] [(1,zO2)] .n) .n) .n))
theorem jAw (N:Nat):jC Tryz.prog 171 [zM2,zO2] (.val zO2) (fun x h=>f171 N x.1 x.2.1 h):=cD (iA (iAw N) nA) N tB1 Tryz.f171
noncomputable def f172 (N:Nat) (a0:zQ2) (h:Heap):Option (Bool×Heap):=let x1:=fB a0 [102,110];(bif x1 then(bif x1 then some (true,h)else some (false,h))else let x2:=fB a0 [115,116,114,117,99,116];(bif x2 then(bif x2 then some (true,h)else some (false,h))else let x3:=fB a0 [112,117,98];(bif x3 then(bif x3 then some (true,h)else some (false,h))else let x4:=fB a0 [108,101,116];(bif x4 then(bif x4 then some (true,h)else some (false,h))else let x5:=fB a0 [109,117,116];(bif x5 then(bif x5 then some (true,h)else some (false,h))else let x6:=fB a0 [105,102];(bif x6 then(bif x6 then some (true,h)else some (false,h))else let x7:=fB a0 [101,108,115,101];(bif x7 then(bif x7 then some (true,h)else some (false,h))else let x8:=fB a0 [119,104,105,108,101];(bif x8 then(bif x8 then some (true,h)else some (false,h))else let x9:=fB a0 [108,111,111,112];(bif x9 then(bif x9 then some (true,h)else some (false,h))else let x10:=fB a0 [98,114,101,97,107];(bif x10 then(bif x10 then some (true,h)else some (false,h))else let x11:=fB a0 [99,111,110,116,105,110,117,101];(bif x11 then(bif x11 then some (true,h)else some (false,h))else let x12:=fB a0 [114,101,116,117,114,110];(bif x12 then(bif x12 then some (true,h)else some (false,h))else let x13:=fB a0 [100,114,111,112];(bif x13 then(bif x13 then some (true,h)else some (false,h))else let x14:=fB a0 [116,114,117,101];(bif x14 then(bif x14 then some (true,h)else some (false,h))else let x15:=fB a0 [102,97,108,115,101]
 (bif x15 then(bif x15 then some (true,h)else some (false,h))else let x16:=fB a0 [105,110,116];(bif x16 then(bif x16 then some (true,h)else some (false,h))else let x17:=fB a0 [98,111,111,108];(bif x17 then some (true,h)else some (false,h))))))))))))))))))
def uB1:Ann:=.n
theorem nAl (N:Nat):jC Tryz.prog 172 [zM2] (.val zN2) (fun x h=>f172 N x.1 h):=cD nA N uB1 Tryz.f172
noncomputable def f65 (N:Nat) (a0:Int) (h:Heap):Option (Bool×Heap):=let x1:Bool:=wB 97 a0;(bif x1 then let x2:Bool:=wB a0 122;(bif x2 then some (true,h)else let x3:Bool:=wB 65 a0;(bif x3 then let x4:Bool:=wB a0 90;(bif x4 then some (true,h)else let x5:=eA a0 95;some (x5,h))else let x6:=eA a0 95;some (x6,h)))else let x7:Bool:=wB 65 a0;(bif x7 then let x8:Bool:=wB a0 90;(bif x8 then some (true,h)else let x9:=eA a0 95;some (x9,h))else let x10:=eA a0 95;some (x10,h)))
def vB8:Ann:=.n
theorem lAt (N:Nat):jC Tryz.prog 65 [(.one (.int .u8))] (.val zN2) (fun x h=>f65 N x.1 h):=cD nA N vB8 Tryz.f65
noncomputable def f69 (N:Nat) (a0:Int) (h:Heap):Option (Bool×Heap):=let x1:Bool:=wB 48 a0;(bif x1 then let x2:Bool:=wB a0 57;some (x2,h)else some (false,h))
def wB8:Ann:=.n
theorem vB1 (N:Nat):jC Tryz.prog 69 [(.one (.int .u8))] (.val zN2) (fun x h=>f69 N x.1 h):=cD nA N wB8 Tryz.f69
def kA2 (N:Nat) (go:zQ2->Int->Heap->Option (Out×zN1×Heap)) (v0:zQ2) (v1:Int) (h:Heap):Option (Out×zN1×Heap):=let x1:=ltInt v1 (Int.ofNat v0.length);(bif x1 then(iAp v0 v1 fun x2=>(mA (f65 N x2 h) fun (x3:Bool) h4=>(bif x3 then let x5:=jB .i64 (v1+1);go v0 x5 h4 else(iAp v0 v1 fun x6=>(mA (f69 N x6 h4) fun (x7:Bool) h8=>(bif x7 then let x9:=jB .i64 (v1+1);go v0 x9 h8 else some ((Out.exit 0),(v1,()),h8)))))))else some ((Out.exit 0),(v1,()),h))
def iAf (N M:Nat) (v0:zQ2) (v1:Int) (h:Heap):Option (Out×zN1×Heap):=iter (fun go s h=>kA2 N (fun v0 v1 h=>go (v0,v1,()) h) s.1 s.2.1 h) M (v0,v1,()) h
theorem tAa (N M v0 v1 h):iAf N (M+1) v0 v1 h=kA2 N (iAf N M) v0 v1 h:=rfl
def f66 (N:Nat) (a0:zQ2) (a1:Int) (h:Heap):Option (Int×Heap):=(pC (iAf N N a0 a1 h) fun _ (j11:zN1) h12=>some (j11.1,h12))
def yB8:Ann:=(.two .n (.two (.two (.loop [(0,zM2),(1,zO2)] [(.exit 0)] [(1,zO2)] .n) .n) .n))
theorem wB1 (N:Nat):jC Tryz.prog 66 [zM2,zO2] (.val zO2) (fun x h=>f66 N x.1 x.2.1 h):=cD (iA (vB1 N) (iA (lAt N) nA)) N yB8 Tryz.f66
noncomputable def lA2 (N:Nat) (go:zQ2->Bool->SL->Int->Heap->Option (Out×zC1×Heap)) (v0:zQ2) (v2:Bool) (v3:SL) (v4:Int) (h:Heap):Option (Out×zC1×Heap):=let x2:=ltInt v4 (Int.ofNat v3.len);(bif x2 then(ixK v3.a v3.len v4 1 fun q3=>(dA (.val zM2) (h.cell q3) fun (x4:zQ2)=>let x5:=fB x4 v0;(bif x5 then some (Out.ret,(true,()),h)else let x6:=jB .i64 (v4+1);go v0 v2 v3 x6 h)))else some ((Out.exit 0),(v2,()),h))
def jAf (N M:Nat) (v0:zQ2) (v2:Bool) (v3:SL) (v4:Int) (h:Heap):Option (Out×zC1×Heap):=iter (fun go s h=>lA2 N (fun v0 v2 v3 v4 h=>go (v0,v2,v3,v4,()) h) s.1 s.2.1 s.2.2.1 s.2.2.2.1 h) M (v0,v2,v3,v4,()) h
theorem uAa (N M v0 v2 v3 v4 h):jAf N (M+1) v0 v2 v3 v4 h=lA2 N (jAf N M) v0 v2 v3 v4 h:=rfl
def f67 (N:Nat) (a0:zQ2) (h:Heap):Option (Bool×Heap):=let h1:=h.push (.row [(.str [102,110]),(.str [115,116,114,117,99,116]),(.str [112,117,98]),(.str [108,101,116]),(.str [109,117,116]),(.str [105,102]),(.str [101,108,115,101]),(.str [119,104,105,108,101]),(.str [108,111,111,112]),(.str [98,114,101,97,107]),(.str [99,111,110,116,105,110,117,101]),(.str [114,101,116,117,114,110]),(.str [100,114,111,112]),(.str [116,114,117,101]),(.str [102,97,108,115,101]),(.str [105,110,116]),(.str [98,111,111,108])] .own);(pC (jAf N N a0 false ⟨(some (h.next,0)),17,17,1⟩ 0 h1) fun o7 (j8:zC1) h9=>(bif jD o7 (.exit 0) then some (false,h9)else some (j8.1,h9)))
def aB9:Ann:=(.two .n (.two .n (.two (.two .n (.two (.loop [(0,zM2),(2,zN2),(3,zL2),(4,zO2)] [(.exit 0),.ret] [(2,zN2)] .n) .n)) .n)))
theorem yB1 (N:Nat):jC Tryz.prog 67 [zM2] (.val zN2) (fun x h=>f67 N x.1 h):=cD nA N aB9 Tryz.f67
def f68 (N:Nat) (a0:zQ2) (h:Heap):Option (Bool×Heap):=let x1:Bool:=wB 1 (Int.ofNat a0.length);(bif x1 then let x2:Bool:=wB (Int.ofNat a0.length) 32;(bif x2 then(iAp a0 0 fun x3=>(mA (f65 N x3 h) fun (x4:Bool) h5=>(bif x4 then(mA (f66 N a0 0 h5) fun (x6:Int) h7=>let x8:=eA x6 (Int.ofNat a0.length);some (x8,h7))else some (false,h5))))else some (false,h))else some (false,h))
def bB9:Ann:=.n
theorem oAl (N:Nat):jC Tryz.prog 68 [zM2] (.val zN2) (fun x h=>f68 N x.1 h):=cD (iA (wB1 N) (iA (lAt N) nA)) N bB9 Tryz.f68
def f46 (N:Nat) (a0:zQ2) (h:Heap):Option (Bool×Heap):=(mA (f68 N a0 h) fun (x1:Bool) h2=>(bif x1 then(mA (f67 N a0 h2) fun (x3:Bool) h4=>let x5:=!x3;some (x5,h4))else some (false,h2)))
def cB9:Ann:=.n
theorem qW (N:Nat):jC Tryz.prog 46 [zM2] (.val zN2) (fun x h=>f46 N x.1 h):=cD (iA (oAl N) (iA (yB1 N) nA)) N cB9 Tryz.f46
noncomputable def mA2 (N:Nat) (go:SL->SL->Bool->Int->Heap->Option (Out×zC1×Heap)) (v0 v1:SL) (v4:Bool) (v5:Int) (h:Heap):Option (Out×zC1×Heap):=let x2:=ltInt v5 (Int.ofNat v0.len);(bif x2 then(ixK v0.a v0.len v5 1 fun q3=>(dA (.val zM2) (h.cell q3) fun (x4:zQ2)=>(ixK v1.a v1.len v5 1 fun q5=>(dA (.val zM2) (h.cell q5) fun (x6:zQ2)=>let x7:=!fB x4 x6;(bif x7 then some (Out.ret,(false,()),h)else let x8:=jB .i64 (v5+1);go v0 v1 v4 x8 h)))))else some ((Out.exit 0),(v4,()),h))
def pAl (N M:Nat) (v0 v1:SL) (v4:Bool) (v5:Int) (h:Heap):Option (Out×zC1×Heap):=iter (fun go s h=>mA2 N (fun v0 v1 v4 v5 h=>go (v0,v1,v4,v5,()) h) s.1 s.2.1 s.2.2.1 s.2.2.2.1 h) M (v0,v1,v4,v5,()) h
theorem vAa (N M v0 v1 v4 v5 h):pAl N (M+1) v0 v1 v4 v5 h=mA2 N (pAl N M) v0 v1 v4 v5 h:=rfl
def f59 (N:Nat) (a0 a1:SL) (h:Heap):Option (Bool×Heap):=let x1:=!eA (Int.ofNat a0.len) (Int.ofNat a1.len);(bif x1 then some (false,h)else(pC (pAl N N a0 a1 false 0 h) fun o9 (j10:zC1) h11=>(bif jD o9 (.exit 0) then some (true,h11)else some (j10.1,h11))))
def dB9:Ann:=(.two .n (.two .n (.two (.two .n (.two (.loop [(0,zL2),(1,zL2),(4,zN2),(5,zO2)] [(.exit 0),.ret] [(4,zN2)] .n) .n)) .n)))
theorem qAl (N:Nat):jC Tryz.prog 59 [zL2,zL2] (.val zN2) (fun x h=>f59 N x.1 x.2.1 h):=cD nA N dB9 Tryz.f59
noncomputable def nA2 (N:Nat) (rec25:zR->zR->Heap->Option (Bool×Heap)) (go:zJ2->zJ2->Bool->Int->Heap->Option (Out×zC1×Heap)) (v2 v3:zJ2) (v4:Bool) (v5:Int) (h:Heap):Option (Out×zC1×Heap):=(bB v2 fun q17=>(dA (.val zL2) (h.cell (q17.1,q17.2+3)) fun (x18:SL)=>let x19:=ltInt v5 (Int.ofNat x18.len);(bif x19 then(bB v2 fun q20=>(dA (.val zL2) (h.cell (q20.1,q20.2+3)) fun (x21:SL)=>(ixK x21.a x21.len v5 4 fun q22=>(dA (.val zE) (h.cells q22 4) fun (x23:zR)=>(bB v3 fun q24=>(dA (.val zL2) (h.cell (q24.1,q24.2+3)) fun (x25:SL)=>(ixK x25.a x25.len v5 4 fun q26=>(dA (.val zE) (h.cells q26 4) fun (x27:zR)=>(mA (rec25 x23 x27 h) fun (x28:Bool) h29=>let x30:=!x28;(bif x30 then some (Out.ret,(false,()),h29)else let x31:=jB .i64 (v5+1);go v2 v3 v4 x31 h29))))))))))else some ((Out.exit 0),(v4,()),h))))
def rAl (N:Nat) (rec25:zR->zR->Heap->Option (Bool×Heap)) (M:Nat) (v2 v3:zJ2) (v4:Bool) (v5:Int) (h:Heap):Option (Out×zC1×Heap):=iter (fun go s h=>nA2 N rec25 (fun v2 v3 v4 v5 h=>go (v2,v3,v4,v5,()) h) s.1 s.2.1 s.2.2.1 s.2.2.2.1 h) M (v2,v3,v4,v5,()) h
theorem wAa (N rec25 M v2 v3 v4 v5 h):rAl N rec25 (M+1) v2 v3 v4 v5 h=nA2 N rec25 (rAl N rec25 M) v2 v3 v4 v5 h:=rfl
def kAw (N:Nat) (rec25:zR->zR->Heap->Option (Bool×Heap)) (a0 a1:zR) (h:Heap):Option (Bool×Heap):=let h1:=h.push (.row (yRE a0) .own);let h2:=h1.push (.row (yRE a1) .own);(dA (.val zO2) (h2.cell (h.next,0)) fun (x3:Int)=>(dA (.val zO2) (h2.cell (h1.next,0)) fun (x4:Int)=>let x5:=!eA x3 x4;(bif x5 then some (false,h2)else(dA (.val zM2) (h2.cell (h.next,1)) fun (x6:zQ2)=>(dA (.val zM2) (h2.cell (h1.next,1)) fun (x7:zQ2)=>let x8:=!fB x6 x7;(bif x8 then some (false,h2)else(dA (.val zL2) (h2.cell (h.next,2)) fun (x9:SL)=>(dA (.val zL2) (h2.cell (h1.next,2)) fun (x10:SL)=>(mA (f59 N x9 x10 h2) fun (x11:Bool) h12=>let x13:=!x11;(bif x13 then some (false,h12)else(dA (.val zL2) (h12.cell (h.next,3)) fun (x14:SL)=>(dA (.val zL2) (h12.cell (h1.next,3)) fun (x15:SL)=>let x16:=!eA (Int.ofNat x14.len) (Int.ofNat x15.len);(bif x16 then some (false,h12)else(pC (rAl N rec25 N (some (h.next,0)) (some (h1.next,0)) false 0 h12) fun o32 (j33:zC1) h34=>(bif jD o32 (.exit 0) then some (true,h34)else some (j33.1,h34))))))))))))))))
def eB9:Ann:=(.two .n (.two .n (.two (.two .n (.two (.loop [(2,zK2),(3,zK2),(4,zN2),(5,zO2)] [(.exit 0),.ret] [(4,zN2)] .n) .n)) .n)))
def aB2 (N M:Nat):((zR->zR->Heap->Option (Bool×Heap))×Unit):=Nat.rec (fun _ _ _=>none,()) (fun _ r=>(kAw N r.1,())) M
def f25 (N M:Nat):zR->zR->Heap->Option (Bool×Heap):=(aB2 N M).1
theorem uAq (N M a0 a1 h):f25 N (M+1) a0 a1 h=kAw N (f25 N M) a0 a1 h:=rfl
theorem jA0 (N:Nat):∀ M:Nat,(jC Tryz.prog 25 [zE,zE] (.val zN2) (fun x h=>f25 N M x.1 x.2.1 h))/\True
 | 0=>⟨(fun xs h r h' hx=>by cases hx),trivial⟩
 | M+1=>⟨cD (iA (qAl N) (iA (jA0 N M).1 nA)) N eB9 Tryz.f25,trivial⟩
theorem mAt (N:Nat):jC Tryz.prog 25 [zE,zE] (.val zN2) (fun x h=>f25 N N x.1 x.2.1 h):=(jA0 N N).1
def oA2 (N:Nat) (go:zJ2->Int->Int->Int->Heap->Option (Out×zG2×Heap)) (v4:zJ2) (v6 v7 v8:Int) (h:Heap):Option (Out×zG2×Heap):=let x8:=ltInt v8 200;(bif x8 then(bB v4 fun q9=>(dA (.val zP2) (h.cell (q9.1,q9.2+2)) fun (x10:AV)=>(dA (.tup [zK2,zN2]) (cJ E x10 127 true) fun (x11:zY)=>let x12:=!x11.2.1;(bif x12 then some ((Out.exit 0),(v6,v7,()),h)else(bif x11.1.isNone then some ((Out.exit 0),(v6,v7,()),h)else(bB x11.1 fun q13=>(dA (.val zO2) (h.cell (q13.1,q13.2+1)) fun (x14:Int)=>let x15:=jB .i64 (v8+1);go x11.1 v6 x14 x15 h)))))))else some ((Out.exit 0),(v6,v7,()),h))
def tAl (N M:Nat) (v4:zJ2) (v6 v7 v8:Int) (h:Heap):Option (Out×zG2×Heap):=iter (fun go s h=>oA2 N (fun v4 v6 v7 v8 h=>go (v4,v6,v7,v8,()) h) s.1 s.2.1 s.2.2.1 s.2.2.2.1 h) M (v4,v6,v7,v8,()) h
theorem yAa (N M v4 v6 v7 v8 h):tAl N (M+1) v4 v6 v7 v8 h=oA2 N (tAl N M) v4 v6 v7 v8 h:=rfl
def f29 (N:Nat) (a0:AV) (h:Heap):Option (zG2×Heap):=(dA (.val zN2) (oA9 E .eql 29 (.tmp 11) (.const .nilIface) a0 AV.nilIface) fun (x1:Bool)=>(bif x1 then some ((0,0,()),h)else(dA (.tup [zK2,zN2]) (cJ E a0 127 true) fun (x2:zY)=>let x3:=!x2.2.1;(bif x3 then some (((-1),0,()),h)else(bif x2.1.isNone then some (((-1),0,()),h)else(bB x2.1 fun q4=>(dA (.val zO2) (h.cell (q4.1,q4.2+0)) fun (x5:Int)=>(bB x2.1 fun q6=>(dA (.val zO2) (h.cell (q6.1,q6.2+1)) fun (x7:Int)=>(pC (tAl N N x2.1 x5 x7 0 h) fun _ (j17:zG2) h18=>some (j17,h18)))))))))))
def fB9:Ann:=(.two .n (.two .n (.two .n (.two .n (.two .n (.two (.two .n (.two (.loop [(4,zK2),(6,zO2),(7,zO2),(8,zO2)] [(.exit 0)] [(6,zO2),(7,zO2)] .n) .n)) .n))))))
theorem bB2 (N:Nat):jC Tryz.prog 29 [zP2] (.tup [zO2,zO2]) (fun x h=>f29 N x.1 h):=cD nA N fB9 Tryz.f29
def f18 (N:Nat) (a0:AV) (a1 a2:Int) (h:Heap):Option (Bool×Heap):=(mA (f29 N a0 h) fun (x1:zG2) h2=>let x3:=eA x1.1 a1;(bif x3 then let x4:=eA x1.2.1 a2;some (x4,h2)else some (false,h2)))
def gB9:Ann:=.n
theorem nAt (N:Nat):jC Tryz.prog 18 [zP2,zO2,zO2] (.val zN2) (fun x h=>f18 N x.1 x.2.1 x.2.2.1 h):=cD (iA (bB2 N) nA) N gB9 Tryz.f18
def iU (N:Nat) (go:zQ2->Bool->Int->Heap->Option (Out×zE2×Heap)) (v0:zQ2) (v2:Bool) (v3:Int) (h:Heap):Option (Out×zE2×Heap):=let x1:=jB .i64 (v3+1);let x2:=ltInt x1 (Int.ofNat v0.length);(bif x2 then let x3:=jB .i64 (v3+2);(dA (.val zM2) (nE E h 9 (.str v0) (some (.int .i64 v3)) (some (.int .i64 x3))) fun (x4:zQ2)=>let x5:=fB x4 [58,58];(bif x5 then(dA (.val zM2) (nE E h 9 (.str v0) none (some (.int .i64 v3))) fun (x6:zQ2)=>(mA (f46 N x6 h) fun (x7:Bool) h8=>(bif x7 then let x9:=jB .i64 (v3+2);(dA (.val zM2) (nE E h8 9 (.str v0) (some (.int .i64 x9)) none) fun (x10:zQ2)=>(mA (f46 N x10 h8) fun (x11:Bool) h12=>some (Out.ret,(v0,x11,()),h12)))else some (Out.ret,(v0,false,()),h8))))else let x13:=jB .i64 (v3+1);go v0 v2 x13 h))else some ((Out.exit 0),(v0,v2,()),h))
def kA0 (N M:Nat) (v0:zQ2) (v2:Bool) (v3:Int) (h:Heap):Option (Out×zE2×Heap):=iter (fun go s h=>iU N (fun v0 v2 v3 h=>go (v0,v2,v3,()) h) s.1 s.2.1 s.2.2.1 h) M (v0,v2,v3,()) h
theorem rW (N M v0 v2 v3 h):kA0 N (M+1) v0 v2 v3 h=iU N (kA0 N M) v0 v2 v3 h:=rfl
def f51 (N:Nat) (a0:zQ2) (h:Heap):Option (Bool×Heap):=(pC (kA0 N N a0 false 0 h) fun o14 (j15:zE2) h16=>(bif jD o14 (.exit 0) then(mA (f46 N j15.1 h16) fun (x17:Bool) h18=>some (x17,h18))else some (j15.2.1,h16)))
def iB9:Ann:=(.two .n (.two (.two .n (.two (.loop [(0,zM2),(2,zN2),(3,zO2)] [(.exit 0),.ret] [(0,zM2),(2,zN2)] .n) .n)) .n))
theorem oAt (N:Nat):jC Tryz.prog 51 [zM2] (.val zN2) (fun x h=>f51 N x.1 h):=cD (iA (qW N) nA) N iB9 Tryz.f51
def jU (N:Nat) (go:SL->Bool->Int->Heap->Option (Out×zP1×Heap)) (v0:SL) (v2:Bool) (v3:Int) (h:Heap):Option (Out×zP1×Heap):=let x1:=ltInt v3 (Int.ofNat v0.len);(bif x1 then let x2:=ltInt v3 65;(bif x2 then(ixK v0.a v0.len v3 1 fun q3=>(dA (.val zM2) (h.cell q3) fun (x4:zQ2)=>(mA (f68 N x4 h) fun (x5:Bool) h6=>let x7:=!x5;(bif x7 then some (Out.ret,(v0,false,()),h6)else let x8:=jB .i64 (v3+1);go v0 v2 x8 h6))))else some ((Out.exit 0),(v0,v2,()),h))else some ((Out.exit 0),(v0,v2,()),h))
def qA7 (N M:Nat) (v0:SL) (v2:Bool) (v3:Int) (h:Heap):Option (Out×zP1×Heap):=iter (fun go s h=>jU N (fun v0 v2 v3 h=>go (v0,v2,v3,()) h) s.1 s.2.1 s.2.2.1 h) M (v0,v2,v3,()) h
theorem tW (N M v0 v2 v3 h):qA7 N (M+1) v0 v2 v3 h=jU N (qA7 N M) v0 v2 v3 h:=rfl
def f47 (N:Nat) (a0:SL) (h:Heap):Option (Bool×Heap):=(pC (qA7 N N a0 false 0 h) fun o9 (j10:zP1) h11=>(bif jD o9 (.exit 0) then let x12:Bool:=wB (Int.ofNat j10.1.len) 64;some (x12,h11)else some (j10.2.1,h11)))
def jB9:Ann:=(.two .n (.two (.two .n (.two (.loop [(0,zL2),(2,zN2),(3,zO2)] [(.exit 0),.ret] [(0,zL2),(2,zN2)] .n) .n)) .n))
theorem uAl (N:Nat):jC Tryz.prog 47 [zL2] (.val zN2) (fun x h=>f47 N x.1 h):=cD (iA (oAl N) nA) N jB9 Tryz.f47
def vAl (N:Nat) (rec21:zR->Int->Heap->Option (Bool×Heap)) (a0:zR) (a1:Int) (h:Heap):Option (Bool×Heap):=let h1:=h.push (.row (yRE a0) .own);let x2:=ltInt 64 a1;(bif x2 then some (false,h1)else(dA (.val zO2) (h1.cell (h.next,0)) fun (x3:Int)=>(mA (α:=zJ1) ( let x4:=eA x3 1;(bif x4 then some ((a1,(some (h.next,0)),x3,x4,()),h1)else let x5:=eA x3 2;some ((a1,(some (h.next,0)),x3,x5,()),h1))) fun (j6:zJ1) h7=>(bif j6.2.2.2.1 then(bB j6.2.1 fun q8=>(dA (.val zM2) (h7.cell (q8.1,q8.2+1)) fun (x9:zQ2)=>let x10:=fB x9 [];(bif x10 then(bB j6.2.1 fun q11=>(dA (.val zL2) (h7.cell (q11.1,q11.2+2)) fun (x12:SL)=>let x13:=eA (Int.ofNat x12.len) 0;(bif x13 then(bB j6.2.1 fun q14=>(dA (.val zL2) (h7.cell (q14.1,q14.2+3)) fun (x15:SL)=>let x16:=eA (Int.ofNat x15.len) 0;some (x16,h7)))else some (false,h7))))else some (false,h7))))else let x17:=eA j6.2.2.1 3;(bif x17 then(bB j6.2.1 fun q18=>(dA (.val zM2) (h7.cell (q18.1,q18.2+1)) fun (x19:zQ2)=>(mA (f51 N x19 h7) fun (x20:Bool) h21=>(bif x20 then(bB j6.2.1 fun q22=>(dA (.val zL2) (h21.cell (q22.1,q22.2+2)) fun (x23:SL)=>(mA (f47 N x23 h21) fun (x24:Bool) h25=>(bif x24 then(bB j6.2.1 fun q26=>(dA (.val zL2) (h25.cell (q26.1,q26.2+3)) fun (x27:SL)=>let x28:=eA (Int.ofNat x27.len) 0;some (x28,h25)))else some (false,h25)))))else some (false,h21)))))else(mA (α:=zY1) ( let x29:=eA j6.2.2.1 4;(bif x29 then some ((j6.1,j6.2.1,x29,()),h7)else let x30:=eA j6.2.2.1 5
 some ((j6.1,j6.2.1,x30,()),h7))) fun (j31:zY1) h32=>(bif j31.2.2.1 then(bB j31.2.1 fun q33=>(dA (.val zM2) (h32.cell (q33.1,q33.2+1)) fun (x34:zQ2)=>let x35:=fB x34 [];(bif x35 then(bB j31.2.1 fun q36=>(dA (.val zL2) (h32.cell (q36.1,q36.2+2)) fun (x37:SL)=>let x38:Bool:=wB (Int.ofNat x37.len) 1;(bif x38 then(bB j31.2.1 fun q39=>(dA (.val zL2) (h32.cell (q39.1,q39.2+2)) fun (x40:SL)=>(mA (f47 N x40 h32) fun (x41:Bool) h42=>(bif x41 then(bB j31.2.1 fun q43=>(dA (.val zL2) (h42.cell (q43.1,q43.2+3)) fun (x44:SL)=>let x45:=eA (Int.ofNat x44.len) 1;(bif x45 then(bB j31.2.1 fun q46=>(dA (.val zL2) (h42.cell (q46.1,q46.2+3)) fun (x47:SL)=>(ixK x47.a x47.len 0 4 fun q48=>(dA (.val zE) (h42.cells q48 4) fun (x49:zR)=>let x50:=jB .i64 (j31.1+1);(mA (rec21 x49 x50 h42) fun (x51:Bool) h52=>some (x51,h52))))))else some (false,h42))))else some (false,h42)))))else some (false,h32))))else some (false,h32))))else some (false,h32))))))))
def kB9:Ann:=(.two .n (.two .n (.two (.two .n (.two (.two (.join [(1,zO2),(2,zK2),(8,zO2),(9,zN2)] .n) (.two .n (.two .n (.two .n (.two (.join [(1,zO2),(2,zK2),(43,zN2)] .n) .n))))) .n)) .n)))
def cB2 (N M:Nat):((zR->Int->Heap->Option (Bool×Heap))×Unit):=Nat.rec (fun _ _ _=>none,()) (fun _ r=>(vAl N r.1,())) M
def f21 (N M:Nat):zR->Int->Heap->Option (Bool×Heap):=(cB2 N M).1
theorem pA2 (N M a0 a1 h):f21 N (M+1) a0 a1 h=vAl N (f21 N M) a0 a1 h:=rfl
theorem lA0 (N:Nat):∀ M:Nat,(jC Tryz.prog 21 [zE,zO2] (.val zN2) (fun x h=>f21 N M x.1 x.2.1 h))/\True
 | 0=>⟨(fun xs h r h' hx=>by cases hx),trivial⟩
 | M+1=>⟨cD (iA (oAt N) (iA (uAl N) (iA (lA0 N M).1 nA))) N kB9 Tryz.f21,trivial⟩
theorem wAl (N:Nat):jC Tryz.prog 21 [zE,zO2] (.val zN2) (fun x h=>f21 N N x.1 x.2.1 h):=(lA0 N N).1
noncomputable def qA2 (N:Nat) (go:SL->zQ2->Int->Heap->Option (Out×zH1×Heap)) (v0:SL) (v3:zQ2) (v4:Int) (h:Heap):Option (Out×zH1×Heap):=let x1:=ltInt v4 (Int.ofNat v0.len);(bif x1 then let x2:=ltInt 0 v4;(bif x2 then(dA (.val zM2) (rA .add v3 [44,32]) fun (x3:zQ2)=>(dA (.val zM2) (rA .add x3 [39]) fun (x4:zQ2)=>(ixK v0.a v0.len v4 1 fun q5=>(dA (.val zM2) (h.cell q5) fun (x6:zQ2)=>(dA (.val zM2) (rA .add x4 x6) fun (x7:zQ2)=>let x8:=jB .i64 (v4+1);go v0 x7 x8 h)))))else(dA (.val zM2) (rA .add v3 [39]) fun (x9:zQ2)=>(ixK v0.a v0.len v4 1 fun q10=>(dA (.val zM2) (h.cell q10) fun (x11:zQ2)=>(dA (.val zM2) (rA .add x9 x11) fun (x12:zQ2)=>let x13:=jB .i64 (v4+1);go v0 x12 x13 h)))))else some ((Out.exit 0),(v3,()),h))
def kAf (N M:Nat) (v0:SL) (v3:zQ2) (v4:Int) (h:Heap):Option (Out×zH1×Heap):=iter (fun go s h=>qA2 N (fun v0 v3 v4 h=>go (v0,v3,v4,()) h) s.1 s.2.1 s.2.2.1 h) M (v0,v3,v4,()) h
theorem aAb (N M v0 v3 v4 h):kAf N (M+1) v0 v3 v4 h=qA2 N (kAf N M) v0 v3 v4 h:=rfl
def f58 (N:Nat) (a0:SL) (h:Heap):Option (zQ2×Heap):=(pC (kAf N N a0 [] 0 h) fun _ (j15:zH1) h16=>let x17:=fB j15.1 [];(bif x17 then some ([],h16)else(dA (.val zM2) (rA .add [60] j15.1) fun (x18:zQ2)=>(dA (.val zM2) (rA .add x18 [62]) fun (x19:zQ2)=>some (x19,h16)))))
def lB9:Ann:=(.two .n (.two .n (.two (.two .n (.two (.loop [(0,zL2),(3,zM2),(4,zO2)] [(.exit 0)] [(3,zM2)] .n) .n)) .n)))
theorem pAt (N:Nat):jC Tryz.prog 58 [zL2] (.val zM2) (fun x h=>f58 N x.1 h):=cD nA N lB9 Tryz.f58
def lAw (N:Nat) (rec24:zR->Heap->Option (zQ2×Heap)) (a0:zR) (h:Heap):Option (zQ2×Heap):=let h1:=h.push (.row (yRE a0) .own);(dA (.val zO2) (h1.cell (h.next,0)) fun (x2:Int)=>let x3:=eA x2 1;(bif x3 then some ([105,110,116],h1)else let x4:=eA x2 2;(bif x4 then some ([98,111,111,108],h1)else let x5:=eA x2 3;(bif x5 then(dA (.val zM2) (h1.cell (h.next,1)) fun (x6:zQ2)=>(dA (.val zL2) (h1.cell (h.next,2)) fun (x7:SL)=>(mA (f58 N x7 h1) fun (x8:zQ2) h9=>(dA (.val zM2) (rA .add x6 x8) fun (x10:zQ2)=>(rC (bif (mB (h1.cell (h.next,2)) (yL x7)) then (bif (mB (h9.cell (h.next,1)) (.str x6)) then (bif (mB (h1.cell (h.next,1)) (.str x6)) then true else false) else false) else false) ( some (x10,h9)))))))else(mA (α:=zY) ( let x11:=eA x2 4;(bif x11 then some (((some (h.next,0)),x11,()),h1)else let x12:=eA x2 5;some (((some (h.next,0)),x12,()),h1))) fun (j13:zY) h14=>(bif j13.2.1 then(bB j13.1 fun q15=>(dA (.val zL2) (h14.cell (q15.1,q15.2+3)) fun (x16:SL)=>let x17:=eA (Int.ofNat x16.len) 0;(bif x17 then some ([],h14)else(mA (α:=zA1) ((bB j13.1 fun q18=>(dA (.val zL2) (h14.cell (q18.1,q18.2+2)) fun (x19:SL)=>let x20:=ltInt 0 (Int.ofNat x19.len);(bif x20 then(dA (.val zM2) (rA .add [38] [39]) fun (x21:zQ2)=>(bB j13.1 fun q22=>(dA (.val zL2) (h14.cell (q22.1,q22.2+2)) fun (x23:SL)=>
 (ixK x23.a x23.len 0 1 fun q24=>(dA (.val zM2) (h14.cell q24) fun (x25:zQ2)=>(dA (.val zM2) (rA .add x21 x25) fun (x26:zQ2)=>(dA (.val zM2) (rA .add x26 [32]) fun (x27:zQ2)=>some ((j13.1,x27,()),h14))))))))else some ((j13.1,[38],()),h14))))) fun (j28:zA1) h29=>(mA (α:=zA1) ((bB j28.1 fun q30=>(dA (.val zO2) (h29.cell (q30.1,q30.2+0)) fun (x31:Int)=>let x32:=eA x31 5;(bif x32 then(dA (.val zM2) (rA .add j28.2.1 [109,117,116,32]) fun (x33:zQ2)=>some ((j28.1,x33,()),h29))else some (j28,h29))))) fun (j34:zA1) h35=>(bB j34.1 fun q36=>(dA (.val zL2) (h35.cell (q36.1,q36.2+3)) fun (x37:SL)=>(ixK x37.a x37.len 0 4 fun q38=>(dA (.val zE) (h35.cells q38 4) fun (x39:zR)=>(mA (rec24 x39 h35) fun (x40:zQ2) h41=>(dA (.val zM2) (rA .add j34.2.1 x40) fun (x42:zQ2)=>some (x42,h41))))))))))))else some ([],h14)))))))
def mB9:Ann:=(.two .n (.two (.two .n (.two (.two .n (.two .n (.two .n (.two .n (.two .n (.two .n (.two (.join [(1,zK2),(18,zN2)] .n) (.two (.two .n (.two .n (.two (.join [(1,zK2),(3,zM2)] .n) (.two (.join [(1,zK2),(3,zM2)] .n) .n)))) .n)))))))) .n)) .n))
def dB2 (N M:Nat):((zR->Heap->Option (zQ2×Heap))×Unit):=Nat.rec (fun _ _=>none,()) (fun _ r=>(lAw N r.1,())) M
def f24 (N M:Nat):zR->Heap->Option (zQ2×Heap):=(dB2 N M).1
theorem vAq (N M a0 h):f24 N (M+1) a0 h=lAw N (f24 N M) a0 h:=rfl
theorem mA0 (N:Nat):∀ M:Nat,(jC Tryz.prog 24 [zE] (.val zM2) (fun x h=>f24 N M x.1 h))/\True
 | 0=>⟨(fun xs h r h' hx=>by cases hx),trivial⟩
 | M+1=>⟨cD (iA (pAt N) (iA (mA0 N M).1 nA)) N mB9 Tryz.f24,trivial⟩
theorem yAl (N:Nat):jC Tryz.prog 24 [zE] (.val zM2) (fun x h=>f24 N N x.1 h):=(mA0 N N).1
end
end Qp
namespace Qp
abbrev Bs:=zQ2
theorem qB {β:Type} (k:Option β):rC true k=k:=rfl
theorem nB9:E.und 9=some .string:=by kernel_rfl
theorem uW {β:Type} {s:Bs} {i:Nat} (hi:i<s.length) (K:Int->Option β):iAp s (i:Int) K=K ((s[i]).toNat:Int):=by
 show (match (Int.ofNat i) with | .ofNat j=>(match s[j]? with | some b=>K b.toNat | none=>none) | .negSucc _=>none)=_
 grind
theorem gN {i hi d:Nat} (h:i<=hi):yD (some (.int .i64 (i:Int))) hi d=some i:=by
 have:Nat.ble i hi=true:=by simpa using h
 have e:lT (.int .i64 (i:Int))=some i:=rfl;simp only [yD,e,this,cond_true]
theorem lAf {h:Heap} {s:Bs} {i j:Nat} (h1:i<=j) (h2:j<=s.length):nE E h 9 (.str s) (some (.int .i64 (i:Int))) (some (.int .i64 (j:Int)))=some (.str ((s.take j).drop i)):=by
 simp only [nE,nB9,gN h2,gN h1]
theorem nA0 {h:Heap} {s:Bs} {i:Nat} (h1:i<=s.length):nE E h 9 (.str s) (some (.int .i64 (i:Int))) none=some (.str (s.drop i)):=by
 have e:yD none s.length s.length=some s.length:=rfl;simp only [nE,nB9,e,gN h1,List.take_length]
theorem oA0 {h:Heap} {s:Bs} {j:Nat} (h2:j<=s.length):nE E h 9 (.str s) none (some (.int .i64 (j:Int)))=some (.str (s.take j)):=by
 have e:yD none j 0=some 0:=rfl;simp only [nE,nB9,gN h2,e,List.drop_zero]
theorem fF (a b:Nat):ltInt (a:Int) (Int.ofNat b)=decide (a<b):=by
 grind [lA7]
theorem rB (a b:Nat):ltInt (a:Int) (b:Int)=decide (a<b):=fF a b
theorem aB {i:Nat} (h:i<=4000000000):jB .i64 ((i:Int)+1)=((i+1:Nat):Int):=by grind [fD]
theorem eqI (a b:Int):eA a b=decide (a=b):=cAl a b
theorem leI (a b:Int):wB a b=decide (a<=b):=bAl a b
theorem ltI (a b:Int):ltInt a b=decide (a<b):=lA7 a b
def pF (c:UInt8):Bool:=decide (97<=c.toNat/\c.toNat<=122)||decide (65<=c.toNat/\c.toNat<=90)||decide (c.toNat=95)
def vW (c:UInt8):Bool:=decide (48<=c.toNat/\c.toNat<=57)
def bAb (c:UInt8):Bool:=pF c||vW c
theorem aAm (N:Nat) (c:UInt8) (h:Heap):f170 N (c.toNat:Int) h=some (pF c,h):=by
 grind [f170,pF,leI,eqI,decide]
theorem qAt (N:Nat) (c:UInt8) (h:Heap):f65 N (c.toNat:Int) h=some (pF c,h):=by
 grind [f65,pF,leI,eqI,decide]
theorem eB2 (N:Nat) (c:UInt8) (h:Heap):f69 N (c.toNat:Int) h=some (vW c,h):=by
 grind [f69,vW,leI,decide]
theorem mAw (N:Nat) (c:UInt8) (h:Heap):f195 N (c.toNat:Int) h=some (bAb c,h):=by
 unfold f195;rw [aAm,aA]
 grind [bAb,vW,leI,decide,pF]
def runN:Bs->Nat
 | []=>0
 | c::r=>if bAb c then runN r+1 else 0
theorem drop_cons {s:Bs} {i:Nat} (h:i<s.length):s.drop i=s[i]::s.drop (i+1):=List.drop_eq_getElem_cons h
theorem wAq {N:Nat} {s:Bs} (hs:s.length<=3000000) (h:Heap):∀ (M i:Nat),i<=s.length->s.length-i<M->jA2 N M s (i:Int) h=some (.exit 0,(((i+runN (s.drop i):Nat):Int),()),h):=by
 intro M
 induction M with
 | zero=>intro i _ h;omega
 | succ M ih=>
  intro i hi hM;rw [pA7];unfold pW;simp only [fF]
  by_cases q:i<s.length
  ·simp only [q,decide_true,cond_true]
   rw [uW q,mAw,aA,aB (by omega),drop_cons q];simp only [runN]
   cases hg:bAb s[i] with
   | true=>
    grind
   | false=>simp
  ·simp only [q,decide_false,cond_false]
   rw [List.drop_of_length_le (by omega)];rfl
theorem nAw {N:Nat} {s:Bs} (hs:s.length<=3000000) (hN:s.length<N) {i:Nat} (hi:i<=s.length) (h:Heap):f171 N s (i:Int) h=some (((i+runN (s.drop i):Nat):Int),h):=by
 unfold f171;rw [wAq hs h N i hi (by omega)];rfl
theorem bAm {N:Nat} {s:Bs} (hs:s.length<=3000000) (h:Heap):∀ (M i:Nat),i<=s.length->s.length-i<M->iAf N M s (i:Int) h=some (.exit 0,(((i+runN (s.drop i):Nat):Int),()),h):=by
 intro M
 induction M with
 | zero=>intro i _ h;omega
 | succ M ih=>
  intro i hi hM;rw [tAa];unfold kA2;simp only [fF]
  by_cases q:i<s.length
  ·simp only [q,decide_true,cond_true]
   rw [uW q,qAt,aA,aB (by omega),uW q,eB2,aA,drop_cons q];have hI:=ih (i+1) q (by omega);have hgo:bAb s[i]=(pF s[i]||vW s[i]):=rfl
   cases hg:pF s[i] with
   | true=>
    rw [hg,Bool.true_or] at hgo;simp only [runN,hgo,cond_true,if_true]
    grind
   | false=>
    cases hd:vW s[i] with
    | true=>
     rw [hd,Bool.or_true] at hgo;simp only [runN,hgo,cond_true,cond_false,if_true]
     grind
    | false=>
     rw [hg,hd] at hgo;simp only [runN,hgo,cond_false];simp
  ·simp only [q,decide_false,cond_false]
   rw [List.drop_of_length_le (by omega)];rfl
theorem fB2 {N:Nat} {s:Bs} (hs:s.length<=3000000) (hN:s.length<N) {i:Nat} (hi:i<=s.length) (h:Heap):f66 N s (i:Int) h=some (((i+runN (s.drop i):Nat):Int),h):=by
 unfold f66;rw [bAm hs h N i hi (by omega)];rfl
def rA2:List Bs:=[[102,110],[115,116,114,117,99,116],[112,117,98],[108,101,116],[109,117,116],[105,102],[101,108,115,101],[119,104,105,108,101],[108,111,111,112],[98,114,101,97,107],[99,111,110,116,105,110,117,101],[114,101,116,117,114,110],[100,114,111,112],[116,114,117,101],[102,97,108,115,101],[105,110,116],[98,111,111,108]]
def tA2 (t:Bs):List Bs->Bool
 | []=>false
 | w::r=>bif fB t w then true else tA2 t r
def isWord (t:Bs):Bool:=tA2 t rA2
theorem cAb (N:Nat) (t:Bs) (h:Heap):f172 N t h=some (isWord t,h):=by
 unfold f172 isWord rA2;simp only [tA2]
 repeat' (first | rfl | (generalize fB t _=b;cases b <;> simp only [cond_true,cond_false]))
theorem rA7 (a b:Bs):fB a b=fB b a:=by
 grind [uE,beq_eq_false_iff_ne]
theorem gAi {N:Nat} {t:Bs} {h:Heap} {A:Nat} {l:List Bs} (hg:h.is A (l.map AV.str)) (hl:l.length<=1000):∀ (M i:Nat),i<=l.length->l.length-i<M->
  jAf N M t false ⟨some (A,0),l.length,l.length,1⟩ (i:Int) h=bif tA2 t (l.drop i) then some (.ret,(true,()),h) else some (.exit 0,(false,()),h):=by
 intro M
 induction M with
 | zero=>intro i _ h;omega
 | succ M ih=>
  intro i hi hM;rw [uAa];unfold lA2;simp only [fF]
  by_cases q:i<l.length
  ·simp only [q,decide_true,cond_true]
   have e:=kAt (β:=Out×zC1×Heap) (A,0) l.length i 1;rw [show ((i:Nat):Int)=Int.ofNat i from rfl,kAt _ _ _ _ _ q];simp only [Nat.zero_add,Nat.mul_one];have hc:=hg.cell i;rw [List.drop_eq_getElem_cons (by simpa using q)] at hc;simp only [List.head?_cons,List.getElem_map] at hc;rw [hc];simp only [bA,kA];rw [List.drop_eq_getElem_cons q];simp only [tA2,rA7 t]
   cases hq:fB l[i] t with
   | true=>simp
   | false=>
    simp only [cond_false];rw [show Int.ofNat i=(i:Int) from rfl,aB (by omega)]
    grind
  ·simp only [q,decide_false,cond_false]
   rw [List.drop_of_length_le (by omega)];rfl
theorem gB2 {N:Nat} (hN:20<=N) (t:Bs) (h:Heap):f67 N t h=some (isWord t,h.push (.row (rA2.map AV.str) .own)):=by
 unfold f67
 have:=gAi (N:=N) (t:=t) (Heap.is_push h (rA2.map AV.str)) (by decide) N 0 (Nat.zero_le _) (by show 17-0<N;omega)
 have e:(h.push (.row (rA2.map AV.str) .own))=h.push (.row [(.str [102,110]),(.str [115,116,114,117,99,116]),(.str [112,117,98]),(.str [108,101,116]),(.str [109,117,116]),(.str [105,102]),(.str [101,108,115,101]),(.str [119,104,105,108,101]),(.str [108,111,111,112]),(.str [98,114,101,97,107]),(.str [99,111,110,116,105,110,117,101]),(.str [114,101,116,117,114,110]),(.str [100,114,111,112]),(.str [116,114,117,101]),(.str [102,97,108,115,101]),(.str [105,110,116]),(.str [98,111,111,108])] .own):=rfl;rw [<- e];dsimp only;rw [show (⟨some (h.next,0),17,17,1⟩:SL)=⟨some (h.next,0),rA2.length,rA2.length,1⟩ from rfl,show (0:Int)=((0:Nat):Int) from rfl,this,List.drop_zero];unfold isWord;cases tA2 t rA2 <;> rfl
end Qp
namespace Qp
end Qp
namespace Qp
theorem sub_eq (s:Bs) (i n:Nat):(s.take (i+n)).drop i=(s.drop i).take n:=by rw [List.drop_take];congr 1;omega
def yAq (p:UInt8->Bool):Bs->Bool
 | []=>false
 | c::_=>p c
def oD (t:Bs):Bool:=decide (1<=t.length)&&decide (t.length<=32)&&yAq pF t&&decide (runN t=t.length)
def eC (t:Bs):Bool:=oD t&&!isWord t
theorem iB2 {N:Nat} {t:Bs} (ht:t.length<=3000000) (hN:t.length<N) (h:Heap):f68 N t h=some (oD t,h):=by
 unfold f68;have e1:wB 1 (Int.ofNat t.length)=decide (1<=t.length):=by
  rw [leI];by_cases q:1<=t.length <;> simp [q] <;> omega
 have e2:wB (Int.ofNat t.length) 32=decide (t.length<=32):=by
  rw [leI];by_cases q:t.length<=32 <;> simp [q] <;> omega
 simp only [e1,e2]
 by_cases q1:1<=t.length
 ·by_cases q2:t.length<=32
  ·simp only [q1,q2,decide_true,cond_true]
   have h0:0<t.length:=q1;rw [show (0:Int)=((0:Nat):Int) from rfl,uW h0,qAt,aA]
   cases t with
   | nil=>simp at h0
   | cons c r=>
    simp only [List.getElem_cons_zero]
    cases hl:pF c with
    | false=>simp [oD,yAq,hl]
    | true=>
     simp only [cond_true];rw [fB2 ht hN (Nat.zero_le _),aA];simp only [Nat.zero_add,List.drop_zero];have e3:eA ((runN (c::r):Nat):Int) (Int.ofNat (c::r).length)=decide (runN (c::r)=(c::r).length):=by
      rw [eqI];by_cases q:runN (c::r)=(c::r).length
      ·simp only [q,decide_true];simp
      ·simp only [q,decide_false];simp;simp at q;omega
     rw [e3];simp only [oD,yAq,hl,q1,q2,decide_true,Bool.true_and]
  ·simp only [q1,q2,decide_true,decide_false,cond_true,cond_false,oD,Bool.true_and,Bool.false_and]
 ·simp only [q1,decide_false,cond_false,oD,Bool.false_and]
def mBc:Bs->Nat->Nat
 | [],v=>v
 | c::r,v=>mBc r (v * 10+(c.toNat-48))
def oB9 (t:Bs):Bool:=t.all vW&&Nat.ble (mBc t 0) 2147483647&&!(decide (1<t.length)&&yAq (fun c=>decide (c.toNat=48)) t)
section
variable {N:Nat} {s:Bs} (hs:s.length<=3000000) (hN:s.length<N) {i:Nat}
include hs hN
end
end Qp
namespace Qp
def two:List Bs:=[[58,58],[45,62],[61,61]]
def lBd:Bs:=[40,41,123,125,60,62,44,59,58,46,42,38,43,45,61,33]
def nBc (c:UInt8):Bs->Bool
 | []=>false
 | x::r=>bif Nat.beq x.toNat c.toNat then true else nBc c r
section
variable {N:Nat} {s:Bs}
end
end Qp
namespace Qp
theorem lL (a b:Nat):wB (a:Int) (b:Int)=decide (a<=b):=by
 rw [leI];by_cases q:a<=b <;> simp [q] <;> omega
section
variable {N:Nat} {s:Bs}
end
end Qp
namespace Qp
abbrev Tok:=Int×Bs×Nat
def oBc (q:Tok):D:=.t [.i q.1,.s q.2.1,.i (q.2.2:Int)]
def FaultAt (h:Heap) (v:AV) (c a:Int):Prop:=∃ A,v=AV.iface 127 (.ptr (some (A,0)))/\h.own A [.int .i64 c,.int .i64 a,AV.iface 78 (.int .i64 c)]
theorem FaultAt.chg {h h':Heap} {v:AV} {c a:Int} (x:FaultAt h v c a) (y:Chg [] h h'):FaultAt h' v c a:=by
 obtain ⟨A,h1,h2⟩:=x;exact ⟨A,h1,h2.chg y (by simp)⟩
theorem cAm (N:Nat) {c:Int} (hc:c≠0) (a:Int) (h:Heap):∃ v h',f37 N c a h=some (v,h')/\Chg [] h h'/\FaultAt h' v c a:=by
 unfold f37
 have:eA c 0=false:=by rw [eqI];simpa using hc
 simp only [this,cond_false];exact ⟨_,_,rfl,tA _ _,h.next,rfl,wA h _⟩
section
variable {N:Nat} {s:Bs}
end
end Qp
namespace Qp
section
variable {s:Bs} {i:Nat}
end
end Qp
namespace Qp
section
variable {N:Nat} {s:Bs}
end
end Qp
namespace Qp
def jB2 (x:Bs):Bool:=(match x with | [c]=>nBc c lBd | _=>false)||tA2 x two
structure TokOK (q:Tok):Prop where
 word:q.1=2->isWord q.2.1=true
 sign:q.1=5->jB2 q.2.1=true
 len:q.2.1.length<=3000000
 num:q.1=4->oB9 q.2.1=true/\0<q.2.1.length
 name:q.1=1->eC q.2.1=true
 life:q.1=3->oD q.2.1=true
structure Toks (T:List Tok):Prop where
 ok:∀ q∈T,TokOK q
 ends:∀ (i:Nat) (hi:i<T.length),(T[i]).1≠0->i+1<T.length
 len:T.length<=2000000
def tk (T:List Tok) (i:Nat):Tok:=T.getD i (0,[],0)
abbrev Er:=Option (Int×Int)
abbrev St:=Nat×Er
def isS (T:List Tok) (w:Bs) (i:Nat):Bool:=decide ((tk T i).1=2\/(tk T i).1=5)&&fB (tk T i).2.1 w
def mBd (h:Heap) (P:Nat) (X:List Nat) (v:AV):Er->Prop
 | none=>v=AV.nilIface
 | some (c,a)=>∃ A,v=AV.iface 127 (.ptr (some (A,0)))/\(A≠P/\A ∉ X)/\h.own A [.int .i64 c,.int .i64 a,AV.iface 78 (.int .i64 c)]
structure PA (T:List Tok) (P:Nat) (X:List Nat) (h:Heap) (σ:St) (st:Int):Prop where
 ex:∃ s v,h.own P [SL.av s,.int .i64 (σ.1:Int),.int .i64 st,v]/\Sl h (fun C=>C<P) s (T.map oBc)/\(s.sz=3)/\mBd h P X v σ.2
 lt:σ.1<T.length
 xl:∀ A∈X,P<A/\A<h.next
section
variable {T:List Tok} {P:Nat} {X:List Nat} {h h':Heap} {σ:St} {st:Int}
end
theorem eq_nil (k:Nat):oA9 E .eql 29 (.tmp k) (.const .nilIface) AV.nilIface AV.nilIface=some (.bool true):=by kernel_rfl
theorem aAr (k:Nat) (v:AV):oA9 E .eql 29 (.tmp k) (.const .nilIface) (AV.iface 127 v) AV.nilIface=some (.bool false):=by kernel_rfl
section
variable {N:Nat} {T:List Tok} {P:Nat} {X:List Nat} {h:Heap} {σ:St} {st:Int}
end
end Qp
namespace Qp
theorem eqB {a b:Bs}:fB a b=true↔a=b:=by rw [uE,beq_iff_eq]
section
variable {N:Nat} {T:List Tok} {P:Nat} {X:List Nat} {h:Heap} {σ:St} {st:Int}
theorem yA {a b:Bs} (h:a.length+b.length<=1099511627776):rA .add a b=some (.str (a++b)):=by
 have:Nat.ble (a.length+b.length) 1099511627776=true:=by rw [Nat.ble_eq];exact h
 simp only [rA,this,cond_true]
end
end Qp
namespace Qp
theorem kB2:AppN E 38 9 1 100:=AppN.of (by kernel_rfl)
theorem mAf (h:Heap) (V:Nat->Prop) (x:Bs):Dt h V (.s x) [.str x]:=by simp only [Dt]
section
variable {N:Nat} {T:List Tok} {P:Nat} {X:List Nat} {st:Int}
end
end Qp
namespace Qp
abbrev TyV:=Int×zQ2×SL×SL×Unit
abbrev sl0:SL:=⟨none,0,0,0⟩
def tyc (r:TyV):List AV:=[.int .i64 r.1,.str r.2.1,SL.av r.2.2.1,SL.av r.2.2.2.1]
def tyD (k:Int) (x:Bs) (lv:List Bs) (el:List D):D:=.t [.i k,.s x,.l (lv.map D.s),.l el]
theorem qF {h:Heap} {V:Nat->Prop} {k:Int} {x:Bs} {lv:List Bs} {el:List D} {cs:List AV}:Dt h V (tyD k x lv el) cs↔∃ s1 s2,cs=tyc (k,x,s1,s2,())/\Sl h V s1 (lv.map D.s)/\Sl h V s2 el:=by
 simp only [tyD,Dt,Dp];constructor
 ·rintro ⟨a,b,rfl,rfl,a2,b2,rfl,rfl,a3,b3,rfl,⟨s1,v1,rfl,p1,p2,p3,p4,p5⟩,a4,b4,rfl,⟨s2,v2,rfl,q1,q2,q3,q4,q5⟩,rfl⟩
  exact ⟨s1,s2,rfl,⟨p1,p2,p3,v1,p4,p5⟩,⟨q1,q2,q3,v2,q4,q5⟩⟩
 ·rintro ⟨s1,s2,rfl,⟨p1,p2,p3,v1,p4,p5⟩,⟨q1,q2,q3,v2,q4,q5⟩⟩
  exact ⟨[_],_,rfl,rfl,[_],_,rfl,rfl,[_],_,rfl,⟨s1,v1,rfl,p1,p2,p3,p4,p5⟩,[_],[],rfl,⟨s2,v2,rfl,q1,q2,q3,q4,q5⟩,rfl⟩
theorem dAm (h:Heap) (V:Nat->Prop) (k:Int) (x:Bs):Dt h V (tyD k x [] []) (tyc (k,x,sl0,sl0,())):=qF.2 ⟨sl0,sl0,rfl,Sl.nil _ _ _,Sl.nil _ _ _⟩
theorem vJ {β:Type} (r:TyV) (K:TyV->Option β):dA (.val zE) (some (.agg (tyc r))) K=K r:=by
 obtain ⟨k,x,s1,s2,_⟩:=r;simp [tyc,SL.av]
section
variable {N:Nat} {T:List Tok} {P:Nat} {X:List Nat} {st:Int} {h:Heap} {σ:St}
end
end Qp
namespace Qp
abbrev zt:List AV:=tyc (0,[],sl0,sl0,())
section
variable {N:Nat} {T:List Tok} {P:Nat} {st:Int}
end
end Qp
namespace Qp
structure PB (T:List Tok) (P:Nat) (h:Heap) (σ:St) (it st:Int):Prop where
 ex:∃ s c a,h.own P [SL.av s,.int .i64 (σ.1:Int),.int .i64 c,.int .i64 a,.int .i64 it,.int .i64 st]/\Sl h (fun C=>C<P) s (T.map oBc)/\(s.sz=3)/\(match σ.2 with
  | none=>c=0
  | some (c',a')=>c=c'/\a=a'/\c'≠0)
 lt:σ.1<T.length
section
variable {N:Nat} {T:List Tok} {P:Nat} {h h':Heap} {σ:St} {it st:Int}
end
end Qp
namespace Qp
section
variable {N:Nat} {T:List Tok} {P:Nat} {h h':Heap} {σ:St} {it st:Int}
end
end Qp
namespace Qp
section
variable {N:Nat} {T:List Tok} {P:Nat} {it st:Int} {h:Heap} {σ:St}
end
end Qp
namespace Qp
def nBd (h:Heap) (v:AV):Er->Prop
 | none=>v=AV.nilIface
 | some (c,a)=>FaultAt h v c a
section
variable {N:Nat} {s:Bs}
end
end Qp
namespace Qp
def oBd (r:Int×Int×Unit):Er->Prop
 | none=>r.1=0/\r.2.1=0
 | some (c,a)=>r.1=c/\r.2.1=a
section
variable {N:Nat} {s:Bs}
end
end Qp
namespace Qp
def isTy:Nat->D->Prop
 | 0,_=>False
 | m+1,d=>∃ k x lv el,d=tyD k x lv el/\lv.length<=1000/\el.length<=1000/\∀ e∈el,isTy m e
theorem isTy.up:∀ {m:Nat} {d:D},isTy m d->∀ {m':Nat},m<=m'->isTy m' d
 | m+1,d,⟨k,x,lv,el,h1,h2,h3,h4⟩,m'+1,hm=>⟨k,x,lv,el,h1,h2,h3,fun e he=>(h4 e he).up (Nat.le_of_succ_le_succ hm)⟩
section
variable {N:Nat} {h h':Heap} {V W:Nat->Prop}
theorem vE {s:SL} {xs:List Bs} (x:Sl h V s (xs.map D.s)) {i:Nat} (hi:i<xs.length):h.cell (s.at i 1)=some (.str xs[i]):=by
 obtain ⟨cs,e⟩:=x.elt (i:=i) (by rw [List.length_map];exact hi);have hd:=e.dt;rw [List.getElem_map] at hd;simp only [Dt] at hd;have hl:=e.len;rw [hd] at hl;have hz:s.sz=1:=by simpa using hl.symm
 have:=e.cell 0 (by omega)
 rw [hz,hd] at this;simpa using this
theorem bAr {β:Type} (p:zJ2) (K:zY->Option β):dA (.tup [zK2,zN2]) (cJ E (.iface 127 (.ptr p)) 127 true) K=K (p,true,()):=by
 have:cJ E (.iface 127 (.ptr p)) 127 true=some (cA6 true (.ptr p)):=by kernel_rfl
 rw [this];rfl
theorem cAr {β:Type} (c:Int) (K:zY->Option β):dA (.tup [zK2,zN2]) (cJ E (.iface 78 (.int .i64 c)) 127 true) K=K (none,false,()):=by
 have:cJ E (.iface 78 (.int .i64 c)) 127 true=yR E 127 true:=by kernel_rfl
 rw [this]
 have:yR E 127 true=some (.tuple [.ptr none,.bool false]):=by kernel_rfl
 rw [this];rfl
theorem eAm {v:AV} {e:Er} (x:nBd h v e) {r:Int×Int×Unit} (y:oBd r e) (hN:10<=N):f18 N v r.1 r.2.1 h=some (true,h):=by
 unfold f18 f29
 cases e with
 | none=>
  rw [show v=AV.nilIface from x,eq_nil,y.1,y.2];rfl
 | some q=>
  obtain ⟨c,a⟩:=q;obtain ⟨F,f1,f2⟩:=x;obtain ⟨y1,y2⟩:=y;rw [f1,aAr];simp only [bA,uB,cond_false];rw [bAr];have k0:h.cell (F,0)=some (.int .i64 c):=f2.cell 0;have k1:h.cell (F,1)=some (.int .i64 a):=f2.cell 1;have k2:h.cell (F,2)=some (AV.iface 78 (.int .i64 c)):=f2.cell 2;simp only [Bool.not_true,cond_false,Option.isNone_some,fA,Nat.add_zero,Nat.zero_add,k0,k1,bA,vA];obtain ⟨N,rfl⟩:∃ m,N=m+1:=⟨N-1,by omega⟩;rw [yAa];unfold oA2;rw [show ltInt 0 200=true from rfl];simp only [cond_true,fA,Nat.zero_add,k2,bA,pAq];rw [cAr];simp only [Bool.not_false,cond_true,kB,aA];have z1:eA c r.1=true:=by rw [y1,eqI];simp
  have z2:eA a r.2.1=true:=by rw [y2,eqI];simp
  simp only [z1,z2,cond_true]
end
end Qp
namespace Qp
end Qp
namespace Qz
open Qa
end Qz
namespace Qw
open Go.RowKit Go.Stop
open Ai Qa
def pBd:Ai.Loc:=⟨3,0,1,false⟩
def sen:AV:=.iface 275 (.ptr (some (3,0)))
def pinned (h:Heap):Bool:=Qx.pinned h&&iA2 2 pBd h.pins&&rAq (h.t.get 2) [sen]
end Qw
namespace Qp
end Qp
namespace Qp
end Qp
namespace Qp
structure PC (T:List Tok) (P:Nat) (X:List Nat) (h:Heap) (σ:St) (st:Int):Prop where
 pa:PA T P X h σ st
 pin:Qw.pinned h=true
 p4:4<=P
section
variable {N:Nat} {T:List Tok} {P:Nat} {X X':List Nat} {h h':Heap} {σ σ':St} {st st':Int}
end
end Qp
namespace Qp
abbrev FdV:=Bool×zQ2×Int×zQ2×SL×SL×Unit
def fdc (x:FdV):List AV:=[.bool x.1,.str x.2.1,.int .i64 x.2.2.1,.str x.2.2.2.1,SL.av x.2.2.2.2.1,SL.av x.2.2.2.2.2.1]
abbrev fd0:FdV:=(false,[],0,[],sl0,sl0,())
def pBc (m:Bool) (nm:Bs) (r:TyV):FdV:=(m,nm,r.1,r.2.1,r.2.2.1,r.2.2.2.1,())
theorem lB2 {β:Type} (r:FdV) (K:FdV->Option β):dA (.val zM) (some (.agg (fdc r))) K=K r:=by
 obtain ⟨m,n,k,x,s1,s2,_⟩:=r;simp [fdc,SL.av]
def fdD (m:Bool) (nm:Bs) (ty:D):D:=.t [.b m,.s nm,ty]
theorem pB9 (h:Heap) (V:Nat->Prop) (x:Bool):Dt h V (.b x) [.bool x]:=by simp only [Dt]
theorem oAw (h:Heap) (V:Nat->Prop) (x:Int):Dt h V (.i x) [.int .i64 x]:=by simp only [Dt]
theorem fAm (h:Heap) (V:Nat->Prop):Dp h V [] []:=by simp only [Dp]
theorem oG {h:Heap} {V:Nat->Prop} {d:D} {r:List D} {a b:List AV} (x:Dt h V d a) (y:Dp h V r b):Dp h V (d::r) (a++b):=by
 simp only [Dp];exact ⟨a,b,rfl,x,y⟩
theorem mB2 {h:Heap} {V:Nat->Prop} {ds:List D} {cs:List AV} (x:Dp h V ds cs):Dt h V (.t ds) cs:=by simp only [Dt];exact x
section
variable {N:Nat} {T:List Tok} {P:Nat} {X:List Nat} {st:Int} {h:Heap} {σ:St}
end
end Qp
namespace Qp
structure CF (P:Nat) (X:List Nat) (h0:Heap) (O Q n j:Nat) (row:SL->List AV):Prop where
 o:P<O/\O<h0.next
 q:Q≠P/\Q≠O/\Q<h0.next
 x:O∈X
 rj:∀ v,(row v)[j]? = some (SL.av v)
 rs:∀ v v',(row v).set j (SL.av v')=row v'
structure CI (T:List Tok) (P:Nat) (X:List Nat) (st:Int) (h0:Heap) (O Q n:Nat) (row:SL->List AV) (h:Heap) (xs:List D) (σ:St):Prop where
 pc:PC T P X h σ st
 chg:Chg [P,O] h0 h
 q:h.own Q [.ptr (some (P,0))]
 ex:∃ v,h.own O (row v)/\Ow h0.next h v n xs
section
variable {T:List Tok} {P:Nat} {X:List Nat} {st:Int} {h0 h h' h6:Heap} {O Q n j:Nat} {row:SL->List AV} {xs:List D} {σ σ':St}
end
abbrev StV:=Bool×zQ2×SL×SL×Int×Unit
def stc (x:StV):List AV:=[.bool x.1,.str x.2.1,SL.av x.2.2.1,SL.av x.2.2.2.1,.int .i64 x.2.2.2.2.1]
abbrev st0:StV:=(false,[],sl0,sl0,0,())
theorem pAw {β:Type} (r:StV) (K:StV->Option β):dA (.val zK) (some (.agg (stc r))) K=K r:=by
 obtain ⟨m,n,s1,s2,k,_⟩:=r;simp [stc,SL.av]
def dAb (pub:Bool) (nm:Bs) (lv:List Bs) (fs:List D) (at_:Int):D:=.t [.b pub,.s nm,.l (lv.map D.s),.l fs,.i at_]
section
variable {N:Nat} {T:List Tok} {P:Nat} {X:List Nat} {st:Int} {h:Heap} {σ:St}
end
end Qp
namespace Qp
abbrev LfV:=zQ2×SL×Unit
def lfc (x:LfV):List AV:=[.str x.1,SL.av x.2.1]
abbrev lf0:LfV:=([],sl0,())
theorem jH {β:Type} (r:LfV) (K:LfV->Option β):dA (.val zG) (some (.agg (lfc r))) K=K r:=by
 obtain ⟨n,s,_⟩:=r;simp [lfc,SL.av]
def gD (nm:Bs) (l:List D):D:=.t [.s nm,.l l]
theorem eAb {h:Heap} {V:Nat->Prop} {nm:Bs} {l:List D} {s:SL} (x:Sl h V s l):Dt h V (gD nm l) (lfc (nm,s,())):=
 mB2 (oG (a:=[_]) (mAf h V nm) (oG (a:=[_]) (b:=[]) (oT.2 x) (fAm h V)))
section
variable {N:Nat} {T:List Tok} {P:Nat} {X:List Nat} {st:Int} {h:Heap} {σ:St}
end
end Qp
namespace Qp
def pl0:D:=gD [] []
def opD (k n:Int) (pl:D):D:=.t [.i k,.i n,pl]
def op0:D:=opD 0 0 pl0
section
variable {N:Nat} {T:List Tok} {P:Nat} {X:List Nat} {st:Int} {h:Heap} {σ:St}
abbrev OpV:=Int×Int×zQ2×SL×Unit
def opc (x:OpV):List AV:=[.int .i64 x.1,.int .i64 x.2.1,.str x.2.2.1,SL.av x.2.2.2.1]
theorem dH {β:Type} (r:OpV) (K:OpV->Option β):dA (.val zD) (some (.agg (opc r))) K=K r:=by
 obtain ⟨k,n,x,s,_⟩:=r;simp [opc,SL.av]
theorem qB9 {h:Heap} {V:Nat->Prop} {k n:Int} {pl:D} {p:LfV} (x:Dt h V pl (lfc p)):Dt h V (opD k n pl) (opc (k,n,p.1,p.2.1,())):=
 mB2 (oG (a:=[_]) (oAw h V k) (oG (a:=[_]) (oAw h V n) (oG (a:=lfc p) (b:=[]) x (fAm h V))))
theorem wW (h:Heap) (V:Nat->Prop):Dt h V pl0 (lfc lf0):=eAb (Sl.nil _ _ _)
end
end Qp
namespace Ai
def OwV (V:Nat->Prop) (h:Heap) (s:SL) (n:Nat) (xs:List D):Prop:=
 (s.a=none/\s.len=0/\s.cap=0/\xs=[])\/
 ∃ A cs st vs,s.a=some (A,0)/\s.sz=n/\V A/\A<h.next/\h.g A=some (.row cs st)/\s.len=xs.length/\cs.take vs.length=vs/\De h (fun C=>V C/\C≠A) n xs vs/\s.len<=s.cap/\(st=.grown\/(st=.own/\s.cap * n=cs.length))
section
variable {E:Env} {V:Nat->Prop} {h h':Heap} {s:SL} {n:Nat} {xs:List D} {M:List Nat}
theorem OwV.nil (V:Nat->Prop) (h:Heap) (z n:Nat):OwV V h ⟨none,0,0,z⟩ n []:=.inl ⟨rfl,rfl,rfl,rfl⟩
theorem OwV.len (x:OwV V h s n xs):s.len=xs.length:=by
 rcases x with ⟨_,h1,_,rfl⟩ | ⟨A,cs,st,vs,_,_,_,_,_,h1,_⟩
 ·exact h1
 ·exact h1
theorem OwV.ge (x:OwV V h s n xs):∀ A,s.blk=some A->V A/\A<h.next:=by
 intro A hA;rcases x with ⟨h1,_⟩ | ⟨A',cs,st,vs,h1,_,h3,h4,_⟩
 ·simp [SL.blk,h1] at hA
 grind [SL.blk]
theorem OwV.sl (x:OwV V h s n xs):Sl h V s xs:=by
 rcases x with ⟨h1,h2,h3,rfl⟩ | ⟨A,cs,st,vs,h1,h2,h3,h4,h5,h6,h7,h8,h9,h10⟩
 ·exact ⟨h2,by omega,fun A hA=>by simp [SL.blk,h1] at hA,[],⟨by simp [h2],fun _=>h2,fun A off ha=>by rw [h1] at ha;cases ha⟩,by simp [De]⟩
 ·refine ⟨h6,h9,fun C hC=>?_,vs,⟨?_,fun ha=>(by rw [h1] at ha;cases ha),fun A' off ha=>?_⟩,?_⟩
  ·grind [SL.blk]
  ·rw [h8.length,h6,h2]
  ·rw [h1] at ha
   simp only [Option.some.injEq,Prod.mk.injEq] at ha;obtain ⟨rfl,rfl⟩:=ha;refine ⟨h4,cs,?_,by grind⟩;rw [h5];rcases h10 with rfl | ⟨rfl,_⟩ <;> rfl
  grind [De.weak]
theorem OwV.chg (x:OwV V h s n xs) (c:Chg M h h') (hM:∀ A,V A->A<h.next->A ∉ M):OwV V h' s n xs:=by
 rcases x with h1 | ⟨A,cs,st,vs,h1,h2,h3,h4,h5,h6,h7,h8,h9⟩
 ·exact .inl h1
 ·refine .inr ⟨A,cs,st,vs,h1,h2,h3,Nat.lt_of_lt_of_le h4 c.next,by rw [c.g A h4 (hM A h3 h4)];exact h5,h6,h7,?_,h9⟩
  have h8':De h (fun C=>(V C/\C≠A)/\C<h.next) n xs vs:=De.weak (fun C hC hl=>⟨hC,hl⟩) h8;exact De.weak (fun C hC _=>hC.1) (De.chg c (fun C hC=>hM C hC.1.1 hC.2) h8')
theorem iAi {st e:TypeId} {W:Nat} (ha:AppN E st e n W) (hn:0<n) (x:OwV V h s n xs) {d:D} {cs:List AV} (hd:Dt h (fun C=>V C/\s.blk≠some C) d cs) (hcs:cs.length=n) (hB:∀ A,h.next<=A->V A) (hl:(xs.length+1) * W<=1073741824) :
  ∃ s' h',dD E st st (.slice s.a s.len s.cap s.sz) (.slice (some (h.next,0)) 1 1 n) (h.push (.row cs .own))=some (.slice s'.a s'.len s'.cap s'.sz,h')/\OwV V h' s' n (xs++[d])/\Chg (s.blk.toList) h h'/\(∀ A,s'.blk=some A->s.blk=some A\/h.next<=A):=by
 obtain ⟨hu,⟨i,hi,hi1,hi2⟩,⟨z,hz,hz1⟩⟩:=ha;have hr:(h.push (.row cs .own)).read h.next 0 (1 * n)=some cs:=by
  have:(h.push (.row cs .own)).row h.next=some cs:=(Heap.is_push h cs).row
  simp only [Heap.read,this,List.drop_zero,Nat.one_mul]
  grind [iH,List.take_of_length_le]
 have hlen:=x.len;have hroom:Nat.ble ((s.len+1) * (i.bytes+i.size+1)) oA1=true:=by
  have h1:(s.len+1) * (i.bytes+i.size+1)<=(xs.length+1) * W:=Nat.mul_le_mul (by omega) (by omega);simp only [oA1,Nat.ble_eq];omega
 have hsz:(Nat.beq s.sz i.size||s.a.isNone)=true:=by
  rcases x with ⟨h1,_⟩ | ⟨A,cs,st',vs,h1,h2,_⟩
  ·simp [h1]
  ·simp [hi1,h2]
 have hall:cs.all AV.single=true:=by rw [List.all_eq_true];exact hd.single
 have key:∀ K,fO (h.push (.row cs .own)) s.a s.len s.cap n 1 cs=K->dD E st st (.slice s.a s.len s.cap s.sz) (.slice (some (h.next,0)) 1 1 n) (h.push (.row cs .own))=K:=by
  intro K hK;have hz2:Nat.beq z.cells.length i.size=true:=by simp_all
  have hnl:Nat.beq cs.length (1 * i.size)=true:=by grind
  simp only [dD,hu,yO,dV,cond_false,hi,hz,jL,wC];rw [hi1] at hroom hsz hz2 hnl ⊢;simp only [hr,show Nat.beq 1 0=false from rfl,cond_false,hroom,hsz,hz2,hnl,hall,Bool.and_self,cond_true];exact hK
 have hd0:Dt h (fun C=>(V C/\s.blk≠some C)/\C<h.next) d cs:=hd.weak fun C hC hl=>⟨hC,hl⟩;rcases x with ⟨h1,h2,h3,rfl⟩ | ⟨A,bs,st',vs,h1,h2,h3,h4,h5,h6,h7,h8,h9,h10⟩
 ·have c0:Chg [] h ((h.push (.row cs .own)).push (.row cs .grown)):=((Chg.refl [] h).push _).push _
  refine ⟨⟨some (h.next+1,0),1,1,n⟩,(h.push (.row cs .own)).push (.row cs .grown),key _ (by simp only [fO,h1,h2];rfl),.inr ⟨h.next+1,cs,.grown,cs,rfl,rfl,hB _ (by omega),by simp,aH _ rfl,rfl,by simp,?_,Nat.le_refl _,.inl rfl⟩,c0.mono (by simp),fun A hA=>.inr (by simp [SL.blk] at hA;omega)⟩;simp only [List.nil_append,De];exact ⟨cs,[],by simp,hcs,Dt.weak (fun C hC _=>⟨hC.1.1,by omega⟩) (Dt.chg c0 (by simp) hd0),rfl⟩
 ·have hvl:=h8.length
  have hbl:s.blk=some A:=by simp [SL.blk,h1]
  have hcl:vs.length<=bs.length:=by
   grind
  have hg:(h.push (.row cs .own)).t.get A=some (.row bs st'):=by
   have:=uP (h:=h) (A:=A) (.row cs .own) (by omega)
   grind [Heap.g]
  have h8':De h (fun C=>(V C/\C≠A)/\C<h.next) n xs vs:=De.weak (fun C hC hl=>⟨hC,hl⟩) h8;have hd':Dt h (fun C=>(V C/\C≠A)/\C<h.next) d cs:=Dt.weak (fun C hC hl=>⟨⟨hC.1,fun e=>hC.2 (by rw [hbl,e])⟩,hl⟩) hd;have hall2:=h8'.snoc hd' hcs;have htk:takeN (s.len * n) bs=some vs:=by grind [iH]
  have fresh:∀ H:Heap,H.next=h.next+1->Chg [A] h H->OwV V (H.push (.row (vs++cs) .grown)) ⟨some (h.next+1,0),s.len+1,s.len+1,n⟩ n (xs++[d]):=by
   intro H hH cH;refine .inr ⟨h.next+1,vs++cs,.grown,vs++cs,rfl,rfl,hB _ (by omega),by simp [hH],aH _ hH.symm,by simp [h6],List.take_of_length_le (Nat.le_refl _),?_,Nat.le_refl _,.inl rfl⟩;exact De.weak (fun C hC _=>⟨hC.1.1,by omega⟩) (De.chg (cH.push _) (fun C hC=>by simp;exact hC.1.2) hall2)
  rcases h10 with rfl | ⟨rfl,h10⟩
  ·have cH:Chg [A] h ((h.push (.row cs .own)).put A (.row bs .dead)):=((Chg.refl [A] h).push _).put (.inl (by simp)) _
   refine ⟨⟨some (h.next+1,0),s.len+1,s.len+1,n⟩,((h.push (.row cs .own)).put A (.row bs .dead)).push (.row (vs++cs) .grown),key _ ?_,fresh _ rfl cH,(cH.push _).mono (by simp [hbl]),fun C hC=>.inr (by simp [SL.blk] at hC;omega)⟩;simp only [fO,h1,hg,List.drop_zero,htk];rfl
  ·by_cases hc:s.len+1<=s.cap
   ·have hb1:Nat.ble (s.len+1) s.cap=true:=by simpa using hc
    have hroom2:s.len * n+cs.length<=bs.length:=by
     rw [hcs,<- Nat.succ_mul,<- h10];exact Nat.mul_le_mul_right _ hc
    have hov:=rAa bs cs (s.len * n) hroom2;have cH:Chg [A] h ((h.push (.row cs .own)).put A (.row (bs.take (s.len * n)++cs++bs.drop (s.len * n+cs.length)) .own)):=((Chg.refl [A] h).push _).put (.inl (by simp)) _;have e1:bs.take (s.len * n)=vs:=by rw [h6,<- hvl,h7]
    refine ⟨⟨some (A,0),s.len+1,s.cap,n⟩,_,key _ ?_,.inr ⟨A,_,.own,vs++cs,rfl,rfl,h3,by simp;omega,vP _ rfl,by simp [h6],?_,?_,hc,.inr ⟨rfl,?_⟩⟩,cH.mono (by simp [hbl]),fun C hC=>.inl (by simp [SL.blk] at hC;rw [hbl,hC])⟩
    ·simp only [fO,h1,hg,List.drop_zero,htk,hb1,cond_true,Nat.zero_add,hov]
    ·grind
    ·exact De.weak (fun C hC _=>hC.1) (De.chg cH (fun C hC=>by simp;exact hC.1.2) hall2)
    grind
   ·have hb1:Nat.ble (s.len+1) s.cap=false:=by
     cases hx:Nat.ble (s.len+1) s.cap with
     | false=>rfl
     | true=>exact absurd (by simpa using hx) hc
    have cH:Chg [A] h (h.push (.row cs .own)):=(Chg.refl [A] h).push _;refine ⟨⟨some (h.next+1,0),s.len+1,s.len+1,n⟩,(h.push (.row cs .own)).push (.row (vs++cs) .grown),key _ ?_,fresh _ rfl cH,(cH.push _).mono (by simp [hbl]),fun C hC=>.inr (by simp [SL.blk] at hC;omega)⟩;simp only [fO,h1,hg,List.drop_zero,htk,hb1,cond_false];rfl
end
end Ai
namespace Qp
section
variable {T:List Tok} {P:Nat} {X:List Nat} {st:Int} {h0 h h' h6:Heap} {O Q n j:Nat} {row:SL->List AV} {xs:List D} {σ σ':St}
end
def d1:D->D | .t (a::_)=>a | _=>.i 0
def d2:D->D | .t (_::b::_)=>b | _=>.i 0
structure CVI (T:List Tok) (P:Nat) (X:List Nat) (st:Int) (h0:Heap) (O Q V off n:Nat) (row:SL->List AV) (h:Heap) (xs:List D) (σ:St):Prop where
 ci:CI T P X st h0 O Q n row h xs σ
 v:h.own V [.ptr (some (O,off))]
section
variable {N:Nat} {T:List Tok} {P:Nat} {X:List Nat} {st:Int} {h:Heap} {σ:St}
end
end Qp
namespace Qp
structure MF (P:Nat) (X:List Nat) (h0:Heap) (O Q V off:Nat) (row:SL->SL->List AV):Prop where
 o:P<O/\O<h0.next
 q:Q≠P/\Q≠O/\Q<h0.next
 v:V≠P/\V≠O/\V<h0.next
 x:O∈X
 rj:∀ v w,(row v w)[off+13]? = some (SL.av v)
 rk:∀ v w,(row v w)[off+14]? = some (SL.av w)
 rs:∀ v w v',(row v w).set (off+13) (SL.av v')=row v' w
 rt:∀ v w w',(row v w).set (off+14) (SL.av w')=row v w'
structure MI (T:List Tok) (P:Nat) (X:List Nat) (st:Int) (h0:Heap) (O Q V off:Nat) (row:SL->SL->List AV) (h:Heap) (zs:List D) (σ:St):Prop where
 pc:PC T P X h σ st
 chg:Chg [P,O] h0 h
 q:h.own Q [.ptr (some (P,0))]
 v:h.own V [.ptr (some (O,off))]
 ex:∃ v w,h.own O (row v w)/\OwV (fun C=>h0.next<=C/\w.blk≠some C) h v 1 (zs.map d1)/\OwV (fun C=>h0.next<=C/\v.blk≠some C) h w 4 (zs.map d2)
section
variable {N:Nat} {T:List Tok} {P:Nat} {X:List Nat} {st:Int} {h0 h h':Heap} {O Q V off:Nat} {row:SL->SL->List AV} {zs:List D} {σ σ':St}
end
end Qp
namespace Qp
abbrev VaV:=Int×Int×Int×zQ2×SL×Int×Int×zQ2×SL×Int×zQ2×SL×zQ2×SL×SL×Unit
def vac (x:VaV):List AV:=[.int .i64 x.1,.int .i64 x.2.1,.int .i64 x.2.2.1,.str x.2.2.2.1,.slice x.2.2.2.2.1.a x.2.2.2.2.1.len x.2.2.2.2.1.cap x.2.2.2.2.1.sz,.int .i64 x.2.2.2.2.2.1,.int .i64 x.2.2.2.2.2.2.1,.str x.2.2.2.2.2.2.2.1,.slice x.2.2.2.2.2.2.2.2.1.a x.2.2.2.2.2.2.2.2.1.len x.2.2.2.2.2.2.2.2.1.cap x.2.2.2.2.2.2.2.2.1.sz,.int .i64 x.2.2.2.2.2.2.2.2.2.1,.str x.2.2.2.2.2.2.2.2.2.2.1,.slice x.2.2.2.2.2.2.2.2.2.2.2.1.a x.2.2.2.2.2.2.2.2.2.2.2.1.len x.2.2.2.2.2.2.2.2.2.2.2.1.cap x.2.2.2.2.2.2.2.2.2.2.2.1.sz,.str x.2.2.2.2.2.2.2.2.2.2.2.2.1,.slice x.2.2.2.2.2.2.2.2.2.2.2.2.2.1.a x.2.2.2.2.2.2.2.2.2.2.2.2.2.1.len x.2.2.2.2.2.2.2.2.2.2.2.2.2.1.cap x.2.2.2.2.2.2.2.2.2.2.2.2.2.1.sz,.slice x.2.2.2.2.2.2.2.2.2.2.2.2.2.2.1.a x.2.2.2.2.2.2.2.2.2.2.2.2.2.2.1.len x.2.2.2.2.2.2.2.2.2.2.2.2.2.2.1.cap x.2.2.2.2.2.2.2.2.2.2.2.2.2.2.1.sz]
abbrev dF:OpV:=(0,0,[],sl0,())
def kE (k:Int) (a b:OpV) (op:Int) (pl:LfV) (nm:Bs) (ns ag:SL):VaV:=(k,a.1,a.2.1,a.2.2.1,a.2.2.2.1,b.1,b.2.1,b.2.2.1,b.2.2.2.1,op,pl.1,pl.2.1,nm,ns,ag,())
abbrev va0:VaV:=kE 0 dF dF 0 lf0 [] sl0 sl0
def vaD (k:Int) (a b:D) (op:Int) (pl:D) (nm:Bs) (ns ag:List D):D:=.t [.i k,a,b,.i op,pl,.s nm,.l ns,.l ag]
theorem pN {β:Type} (r:VaV) (K:VaV->Option β):dA (.val zC) (some (.agg (vac r))) K=K r:=by
 obtain ⟨x1,x2,x3,x4,x5,x6,x7,x8,x9,x10,x11,x12,x13,x14,x15,_⟩:=r;simp [vac]
theorem tA7 {h:Heap} {V:Nat->Prop} {k op:Int} {a b pl:D} {nm:Bs} {ns ag:List D} {ra rb:OpV} {rp:LfV} {s1 s2:SL} (xa:Dt h V a (opc ra)) (xb:Dt h V b (opc rb)) (xp:Dt h V pl (lfc rp)) (x1:Sl h V s1 ns) (x2:Sl h V s2 ag):Dt h V (vaD k a b op pl nm ns ag) (vac (kE k ra rb op rp nm s1 s2)):=
 mB2 (oG (a:=[_]) (oAw h V k) (oG (a:=opc ra) xa (oG (a:=opc rb) xb (oG (a:=[_]) (oAw h V op) (oG (a:=lfc rp) xp (oG (a:=[_]) (mAf h V nm) (oG (a:=[_]) (oT.2 x1) (oG (a:=[_]) (b:=[]) (oT.2 x2) (fAm h V)))))))))
theorem yN (h:Heap) (V:Nat->Prop):Dt h V op0 (opc dF):=qB9 (wW h V)
section
variable {k op:Int} {a b:OpV} {pl:LfV} {nm:Bs}
end
section
variable {N:Nat} {T:List Tok} {P:Nat} {X:List Nat} {st:Int} {h:Heap} {σ:St}
end
end Qp
namespace Qp
structure SmR where
 k:Int
 at_:Int
 m:Bool
 nm:Bs
 ty:TyV
 has:Bool
 pl:LfV
 va:VaV
 co:OpV
 th:SL
 el:SL
structure SmT where
 ty:D
 pl:D
 va:D
 co:D
 th:List D
 el:List D
abbrev SmV:=Int×Int×Bool×zQ2×Int×zQ2×SL×SL×Bool×zQ2×SL×Int×Int×Int×zQ2×SL×Int×Int×zQ2×SL×Int×zQ2×SL×zQ2×SL×SL×Int×Int×zQ2×SL×SL×SL×Unit
def smx (x:SmV):List AV:=[.int .i64 x.1,.int .i64 x.2.1,.bool x.2.2.1,.str x.2.2.2.1,.int .i64 x.2.2.2.2.1,.str x.2.2.2.2.2.1,.slice x.2.2.2.2.2.2.1.a x.2.2.2.2.2.2.1.len x.2.2.2.2.2.2.1.cap x.2.2.2.2.2.2.1.sz,.slice x.2.2.2.2.2.2.2.1.a x.2.2.2.2.2.2.2.1.len x.2.2.2.2.2.2.2.1.cap x.2.2.2.2.2.2.2.1.sz,.bool x.2.2.2.2.2.2.2.2.1,.str x.2.2.2.2.2.2.2.2.2.1,.slice x.2.2.2.2.2.2.2.2.2.2.1.a x.2.2.2.2.2.2.2.2.2.2.1.len x.2.2.2.2.2.2.2.2.2.2.1.cap x.2.2.2.2.2.2.2.2.2.2.1.sz,.int .i64 x.2.2.2.2.2.2.2.2.2.2.2.1,.int .i64 x.2.2.2.2.2.2.2.2.2.2.2.2.1,.int .i64 x.2.2.2.2.2.2.2.2.2.2.2.2.2.1,.str x.2.2.2.2.2.2.2.2.2.2.2.2.2.2.1,.slice x.2.2.2.2.2.2.2.2.2.2.2.2.2.2.2.1.a x.2.2.2.2.2.2.2.2.2.2.2.2.2.2.2.1.len x.2.2.2.2.2.2.2.2.2.2.2.2.2.2.2.1.cap x.2.2.2.2.2.2.2.2.2.2.2.2.2.2.2.1.sz,.int .i64 x.2.2.2.2.2.2.2.2.2.2.2.2.2.2.2.2.1,.int .i64 x.2.2.2.2.2.2.2.2.2.2.2.2.2.2.2.2.2.1,.str x.2.2.2.2.2.2.2.2.2.2.2.2.2.2.2.2.2.2.1,.slice x.2.2.2.2.2.2.2.2.2.2.2.2.2.2.2.2.2.2.2.1.a x.2.2.2.2.2.2.2.2.2.2.2.2.2.2.2.2.2.2.2.1.len x.2.2.2.2.2.2.2.2.2.2.2.2.2.2.2.2.2.2.2.1.cap x.2.2.2.2.2.2.2.2.2.2.2.2.2.2.2.2.2.2.2.1.sz,.int .i64 x.2.2.2.2.2.2.2.2.2.2.2.2.2.2.2.2.2.2.2.2.1,.str x.2.2.2.2.2.2.2.2.2.2.2.2.2.2.2.2.2.2.2.2.2.1,.slice x.2.2.2.2.2.2.2.2.2.2.2.2.2.2.2.2.2.2.2.2.2.2.1.a x.2.2.2.2.2.2.2.2.2.2.2.2.2.2.2.2.2.2.2.2.2.2.1.len x.2.2.2.2.2.2.2.2.2.2.2.2.2.2.2.2.2.2.2.2.2.2.1.cap x.2.2.2.2.2.2.2.2.2.2.2.2.2.2.2.2.2.2.2.2.2.2.1.sz,.str x.2.2.2.2.2.2.2.2.2.2.2.2.2.2.2.2.2.2.2.2.2.2.2.1,.slice x.2.2.2.2.2.2.2.2.2.2.2.2.2.2.2.2.2.2.2.2.2.2.2.2.1.a x.2.2.2.2.2.2.2.2.2.2.2.2.2.2.2.2.2.2.2.2.2.2.2.2.1.len x.2.2.2.2.2.2.2.2.2.2.2.2.2.2.2.2.2.2.2.2.2.2.2.2.1.cap x.2.2.2.2.2.2.2.2.2.2.2.2.2.2.2.2.2.2.2.2.2.2.2.2.1.sz,.slice x.2.2.2.2.2.2.2.2.2.2.2.2.2.2.2.2.2.2.2.2.2.2.2.2.2.1.a x.2.2.2.2.2.2.2.2.2.2.2.2.2.2.2.2.2.2.2.2.2.2.2.2.2.1.len x.2.2.2.2.2.2.2.2.2.2.2.2.2.2.2.2.2.2.2.2.2.2.2.2.2.1.cap x.2.2.2.2.2.2.2.2.2.2.2.2.2.2.2.2.2.2.2.2.2.2.2.2.2.1.sz,.int .i64 x.2.2.2.2.2.2.2.2.2.2.2.2.2.2.2.2.2.2.2.2.2.2.2.2.2.2.1,.int .i64 x.2.2.2.2.2.2.2.2.2.2.2.2.2.2.2.2.2.2.2.2.2.2.2.2.2.2.2.1,.str x.2.2.2.2.2.2.2.2.2.2.2.2.2.2.2.2.2.2.2.2.2.2.2.2.2.2.2.2.1,.slice x.2.2.2.2.2.2.2.2.2.2.2.2.2.2.2.2.2.2.2.2.2.2.2.2.2.2.2.2.2.1.a x.2.2.2.2.2.2.2.2.2.2.2.2.2.2.2.2.2.2.2.2.2.2.2.2.2.2.2.2.2.1.len x.2.2.2.2.2.2.2.2.2.2.2.2.2.2.2.2.2.2.2.2.2.2.2.2.2.2.2.2.2.1.cap x.2.2.2.2.2.2.2.2.2.2.2.2.2.2.2.2.2.2.2.2.2.2.2.2.2.2.2.2.2.1.sz,.slice x.2.2.2.2.2.2.2.2.2.2.2.2.2.2.2.2.2.2.2.2.2.2.2.2.2.2.2.2.2.2.1.a x.2.2.2.2.2.2.2.2.2.2.2.2.2.2.2.2.2.2.2.2.2.2.2.2.2.2.2.2.2.2.1.len x.2.2.2.2.2.2.2.2.2.2.2.2.2.2.2.2.2.2.2.2.2.2.2.2.2.2.2.2.2.2.1.cap x.2.2.2.2.2.2.2.2.2.2.2.2.2.2.2.2.2.2.2.2.2.2.2.2.2.2.2.2.2.2.1.sz,.slice x.2.2.2.2.2.2.2.2.2.2.2.2.2.2.2.2.2.2.2.2.2.2.2.2.2.2.2.2.2.2.2.1.a x.2.2.2.2.2.2.2.2.2.2.2.2.2.2.2.2.2.2.2.2.2.2.2.2.2.2.2.2.2.2.2.1.len x.2.2.2.2.2.2.2.2.2.2.2.2.2.2.2.2.2.2.2.2.2.2.2.2.2.2.2.2.2.2.2.1.cap x.2.2.2.2.2.2.2.2.2.2.2.2.2.2.2.2.2.2.2.2.2.2.2.2.2.2.2.2.2.2.2.1.sz]
def smv (r:SmR):SmV:=(r.k,r.at_,r.m,r.nm,r.ty.1,r.ty.2.1,r.ty.2.2.1,r.ty.2.2.2.1,r.has,r.pl.1,r.pl.2.1,r.va.1,r.va.2.1,r.va.2.2.1,r.va.2.2.2.1,r.va.2.2.2.2.1,r.va.2.2.2.2.2.1,r.va.2.2.2.2.2.2.1,r.va.2.2.2.2.2.2.2.1,r.va.2.2.2.2.2.2.2.2.1,r.va.2.2.2.2.2.2.2.2.2.1,r.va.2.2.2.2.2.2.2.2.2.2.1,r.va.2.2.2.2.2.2.2.2.2.2.2.1,r.va.2.2.2.2.2.2.2.2.2.2.2.2.1,r.va.2.2.2.2.2.2.2.2.2.2.2.2.2.1,r.va.2.2.2.2.2.2.2.2.2.2.2.2.2.2.1,r.co.1,r.co.2.1,r.co.2.2.1,r.co.2.2.2.1,r.th,r.el,())
def smc (r:SmR):List AV:=smx (smv r)
abbrev yW:TyV:=(0,[],sl0,sl0,())
def mE (at_:Int):SmR:=⟨0,at_,false,[],yW,false,lf0,va0,dF,sl0,sl0⟩
def va00:D:=vaD 0 op0 op0 0 pl0 [] [] []
def ty0D:D:=tyD 0 [] [] []
theorem pA0 (h:Heap) (V:Nat->Prop):Dt h V va00 (vac va0):=tA7 (yN _ _) (yN _ _) (wW _ _) (Sl.nil _ _ _) (Sl.nil _ _ _)
structure SI (T:List Tok) (P:Nat) (X:List Nat) (hb:Heap) (R O:Nat) (r:SmR) (d:SmT) (h:Heap) (σ:St) (st:Int):Prop where
 pc:PC T P (O::R::X) h σ st
 chg:Chg [P] hb h
 oR:h.own R (smc (mE 0))
 oO:h.own O (smc r)
 le:hb.next<=R/\R<O/\P<hb.next
 dty:Dt h (fun C=>O<C) d.ty (tyc r.ty)
 dpl:Dt h (fun C=>O<C) d.pl (lfc r.pl)
 dva:Dt h (fun C=>O<C) d.va (vac r.va)
 dco:Dt h (fun C=>O<C) d.co (opc r.co)
 dth:Sl h (fun C=>O<C) r.th d.th
 del:Sl h (fun C=>O<C) r.el d.el
section
variable {T:List Tok} {P:Nat} {X:List Nat} {st st':Int} {hb h h':Heap} {R O:Nat} {r r':SmR} {d d':SmT} {σ σ':St}
end
section
variable {N:Nat} {T:List Tok} {P:Nat} {X:List Nat} {st:Int} {hb h:Heap} {R O:Nat} {σ:St}
end
end Qp
namespace Qp
section
variable {T:List Tok} {P:Nat} {X:List Nat} {st st':Int} {hb h h':Heap} {R O:Nat} {r r':SmR} {d d':SmT} {σ σ':St}
end
section
variable {N:Nat} {T:List Tok} {P:Nat} {X:List Nat} {st:Int} {hb h:Heap} {R O:Nat} {σ:St}
end
end Qp
namespace Qp
section
variable (T:List Tok) (i:Nat) (e:Int×Int)
end
theorem gG {β:Type} (r:SmV) (K:SmV->Option β):dA (.val zA) (some (.agg (smx r))) K=K r:=by
 obtain ⟨x1,x2,x3,x4,x5,x6,x7,x8,x9,x10,x11,x12,x13,x14,x15,x16,x17,x18,x19,x20,x21,x22,x23,x24,x25,x26,x27,x28,x29,x30,x31,x32,_⟩:=r;simp [smx]
section
variable {N:Nat} {T:List Tok} {P:Nat} {X:List Nat} {h:Heap} {σ:St}
end
end Qp
namespace Qp
section
variable {T:List Tok}
end
section
variable {N:Nat} {T:List Tok} {P:Nat} {X:List Nat} {h:Heap} {σ:St} {st:Int}
end
end Qp
namespace Qp
section
variable {N:Nat} {T:List Tok} {P:Nat} {X:List Nat} {h:Heap} {σ:St} {st:Int}
end
structure FuR where
 pub:Bool
 nm:Bs
 lv:SL
 ps:SL
 ty:TyV
 bd:SL
 at_:Int
structure FuT where
 lv:List D
 ps:List D
 ty:D
 bd:List D
abbrev FuV:=Bool×zQ2×SL×SL×Int×zQ2×SL×SL×SL×Int×Unit
def fux (x:FuV):List AV:=[.bool x.1,.str x.2.1,.slice x.2.2.1.a x.2.2.1.len x.2.2.1.cap x.2.2.1.sz,.slice x.2.2.2.1.a x.2.2.2.1.len x.2.2.2.1.cap x.2.2.2.1.sz,.int .i64 x.2.2.2.2.1,.str x.2.2.2.2.2.1,.slice x.2.2.2.2.2.2.1.a x.2.2.2.2.2.2.1.len x.2.2.2.2.2.2.1.cap x.2.2.2.2.2.2.1.sz,.slice x.2.2.2.2.2.2.2.1.a x.2.2.2.2.2.2.2.1.len x.2.2.2.2.2.2.2.1.cap x.2.2.2.2.2.2.2.1.sz,.slice x.2.2.2.2.2.2.2.2.1.a x.2.2.2.2.2.2.2.2.1.len x.2.2.2.2.2.2.2.2.1.cap x.2.2.2.2.2.2.2.2.1.sz,.int .i64 x.2.2.2.2.2.2.2.2.2.1]
def fuv (r:FuR):FuV:=(r.pub,r.nm,r.lv,r.ps,r.ty.1,r.ty.2.1,r.ty.2.2.1,r.ty.2.2.2.1,r.bd,r.at_,())
def fuc (r:FuR):List AV:=fux (fuv r)
def nAp (pub:Bool) (nm:Bs) (at_:Int):FuR:=⟨pub,nm,sl0,sl0,yW,sl0,at_⟩
theorem qAw {β:Type} (r:FuV) (K:FuV->Option β):dA (.val zH) (some (.agg (fux r))) K=K r:=by
 obtain ⟨x1,x2,x3,x4,x5,x6,x7,x8,x9,x10,_⟩:=r;simp [fux]
structure FI (T:List Tok) (P:Nat) (X:List Nat) (hb:Heap) (Q R O:Nat) (r:FuR) (d:FuT) (h:Heap) (σ:St) (st:Int):Prop where
 pc:PC T P (O::R::X) h σ st
 chg:Chg [P] hb h
 oQ:h.own Q [.ptr (some (P,0))]
 oR:h.own R (fuc (nAp false [] 0))
 oO:h.own O (fuc r)
 le:hb.next<=Q/\Q<R/\R<O/\P<hb.next
 dlv:Sl h (fun C=>O<C) r.lv d.lv
 dps:Sl h (fun C=>O<C) r.ps d.ps
 dty:Dt h (fun C=>O<C) d.ty (tyc r.ty)
 dbd:Sl h (fun C=>O<C) r.bd d.bd
section
variable {T:List Tok} {P:Nat} {X:List Nat} {st st':Int} {hb h h':Heap} {Q R O:Nat} {r r':FuR} {d d':FuT} {σ σ':St}
end
end Qp
namespace Qp
section
variable {N:Nat} {T:List Tok} {P:Nat} {X:List Nat} {h:Heap} {σ:St} {st:Int}
end
end Qp
namespace Qp
abbrev Er3:=Option (Int×Int×Option Int)
section
variable {N:Nat} {T:List Tok} {P:Nat} {X:List Nat} {h:Heap} {σ:St} {st:Int}
end
end Qp
namespace Qp
structure ItS where
 d:Option (Bool×D)
 i:Nat
 e:Er3
 n:Nat
section
variable {N:Nat} {T:List Tok} {P:Nat} {X:List Nat} {h:Heap} {σ:St} {st:Int}
end
end Qp
namespace Qp
def crD (xs ys:List D):D:=.t [.l xs,.l ys]
section
variable {N:Nat} {T:List Tok} {P:Nat} {X:List Nat} {h:Heap} {σ:St} {st:Int}
end
end Qp
namespace Qp
structure Cut (T' T:List Tok) (E:Nat) (Bd:Int×Int->Prop):Prop where
 k:(tk T' E).1=0
 lt:∀ i,i<E->tk T' i=tk T i
 bad:Bd (21,((tk T' E).2.2:Int))
section
variable {α β γ:Type} {σ:Type} (st:σ->St) (inv:σ->Prop) (E:Nat) (Bd:Int×Int->Prop)
def qBc (s:σ):Prop:=∃ j e,st s=(j,some e)/\Bd e
def qBd (F:σ->α×σ):Prop:=∀ s,(st (F s).2).2.isSome=true
def AtE (s:σ):Prop:=st s=(E,none)/\inv s
def RA (F' F:σ->α×σ) (s:σ):Prop:=F' s=F s/\(st (F s).2).2=none/\(st (F s).2).1<=E/\inv (F s).2
def RB (F' F:σ->α×σ) (s:σ):Prop:=∃ j e,st (F' s).2=(j,some e)/\((st (F s).2).2.isSome=true\/Bd e)
structure GD (F' F:σ->α×σ):Prop where
 e':∀ s,(st s).2.isSome=true->st (F' s).2=st s
 e:∀ s,(st s).2.isSome=true->st (F s).2=st s
 c:∀ s,AtE st inv E s->AtE st inv E (F' s).2\/qBc st Bd (F' s).2\/((st (F' s).2).2.isSome=true/\qBd st F)
 a:∀ s,(st s).2=none->(st s).1<E->inv s->RA st inv E F' F s\/RB st Bd F' F s\/AtE st inv E (F' s).2
structure G (F' F:σ->α×σ):Prop extends GD st inv E Bd F' F where
 c1:∀ s,AtE st inv E s->AtE st inv E (F' s).2\/qBc st Bd (F' s).2
end
section
variable {α β γ:Type} {σ:Type} {st:σ->St} {inv:σ->Prop} {E:Nat} {Bd:Int×Int->Prop}
end
section
variable {T' T:List Tok} {E:Nat} {Bd:Int×Int->Prop} {α:Type}
end
end Qp
namespace Qp
section
variable {T' T:List Tok} {E:Nat} {Bd:Int×Int->Prop}
end
end Qp
namespace Qp
open Go.ChangeShapes Go.WideShapes
open Go.Proofs.YtkcjphhjmlienaaGreatDoor
mutual
def Wt (P:Program):D->TypeId->Prop
 | .b _,t=>P.underlying t=some .bool
 | .i n,t=>P.underlying t=some (.int .i64)∧-9223372036854775808<=n/\n<=9223372036854775807
 | .s x,t=>P.underlying t=some .string/\x.length<=9223372036854775807
 | .l xs,t=>∃ e,P.underlying t=some (.slice e)/\Wl P xs e/\xs.length<=9223372036854775807
 | .t xs,t=>∃ fs,P.underlying t=some (.struct fs)/\Wf P xs fs.toList
def Wl (P:Program):List D->TypeId->Prop
 | [],_=>True
 | x::r,e=>Wt P x e/\Wl P r e
def Wf (P:Program):List D->List Field->Prop
 | [],[]=>True
 | x::r,f::fs=>Wt P x f.type/\Wf P r fs
 | _,_=>False
end
mutual
def wtD:D->Nat
 | .b _=>1
 | .i _=>1
 | .s x=>x.length+1
 | .l xs=>wtL xs+1
 | .t xs=>wtL xs+1
def wtL:List D->Nat
 | []=>0
 | x::r=>wtD x+wtL r
end
def wB7 (P:Program):List Field->Nat
 | []=>0
 | f::r=>P.cellsOf f.type+wB7 P r
def dT (P:Program) (S:List TypeId) (t:TypeId):Bool:=
 match P.underlying t with
 | some .bool=>Nat.beq (P.cellsOf t) 1
 | some (.int .i64)=>Nat.beq (P.cellsOf t) 1
 | some .string=>Nat.beq (P.cellsOf t) 1
 | some (.slice e)=>pL e S&&Nat.beq (P.cellsOf t) 1
 | some (.struct fs)=>fs.toList.all (fun f=>pL f.type S)&&Nat.beq (P.cellsOf t) (wB7 P fs.toList)
 | _=>false
def dB (P:Program) (S:List TypeId):Bool:=S.all (dT P S)
theorem uA7 {t:TypeId} {S:List TypeId} (h:pL t S=true):t∈S:=mC.1 h
section
variable {H:Type} {P:Program} {h:Heap} {S:List TypeId}
theorem rB9 (hS:dB P S=true) {t:TypeId} {cs:List AV} {d:DataW H} (x:Rd P h t cs d):t∈S->∃ y,Wt P y t/\Dt h (fun _=>True) y cs/\wtD y<=Rows.uptoBulk d/\cs.length=P.cellsOf t:=by
 have hT:∀ {t:TypeId},t∈S->dT P S t=true:=fun ht=>List.all_eq_true.1 hS _ ht
 induction x with
 | bool h1=>
  rename_i t b;intro ht;have hd:=hT ht;unfold dT at hd;rw [h1] at hd;refine ⟨.b b,?_,?_,?_,?_⟩
  ·simp only [Wt];exact h1
  ·simp only [Dt]
  ·simp only [wtD,Rows.uptoBulk];omega
  ·rw [Nat.eq_of_beq_eq_true hd];rfl
 | int h1 h2=>
  rename_i t k n;intro ht;have hd:=hT ht;unfold dT at hd;rw [h1] at hd;cases k <;> simp only [Bool.false_eq_true] at hd;refine ⟨.i n,?_,?_,?_,?_⟩
  ·simp only [Wt]
   refine ⟨h1,?_⟩
   have:=Rd.int_inv (H:=H) h1 (Rd.int (h:=h) h1 h2)
   obtain ⟨n',e1,_,e3⟩:=this;simp only [List.cons.injEq,AV.int.injEq,true_and,and_true] at e1;subst e1
   first | exact e3 | simpa using e3
  ·simp only [Dt]
  ·simp only [wtD,Rows.uptoBulk];omega
  ·rw [Nat.eq_of_beq_eq_true hd];rfl
 | str h1 h2=>
  rename_i t s;intro ht;have hd:=hT ht;unfold dT at hd;rw [h1] at hd;refine ⟨.s s,?_,?_,?_,?_⟩
  ·simp only [Wt];exact ⟨h1,h2⟩
  ·simp only [Dt]
  ·simp only [wtD,Rows.uptoBulk];omega
  ·rw [Nat.eq_of_beq_eq_true hd];rfl
 | nil h1=>
  rename_i t e;intro ht;have hd:=hT ht;unfold dT at hd;rw [h1] at hd;simp only [Bool.and_eq_true] at hd;refine ⟨.l [],?_,uB7.2 ⟨⟨none,0,0,0⟩,rfl,Sl.nil _ _ _⟩,?_,?_⟩
  ·simp only [Wt,Wl];grind
  ·grind [wtD,wtL,Rows.uptoBulk]
  ·rw [Nat.eq_of_beq_eq_true hd.2];rfl
 | slice h1 h2 h3 h4 h5 h6 ih=>
  rename_i t e A ass ds sp;intro ht;have hd:=hT ht;unfold dT at hd;rw [h1] at hd;simp only [Bool.and_eq_true] at hd;have he:=uA7 hd.1;have key:∀ (ass:List (List AV)) (ds:List (DataW H)),ass.length=ds.length->(∀ (i:Nat) (a:List AV) (d:DataW H),ass[i]? = some a->ds[i]? = some d->∃ y,Wt P y e/\Dt h (fun _=>True) y a/\wtD y<=Rows.uptoBulk d/\a.length=P.cellsOf e)->
    ∃ ys,Wl P ys e/\De h (fun _=>True) (P.cellsOf e) ys ass.flatten/\wtL ys<=Rows.uptoBulkAll ds/\ys.length=ds.length:=by
   intro ass
   induction ass with
   | nil=>
    intro ds hl _
    cases ds with
    | nil=>exact ⟨[],by simp [Wl],by simp [De],by simp [wtL],rfl⟩
    | cons d r=>cases hl
   | cons a r ihr=>
    intro ds hl hf
    cases ds with
    | nil=>cases hl
    | cons d q=>
     obtain ⟨y,y1,y2,y3,y4⟩:=hf 0 a d rfl rfl;obtain ⟨ys,z1,z2,z3,z4⟩:=ihr q (by simpa using hl) fun i a d h1 h2=>hf (i+1) a d (by simpa using h1) (by simpa using h2);refine ⟨y::ys,?_,?_,?_,by simp [z4]⟩
     ·simp only [Wl];exact ⟨y1,z1⟩
     ·simp only [De,List.flatten_cons];grind
     grind [wtL,Rows.uptoBulkAll]
  obtain ⟨ys,z1,z2,z3,z4⟩:=key ass ds h5 fun i a d e1 e2=>ih i a d e1 e2 he;have hvl:=z2.length;refine ⟨.l ys,?_,uB7.2 ⟨⟨some (A,0),ds.length,ds.length,P.cellsOf e⟩,rfl,z4.symm,Nat.le_refl _,fun _ _=>trivial,ass.flatten,⟨?_,fun ha=>(by cases ha),fun A' off ha=>?_⟩,z2⟩,?_,?_⟩
  ·simp only [Wt];exact ⟨e,h1,z1,by rw [z4];exact h4⟩
  ·rw [hvl,z4]
  ·simp only [Option.some.injEq,Prod.mk.injEq] at ha
   obtain ⟨rfl,rfl⟩:=ha;refine ⟨h3,ass.flatten,?_,by grind⟩;show mAp (h.t.get A)=_;rw [h2];rfl
  ·simp only [wtD,Rows.uptoBulk];omega
  ·rw [Nat.eq_of_beq_eq_true hd.2];rfl
 | struct h1 h2 h3 h4 ih=>
  rename_i t fs ass ds;intro ht;have hd:=hT ht;unfold dT at hd;rw [h1] at hd;simp only [Bool.and_eq_true] at hd;obtain ⟨hd1,hd2⟩:=hd;have key:∀ (fl:List Field) (ass:List (List AV)) (ds:List (DataW H)),ass.length=fl.length->ds.length=fl.length->(∀ f∈fl,f.type∈S)->(∀ (i:Nat) (f:Field) (a:List AV) (d:DataW H),fl[i]? = some f->ass[i]? = some a->ds[i]? = some d->f.type∈S->∃ y,Wt P y f.type/\Dt h (fun _=>True) y a/\wtD y<=Rows.uptoBulk d/\a.length=P.cellsOf f.type)->
    ∃ ys,Wf P ys fl/\Dp h (fun _=>True) ys ass.flatten/\wtL ys<=Rows.uptoBulkAll ds/\ass.flatten.length=wB7 P fl:=by
   intro fl
   induction fl with
   | nil=>
    intro ass ds ha hd _ _
    cases ass with
    | nil=>
     cases ds with
     | nil=>exact ⟨[],by simp [Wf],by simp [Dp],by simp [wtL],rfl⟩
     | cons d r=>cases hd
    | cons a r=>cases ha
   | cons f fl ihf=>
    intro ass ds ha hd hm hf
    cases ass with
    | nil=>cases ha
    | cons a r=>
     cases ds with
     | nil=>cases hd
     | cons d q=>
      obtain ⟨y,y1,y2,y3,y4⟩:=hf 0 f a d rfl rfl rfl (hm f (by simp));obtain ⟨ys,z1,z2,z3,z4⟩:=ihf r q (by simpa using ha) (by simpa using hd) (fun g hg=>hm g (by simp [hg])) fun i f a d h0 h1 h2=>hf (i+1) f a d (by simpa using h0) (by simpa using h1) (by simpa using h2);refine ⟨y::ys,?_,?_,?_,?_⟩
      ·simp only [Wf];exact ⟨y1,z1⟩
      ·simp only [Dp,List.flatten_cons];grind
      ·grind [wtL,Rows.uptoBulkAll]
      grind [List.flatten_cons,List.length_append,wB7]
  obtain ⟨ys,z1,z2,z3,z4⟩:=key fs.toList ass ds (by simpa using h2) (by simpa using h3) (fun f hf=>uA7 (List.all_eq_true.1 hd1 f hf)) fun i f a d e0 e1 e2 e3=>ih i f a d (by simpa using e0) e1 e2 e3;refine ⟨.t ys,?_,?_,?_,?_⟩
  ·simp only [Wt];exact ⟨fs,h1,z1⟩
  ·simp only [Dt];exact z2
  ·simp only [wtD,Rows.uptoBulk];omega
  ·rw [z4,Nat.eq_of_beq_eq_true hd2]
 | array h1 h2 h3 h4 ih=>
  grind [dT]
theorem Wt.int_inv {y:D} {t:TypeId} (hu:P.underlying t=some (.int .i64)) (x:Wt P y t):∃ n,y=.i n∧-9223372036854775808<=n/\n<=9223372036854775807:=by
 cases y with
 | i n=>simp only [Wt] at x;exact ⟨n,rfl,x.2⟩
 | b _=>simp only [Wt,hu] at x;cases x
 | s _=>simp only [Wt,hu] at x;cases x.1
 | l _=>grind [Wt]
 | t _=>grind [Wt]
theorem Wt.bool_inv {y:D} {t:TypeId} (hu:P.underlying t=some .bool) (x:Wt P y t):∃ b,y=.b b:=by
 cases y with
 | b n=>exact ⟨n,rfl⟩
 | i _=>simp only [Wt,hu] at x;cases x.1
 | s _=>simp only [Wt,hu] at x;cases x.1
 | l _=>grind [Wt]
 | t _=>grind [Wt]
theorem Wt.str_inv {y:D} {t:TypeId} (hu:P.underlying t=some .string) (x:Wt P y t):∃ s,y=.s s/\s.length<=9223372036854775807:=by
 cases y with
 | s n=>simp only [Wt] at x;exact ⟨n,rfl,x.2⟩
 | i _=>simp only [Wt,hu] at x;cases x.1
 | b _=>simp only [Wt,hu] at x;cases x
 | l _=>grind [Wt]
 | t _=>grind [Wt]
theorem Wt.slice_inv {y:D} {t e:TypeId} (hu:P.underlying t=some (.slice e)) (x:Wt P y t):∃ xs,y=.l xs/\Wl P xs e/\xs.length<=9223372036854775807:=by
 cases y with
 | l xs=>
  simp only [Wt,hu] at x
  grind
 | i _=>simp only [Wt,hu] at x;cases x.1
 | b _=>simp only [Wt,hu] at x;cases x
 | s _=>simp only [Wt,hu] at x;cases x.1
 | t _=>grind [Wt]
theorem Wt.struct_inv {y:D} {t:TypeId} {fs:Array Field} (hu:P.underlying t=some (.struct fs)) (x:Wt P y t):∃ xs,y=.t xs/\Wf P xs fs.toList:=by
 cases y with
 | t xs=>
  simp only [Wt,hu] at x
  grind
 | i _=>simp only [Wt,hu] at x;cases x.1
 | b _=>simp only [Wt,hu] at x;cases x
 | s _=>simp only [Wt,hu] at x;cases x.1
 | l _=>grind [Wt]
theorem Wl.mem:∀ {xs:List D} {e:TypeId},Wl P xs e->∀ y∈xs,Wt P y e
 | [],_,_,y,hy=>by cases hy
 | z::r,e,x,y,hy=>by
  simp only [Wl] at x;rcases List.mem_cons.1 hy with rfl | hy
  ·exact x.1
  ·exact x.2.mem y hy
theorem Wl.strs {e:TypeId} (hu:P.underlying e=some .string):∀ {xs:List D},Wl P xs e->∃ l:List Bs,xs=l.map D.s/\∀ s∈l,s.length<=9223372036854775807
 | [],_=>⟨[],rfl,by simp⟩
 | z::r,x=>by
  simp only [Wl] at x;obtain ⟨s,rfl,hs⟩:=x.1.str_inv hu;obtain ⟨l,rfl,hl⟩:=Wl.strs hu x.2;refine ⟨s::l,rfl,fun y hy=>?_⟩
  grind
end
noncomputable def rBc:Array Field:=match Tryz.prog.underlying 41 with | some (.struct fs)=>fs | _=>#[]
theorem tB9:Tryz.prog.underlying 41=some (.struct rBc):=by kernel_rfl
theorem dAr:rBc.toList.map (·.type)=[3,9,38,39]:=by kernel_rfl
theorem gAm:Tryz.prog.underlying 38=some (.slice 9):=by kernel_rfl
theorem uB9:Tryz.prog.underlying 39=some (.slice 41):=by kernel_rfl
theorem Wf.of_types {P:Program} {xs:List D}:∀ {fs:List Field} {ts:List TypeId},fs.map (·.type)=ts->Wf P xs fs->xs.length=ts.length/\∀ (i:Nat) (y:D) (t:TypeId),xs[i]? = some y->ts[i]? = some t->Wt P y t:=by
 induction xs with
 | nil=>
  intro fs ts h x
  cases fs with
  | nil=>grind
  | cons f r=>simp only [Wf] at x
 | cons y r ih=>
  intro fs ts h x
  cases fs with
  | nil=>simp only [Wf] at x
  | cons f q=>
   subst h;simp only [Wf] at x
   grind
theorem kU {y:D} (x:Wt Tryz.prog y 41):∃ k nm lv el,y=tyD k nm lv el/\nm.length<=9223372036854775807/\lv.length<=9223372036854775807/\el.length<=9223372036854775807/\(∀ s∈lv,s.length<=9223372036854775807)/\(∀ e∈el,Wt Tryz.prog e 41)∧-9223372036854775808<=k/\k<=9223372036854775807:=by
 obtain ⟨xs,rfl,hx⟩:=x.struct_inv tB9;obtain ⟨h1,h2⟩:=hx.of_types dAr
 match xs,h1,h2 with
 | [a,b,c,d],_,h2=>
  obtain ⟨k,rfl,hk⟩:=(h2 0 a 3 rfl rfl).int_inv Tryz.underlying3;obtain ⟨nm,rfl,hn⟩:=(h2 1 b 9 rfl rfl).str_inv Tryz.underlying9;obtain ⟨ls,rfl,hl,hl2⟩:=(h2 2 c 38 rfl rfl).slice_inv gAm;obtain ⟨lv,rfl,hv⟩:=hl.strs Tryz.underlying9;obtain ⟨el,rfl,he,he2⟩:=(h2 3 d 39 rfl rfl).slice_inv uB9;exact ⟨k,nm,lv,el,rfl,hn,by simpa using hl2,he2,hv,he.mem,hk⟩
end Qp
namespace Qp
inductive PT where
 | int | bool | st (nm:Bs) (lv:List Bs) | ref (mu:Bool) (lv:List Bs) (t:PT)
def PT.D:PT->D
 | .int=>tyD 1 [] [] []
 | .bool=>tyD 2 [] [] []
 | .st nm lv=>tyD 3 nm lv []
 | .ref mu lv t=>tyD (if mu=true then 5 else 4) [] lv [t.D]
def nL (s:Bs):Prop:=eC s=true\/∃ a b,s=a++[58,58]++b/\eC a=true/\eC b=true
def PT.ok:Nat->PT->Prop
 | 0,_=>False
 | _+1,.int=>True
 | _+1,.bool=>True
 | _+1,.st nm lv=>nL nm/\lv.length<=64/\∀ x∈lv,oD x=true
 | g+1,.ref _ lv t=>lv.length<=1/\(∀ x∈lv,oD x=true)/\t.ok g
theorem uA2 {N:Nat} (hN:40<=N) (t:Bs) (h:Heap):f68 N t h=some (oD t,h):=by
 by_cases q:t.length<=32
 ·exact iB2 (by omega) (by omega) h
 ·unfold f68
  have e1:wB 1 (Int.ofNat t.length)=true:=by rw [leI,decide_eq_true_eq];grind
  have e2:wB (Int.ofNat t.length) 32=false:=by grind [leI,decide_eq_false_iff_not]
  simp only [e1,e2,cond_true,cond_false,oD,q,decide_false,Bool.and_false,Bool.false_and]
theorem pG {N:Nat} (hN:40<=N) (t:Bs) (h:Heap):∃ h',f46 N t h=some (eC t,h')/\Chg [] h h':=by
 unfold f46 eC;rw [uA2 hN,aA]
 cases hl:oD t with
 | false=>exact ⟨h,rfl,Chg.refl _ _⟩
 | true=>
  simp only [cond_true];rw [gB2 (by omega),aA];exact ⟨_,rfl,tA _ _⟩
theorem iAm {N:Nat} {s:Bs} (hs:s.length<=9223372036854775807) (hN:40<=N):∀ (M i:Nat) (h:Heap),(i<s.length\/(i=0/\s.length=0))->s.length-i<M->
  ∃ o b h',kA0 N M s false (i:Int) h=some (o,(s,b,()),h')/\Chg [] h h'/\(o=.exit 0\/(o=.ret/\(b=true->nL s))):=by
 intro M
 induction M with
 | zero=>intro i _ _ h;omega
 | succ M ih=>
  intro i h hi hM;rw [rW];unfold iU;have hw:jB .i64 ((i:Int)+1)=((i+1:Nat):Int):=fD (by omega) (by omega);simp only [hw,fF]
  by_cases q:i+1<s.length
  ·simp only [q,decide_true,cond_true]
   have hw2:jB .i64 ((i:Int)+2)=((i+2:Nat):Int):=fD (by omega) (by omega);simp only [hw2];rw [lAf (by omega) (by omega),sub_eq];simp only [bA,kA]
   cases he:fB ((s.drop i).take 2) [58,58] with
   | true=>
    simp only [cond_true];rw [oA0 (by omega)];simp only [bA,kA];obtain ⟨h8,e8,c8⟩:=pG hN (s.take i) h;rw [e8,aA]
    cases ha:eC (s.take i) with
    | false=>
     grind
    | true=>
     simp only [cond_true];rw [nA0 (by omega)];simp only [bA,kA];obtain ⟨h12,e12,c12⟩:=pG hN (s.drop (i+2)) h8;rw [e12,aA];refine ⟨_,_,_,rfl,c8.trans c12,.inr ⟨rfl,fun hb=>.inr ⟨s.take i,s.drop (i+2),?_,ha,hb⟩⟩⟩
     grind [eqB,List.drop_drop,List.append_assoc,List.take_append_drop]
   | false=>
    simp only [cond_false];exact ih (i+1) h (by omega) (by omega)
  ·simp only [q,decide_false,cond_false]
   exact ⟨_,_,_,rfl,Chg.refl _ _,.inl rfl⟩
theorem rAt {N:Nat} {s:Bs} (hs:s.length<=9223372036854775807) (hN:40<=N) (hN2:s.length<N) (h:Heap):∃ b h',f51 N s h=some (b,h')/\Chg [] h h'/\(b=true->nL s):=by
 unfold f51;obtain ⟨o,b,h',e,c,hc⟩:=iAm (N:=N) hs hN N 0 h (by omega) (by omega);rw [show ((0:Nat):Int)=0 from rfl] at e;rw [e];simp only [kB];rcases hc with rfl | ⟨rfl,hb⟩
 ·simp only [bC,decide_true,cond_true]
  obtain ⟨h2,e2,c2⟩:=pG hN s h';rw [e2,aA];exact ⟨_,_,rfl,c.trans c2,fun hb=>.inl hb⟩
 ·simp only [oF,cond_false]
  grind
theorem jAi {N:Nat} {h:Heap} {V:Nat->Prop} {v:SL} {lv:List Bs} (x:Sl h V v (lv.map D.s)) (hN:40<=N) (hl:lv.length<=9223372036854775807):∀ (M i:Nat),i<=lv.length->i<=65->65-i<M->(∀ j,(hj:j<lv.length)->j<i->oD lv[j]=true)->
  ∃ o b,qA7 N M v false (i:Int) h=some (o,(v,b,()),h)/\((o=.exit 0/\(lv.length<=64->∀ y∈lv,oD y=true))\/(o=.ret/\b=false)):=by
 intro M
 induction M with
 | zero=>intro i _ _ h;omega
 | succ M ih=>
  intro i hi hi2 hM hp;rw [tW];unfold jU;have hv:v.len=lv.length:=by rw [x.len,List.length_map]
  have z:ltInt (i:Int) 65=decide (i<65):=rB i 65;simp only [fF,hv,z];have done:¬ i<lv.length\/¬ i<65->lv.length<=64->∀ y∈lv,oD y=true:=fun hd hl y hy=>by
   obtain ⟨j,hj,rfl⟩:=List.getElem_of_mem hy
   grind
  by_cases q:i<lv.length
  ·by_cases q2:i<65
   ·simp only [q,q2,decide_true,cond_true]
    rw [<- hv,x.ix (by grind) 1,vE x q,hv];simp only [bA,kA];rw [uA2 hN,aA]
    cases hb:oD lv[i] with
    | false=>
     simp only [Bool.not_false,cond_true];exact ⟨_,_,rfl,.inr ⟨rfl,rfl⟩⟩
    | true=>
     simp only [Bool.not_true,cond_false]
     grind [aB]
   ·simp only [q,q2,decide_true,decide_false,cond_true,cond_false]
    grind
  ·simp only [q,decide_false,cond_false]
   grind
theorem jAm {N:Nat} {h:Heap} {V:Nat->Prop} {v:SL} {lv:List Bs} (x:Sl h V v (lv.map D.s)) (hN:100<=N) (hl:lv.length<=9223372036854775807):∃ b,f47 N v h=some (b,h)/\(b=true->lv.length<=64/\∀ y∈lv,oD y=true):=by
 unfold f47;obtain ⟨o,b,e,hc⟩:=jAi (N:=N) x (by omega) hl N 0 (Nat.zero_le _) (by omega) (by omega) (fun j _ h=>by omega);rw [show ((0:Nat):Int)=0 from rfl] at e;rw [e];simp only [kB];have hv:v.len=lv.length:=by rw [x.len,List.length_map]
 rcases hc with ⟨rfl,hp⟩ | ⟨rfl,rfl⟩
 ·simp only [bC,decide_true,cond_true]
  have z:wB (Int.ofNat v.len) 64=decide (lv.length<=64):=by rw [hv];exact lL _ 64
  grind
 ·simp only [oF,cond_false]
  exact ⟨_,rfl,fun h=>by cases h⟩
end Qp
namespace Qp
theorem kAm:∀ {xs:List D} {x:D},x∈xs->wtD x<=wtL xs
 | y::r,x,h=>by
  simp only [wtL];rcases List.mem_cons.1 h with rfl | h
  ·omega
  ·have:=kAm h;omega
theorem tAt (k:Int) (nm:Bs) (lv:List Bs) (el:List D):nm.length<wtD (tyD k nm lv el)/\wtL el<wtD (tyD k nm lv el):=by
 simp only [tyD,wtD,wtL];omega
theorem bX {r:TyV} {k:Int} {x:Bs} {s1 s2:SL} (hc:tyc r=tyc (k,x,s1,s2,())):r=(k,x,s1,s2,()):=by
 obtain ⟨k',x',s1',s2',_⟩:=r;simp only [tyc,List.cons.injEq,AV.int.injEq,AV.str.injEq,true_and,and_true] at hc;obtain ⟨rfl,rfl,h3,h4⟩:=hc;rw [SL.av_inj h3,SL.av_inj h4]
theorem yB7 {α:Type} {l:List α} {s:SL} (h:s.len=l.length) (hz:eA (Int.ofNat s.len) 0=true):l=[]:=by
 rw [eqI,decide_eq_true_eq,h] at hz;exact List.length_eq_zero_iff.1 (Int.ofNat.inj hz)
theorem nB2 {N:Nat} (hN:100<=N):∀ (g M:Nat) (h:Heap) (r:TyV) (x:D) (V:Nat->Prop),g<M->g<=64->wtD x<N->Wt Tryz.prog x 41->Dt h V x (tyc r)->
  ∃ b h',f21 N M r ((65-g:Nat):Int) h=some (b,h')/\Chg [] h h'/\(b=true->∃ p:PT,x=p.D/\p.ok g):=by
 intro g
 induction g with
 | zero=>
  intro M h r x V hM hg hw ht hd;obtain ⟨M,rfl⟩:∃ m,M=m+1:=⟨M-1,by omega⟩;rw [pA2];unfold vAl;rw [show ltInt 64 ((65-0:Nat):Int)=true from rfl];exact ⟨_,_,rfl,tA _ _,fun h=>by cases h⟩
 | succ g ih=>
  intro M h r x V hM hg hw ht hd;obtain ⟨M,rfl⟩:∃ m,M=m+1:=⟨M-1,by omega⟩;rw [pA2];unfold vAl;obtain ⟨k,nm,lv,el,rfl,hnm,hlv,hel,hlv2,helt,hk⟩:=kU ht;obtain ⟨s1,s2,hc,l1,t1⟩:=qF.1 hd;have er:=bX hc;subst er;have o1:=wA h (tyc (k,nm,s1,s2,()));have c1:=tA h (.row (tyc (k,nm,s1,s2,())) .own);have g1:h.push (.row [(.int .i64 (k,nm,s1,s2,()).1),(.str (k,nm,s1,s2,()).2.1),(.slice (k,nm,s1,s2,()).2.2.1.a (k,nm,s1,s2,()).2.2.1.len (k,nm,s1,s2,()).2.2.1.cap (k,nm,s1,s2,()).2.2.1.sz),(.slice (k,nm,s1,s2,()).2.2.2.1.a (k,nm,s1,s2,()).2.2.2.1.len (k,nm,s1,s2,()).2.2.2.1.cap (k,nm,s1,s2,()).2.2.2.1.sz)] .own)=h.push (.row (tyc (k,nm,s1,s2,())) .own):=rfl;rw [g1];generalize h.push (.row (tyc (k,nm,s1,s2,())) .own)=h1 at *;have z:ltInt 64 ((65-(g+1):Nat):Int)=false:=by
   rw [show (64:Int)=((64:Nat):Int) from rfl,rB,decide_eq_false_iff_not];omega
  dsimp only;rw [z];have a0:h1.cell (h.next,0)=some (.int .i64 k):=o1.cell 0;have a1:h1.cell (h.next,1)=some (.str nm):=o1.cell 1;have a2:h1.cell (h.next,2)=some (SL.av s1):=o1.cell 2;have a3:h1.cell (h.next,3)=some (SL.av s2):=o1.cell 3;simp only [SL.av] at a2 a3;have l1':=l1.chg c1 (by simp);have t1':=t1.chg c1 (by simp);have hl1:s1.len=lv.length:=by rw [l1.len,List.length_map]
  obtain ⟨w1,w2⟩:=tAt k nm lv el;simp only [cond_false,Nat.add_zero,a0,bA,vA,eqI]
  by_cases k12:k=1\/k=2
  ·have base:(mA (α:=zJ1) (bif decide (k=1) then some ((((65-(g+1):Nat):Int),(some (h.next,0)),k,decide (k=1),()),h1) else some ((((65-(g+1):Nat):Int),(some (h.next,0)),k,decide (k=2),()),h1))=mA (α:=zJ1) (β:=Bool×Heap) (some ((((65-(g+1):Nat):Int),(some (h.next,0)),k,true,()),h1))):=by
    grind
   rw [base];simp only [aA,cond_true,fA,a1,a2,a3,bA,kA,jA]
   cases e1:fB nm [] with
   | false=>grind
   | true=>
    simp only [cond_true]
    cases e2:eA (Int.ofNat s1.len) 0 with
    | false=>simp only [e2,<- eqI,cond_false];grind
    | true=>
     simp only [e2,<- eqI,cond_true];refine ⟨_,_,rfl,c1,fun hb=>?_⟩;rw [eqB.1 e1,yB7 hl1 e2,yB7 t1.len hb];rcases k12 with rfl | rfl
     ·exact ⟨.int,rfl,trivial⟩
     ·exact ⟨.bool,rfl,trivial⟩
  ·have k1:¬ k=1:=fun e=>k12 (.inl e)
   have k2:¬ k=2:=fun e=>k12 (.inr e);simp only [k1,k2,decide_false,cond_false,aA]
   by_cases k3:k=3
   ·simp only [k3,decide_true,cond_true,fA,a1,bA,kA]
    obtain ⟨b,h21,e21,c21,p21⟩:=rAt (N:=N) hnm (by omega) (by omega) h1;rw [e21,aA]
    cases b with
    | false=>exact ⟨_,_,rfl,c1.trans c21,fun h=>by cases h⟩
    | true=>
     have o2:=o1.chg c21 (by simp);have b2:h21.cell (h.next,2)=some (SL.av s1):=o2.cell 2;have b3:h21.cell (h.next,3)=some (SL.av s2):=o2.cell 3;simp only [SL.av] at b2 b3;simp only [cond_true,b2,bA,jA];obtain ⟨b,e47,p47⟩:=jAm (N:=N) (l1'.chg c21 (by simp)) hN hlv;have e47':f47 N s1 h21=some (b,h21):=e47;rw [e47',aA]
     cases b with
     | false=>exact ⟨_,_,rfl,c1.trans c21,fun h=>by cases h⟩
     | true=>
      simp only [cond_true,b3,bA,jA,<- eqI];refine ⟨_,_,rfl,c1.trans c21,fun hb=>?_⟩;rw [yB7 t1.len hb];exact ⟨.st nm lv,rfl,p21 rfl,(p47 rfl).1,(p47 rfl).2⟩
   ·simp only [k3,decide_false,cond_false]
    by_cases k45:k=4\/k=5
    ·have base:(mA (α:=zY1) (bif decide (k=4) then some ((((65-(g+1):Nat):Int),(some (h.next,0)),decide (k=4),()),h1) else some ((((65-(g+1):Nat):Int),(some (h.next,0)),decide (k=5),()),h1))=mA (α:=zY1) (β:=Bool×Heap) (some ((((65-(g+1):Nat):Int),(some (h.next,0)),true,()),h1))):=by
      grind
     rw [base];simp only [aA,cond_true,fA,a1,a2,bA,kA,jA]
     cases e1:fB nm [] with
     | false=>grind
     | true=>
      simp only [cond_true];have z1:wB (Int.ofNat s1.len) 1=decide (lv.length<=1):=by rw [hl1];exact lL _ 1
      rw [z1]
      by_cases q1:lv.length<=1
      ·simp only [q1,decide_true,cond_true]
       obtain ⟨b,e47,p47⟩:=jAm (N:=N) l1' hN hlv;have e47':f47 N s1 h1=some (b,h1):=e47;rw [e47',aA]
       cases b with
       | false=>grind
       | true=>
        simp only [cond_true,a3,bA,jA];have z2:decide (Int.ofNat s2.len=1)=decide (el.length=1):=by
         rw [t1.len]
         grind
        rw [z2]
        by_cases q2:el.length=1
        ·simp only [q2,decide_true,cond_true]
         obtain ⟨e,rfl⟩:∃ e,el=[e]:=List.length_eq_one_iff.1 q2;have hte:=helt e (by simp);have hty:∃ k nm lv el,e=tyD k nm lv el:=by grind [kU]
         have ecell:∃ r':TyV,h1.cells (s2.at 0 4) 4=some (.agg (tyc r'))/\Dt h1 V e (tyc r'):=by
          obtain ⟨cs,ee⟩:=t1'.elt (i:=0) (by simp);obtain ⟨k',nm',lv',el',hk'⟩:=hty;have hde:=ee.dt;simp only [List.getElem_cons_zero] at hde;rw [hk'] at hde;obtain ⟨u1,u2,hcs,_⟩:=qF.1 hde;have hz:s2.sz=4:=by rw [<- ee.len,hcs];rfl
          have hwh:=ee.whole
          grind
         obtain ⟨r',er',dr'⟩:=ecell;have hix:∀ {β:Type} (K:Nat×Nat->Option β),ixK s2.a s2.len 0 4 K=K (s2.at 0 4):=fun K=>t1'.ix (i:=0) (by simp) 4 K;rw [hix,er',vJ,aB (by omega),show 65-(g+1)+1=65-g by omega];have hwe:wtD e<N:=by simp only [wtL] at w2;omega
         obtain ⟨b,h52,e52,c52,p52⟩:=ih M h1 r' e V (by omega) (by omega) hwe hte dr';show ∃ b h',(mA (f21 N M r' ((65-g:Nat):Int) h1) _)=_/\_;rw [e52,aA];refine ⟨_,_,rfl,c1.trans c52,fun hb=>?_⟩;obtain ⟨p,hp1,hp2⟩:=p52 hb;rw [eqB.1 e1,hp1];rcases k45 with rfl | rfl
         ·exact ⟨.ref false lv p,rfl,q1,(p47 rfl).2,hp2⟩
         ·exact ⟨.ref true lv p,rfl,q1,(p47 rfl).2,hp2⟩
        grind
      grind
    ·have k4:¬ k=4:=fun e=>k45 (.inl e)
     have k5:¬ k=5:=fun e=>k45 (.inr e);simp only [k4,k5,decide_false,cond_false,aA]
     grind
end Qp
namespace Qp
def iI:List Bs->Bs
 | []=>[]
 | x::r=>[44,32,39]++x++iI r
def aE:List Bs->Bs
 | []=>[]
 | x::r=>[60,39]++x++iI r++[62]
def PT.txt:PT->Bs
 | .int=>[105,110,116]
 | .bool=>[98,111,111,108]
 | .st nm lv=>nm++aE lv
 | .ref mu lv t=>[38]++(match lv with | []=>[] | x::_=>[39]++x++[32])++(if mu=true then [109,117,116,32] else [])++t.txt
theorem uC {x:Bs} (h:oD x=true):1<=x.length/\x.length<=32:=by
 simp only [oD,Bool.and_eq_true,decide_eq_true_eq] at h
 grind
theorem nR:∀ {lv:List Bs},(∀ x∈lv,oD x=true)->(iI lv).length<=lv.length * 35
 | [],_=>by simp [iI]
 | x::r,h=>by
  have h1:=uC (h x (by simp));have h2:=nR (lv:=r) fun y hy=>h y (by simp [hy])
  grind [iI,List.length_append,List.length_cons,List.length_nil]
theorem dQ:∀ (a b:List Bs),iI (a++b)=iI a++iI b
 | [],b=>rfl
 | x::r,b=>by simp only [List.cons_append,iI,dQ r b,List.append_assoc]
section
variable {N:Nat} {h:Heap} {V:Nat->Prop}
def eQ (l:List Bs):Bs:=match l with
 | []=>[]
 | x::r=>[39]++x++iI r
theorem kAi (l:List Bs) (x:Bs):eQ (l++[x])=if l=[] then [39]++x else eQ l++[44,32]++[39]++x:=by
 cases l with
 | nil=>simp [eQ,iI]
 | cons y r=>simp [eQ,dQ,iI]
theorem vA7 {l:List Bs} (hl:∀ x∈l,oD x=true):(eQ l).length<=l.length * 35:=by
 cases l with
 | nil=>simp [eQ]
 | cons x r=>
  grind [uC,nR,eQ,List.length_append,List.length_cons,List.length_nil]
theorem lAi {v:SL} {lv:List Bs} (x:Sl h V v (lv.map D.s)) (hl:lv.length<=64) (hlv:∀ y∈lv,oD y=true):∀ (M i:Nat),i<=lv.length->lv.length-i<M->
  kAf N M v (eQ (lv.take i)) (i:Int) h=some (.exit 0,(eQ lv,()),h):=by
 intro M
 induction M with
 | zero=>intro i _ h;omega
 | succ M ih=>
  intro i hi hM;rw [aAb];unfold qA2;have hv:v.len=lv.length:=by rw [x.len,List.length_map]
  have z:ltInt 0 (i:Int)=decide (0<i):=rB 0 i;have hlen:=vA7 (l:=lv.take i) fun y hy=>hlv y (List.mem_of_mem_take hy);have htl:(lv.take i).length=i:=by grind
  simp only [fF,hv,z]
  by_cases q:i<lv.length
  ·simp only [q,decide_true,cond_true]
   have hxl:=uC (hlv _ (List.getElem_mem q));have et:lv.take (i+1)=lv.take i++[lv[i]]:=by rw [List.take_succ_eq_append_getElem q]
   have es:=kAi (lv.take i) lv[i];rw [<- et] at es;have rd:∀ {β:Type} (K:Bs->Option β),(ixK v.a lv.length (i:Int) 1 fun q10=>dA (.val zM2) (h.cell q10) K)=K lv[i]:=fun K=>by
    rw [<- hv,x.ix (by grind) 1,vE x q];simp only [bA,kA]
   by_cases q0:0<i
   ·simp only [q0,decide_true,cond_true]
    rw [yA (by grind)];simp only [bA,kA];rw [yA (by grind)];simp only [bA,kA];rw [rd,yA (by grind)];simp only [bA,kA];rw [if_neg (by grind)] at es
    grind [aB]
   ·have i0:i=0:=by omega
    simp only [q0,decide_false,cond_false];have e0:lv.take i=[]:=by rw [i0];rfl
    rw [if_pos e0] at es;rw [yA (by grind)];simp only [bA,kA];rw [rd,yA (by grind)]
    grind [bA,kA,eQ,aB]
  grind
theorem uAt {v:SL} {lv:List Bs} (x:Sl h V v (lv.map D.s)) (hl:lv.length<=64) (hlv:∀ y∈lv,oD y=true) (hN:100<=N):f58 N v h=some (aE lv,h):=by
 unfold f58;have lp:=lAi (N:=N) x hl hlv N 0 (Nat.zero_le _) (by omega);rw [show ((0:Nat):Int)=0 from rfl,List.take_zero] at lp;rw [show eQ []=([]:Bs) from rfl] at lp;rw [lp];simp only [kB];have hlen:=vA7 hlv
 cases lv with
 | nil=>rfl
 | cons y r=>
  have:fB (eQ (y::r)) []=false:=by
   grind [fB,eQ,eqB]
  rw [this];simp only [cond_false];rw [yA (by grind)];simp only [bA,kA];rw [yA (by grind)]
  grind [bA,kA,eQ,aE]
theorem wA7 {x:Bs} (h:eC x=true):1<=x.length/\x.length<=32:=by
 simp only [eC,Bool.and_eq_true] at h;exact uC h.1
theorem qE {x:Bs} (h:nL x):x.length<=66:=by
 rcases h with h | ⟨a,b,rfl,ha,hb⟩
 ·have:=wA7 h;omega
 grind [wA7,List.length_append,List.length_cons,List.length_nil]
theorem pR {lv:List Bs} (hl:lv.length<=64) (hlv:∀ y∈lv,oD y=true):(aE lv).length<=2400:=by
 cases lv with
 | nil=>simp [aE]
 | cons x r=>
  grind [uC,nR,List.length_cons,aE,List.length_append,List.length_nil]
theorem vA2:∀ {g:Nat} {p:PT},p.ok g->p.txt.length<=2500+g * 40
 | 0,p,h=>by cases p <;> cases h
 | g+1,.int,_=>by grind [PT.txt,List.length_cons,List.length_nil]
 | g+1,.bool,_=>by grind [PT.txt,List.length_cons,List.length_nil]
 | g+1,.st nm lv,⟨h1,h2,h3⟩=>by
  grind [qE,pR,PT.txt,List.length_append]
 | g+1,.ref mu lv t,⟨h1,h2,h3⟩=>by
  have ih:=vA2 h3
  cases lv with
  | nil=>cases mu <;> simp only [PT.txt,List.length_append,List.length_cons,List.length_nil,if_true,if_false,Bool.false_eq_true] <;> omega
  | cons x r=>
   have:=uC (h2 x (by simp))
   cases mu <;> simp only [PT.txt,List.length_append,List.length_cons,List.length_nil,if_true,if_false,Bool.false_eq_true] <;> omega
theorem eAr:∀ {g:Nat} {p:PT},p.ok g->isTy g p.D
 | 0,p,h=>by cases p <;> cases h
 | g+1,.int,_=>⟨1,[],[],[],rfl,by simp,by simp,by simp⟩
 | g+1,.bool,_=>⟨2,[],[],[],rfl,by simp,by simp,by simp⟩
 | g+1,.st nm lv,⟨h1,h2,h3⟩=>⟨3,nm,lv,[],rfl,by omega,by simp,by simp⟩
 | g+1,.ref mu lv t,⟨h1,h2,h3⟩=>⟨_,[],lv,[t.D],rfl,by omega,by simp,fun e he=>by
   rw [List.mem_singleton] at he;subst he;exact eAr h3⟩
theorem oB2 (hN:100<=N):∀ (g M:Nat) (h:Heap) (r:TyV) (p:PT) (V:Nat->Prop),g<=M->g<=64->p.ok g->Dt h V p.D (tyc r)->∃ h',f24 N M r h=some (p.txt,h')/\Chg [] h h':=by
 intro g
 induction g with
 | zero=>intro M h r p V _ _ hp;cases p <;> cases hp
 | succ g ih=>
  intro M h r p V hM hg hp hd;obtain ⟨M,rfl⟩:∃ m,M=m+1:=⟨M-1,by omega⟩;rw [vAq];unfold lAw;obtain ⟨k,nm,lv,el,hpD⟩:∃ k nm lv el,p.D=tyD k nm lv el:=by cases p <;> exact ⟨_,_,_,_,rfl⟩
  rw [hpD] at hd;obtain ⟨s1,s2,hc,l1,t1⟩:=qF.1 hd;have er:=bX hc;subst er;have o1:=wA h (tyc (k,nm,s1,s2,()));have c1:=tA h (.row (tyc (k,nm,s1,s2,())) .own);have g1:h.push (.row [(.int .i64 (k,nm,s1,s2,()).1),(.str (k,nm,s1,s2,()).2.1),(.slice (k,nm,s1,s2,()).2.2.1.a (k,nm,s1,s2,()).2.2.1.len (k,nm,s1,s2,()).2.2.1.cap (k,nm,s1,s2,()).2.2.1.sz),(.slice (k,nm,s1,s2,()).2.2.2.1.a (k,nm,s1,s2,()).2.2.2.1.len (k,nm,s1,s2,()).2.2.2.1.cap (k,nm,s1,s2,()).2.2.2.1.sz)] .own)=h.push (.row (tyc (k,nm,s1,s2,())) .own):=rfl;rw [g1];generalize h.push (.row (tyc (k,nm,s1,s2,())) .own)=h1 at *;dsimp only;have a0:h1.cell (h.next,0)=some (.int .i64 k):=o1.cell 0;have a1:h1.cell (h.next,1)=some (.str nm):=o1.cell 1;have a2:h1.cell (h.next,2)=some (SL.av s1):=o1.cell 2;have a3:h1.cell (h.next,3)=some (SL.av s2):=o1.cell 3;simp only [SL.av] at a2 a3;have l1':=l1.chg c1 (by simp);have t1':=t1.chg c1 (by simp);have hl1:s1.len=lv.length:=by rw [l1.len,List.length_map]
  simp only [Nat.add_zero,Nat.zero_add,a0,bA,vA]
  cases p with
  | int=>
   simp only [PT.D,tyD,D.t.injEq,List.cons.injEq,D.i.injEq] at hpD;rw [<- hpD.1];exact ⟨_,rfl,c1⟩
  | bool=>
   simp only [PT.D,tyD,D.t.injEq,List.cons.injEq,D.i.injEq] at hpD;rw [<- hpD.1];exact ⟨_,rfl,c1⟩
  | st nm' lv'=>
   have hk:k=3/\nm=nm'/\lv=lv':=by
    simp only [PT.D,tyD,D.t.injEq,List.cons.injEq,D.i.injEq,D.s.injEq,D.l.injEq,and_true] at hpD
    grind [List.map_inj_right]
   obtain ⟨rfl,rfl,rfl⟩:=hk;obtain ⟨p1,p2,p3⟩:=hp;rw [show eA 3 1=false from rfl,show eA 3 2=false from rfl,show eA 3 3=true from rfl];simp only [cond_false,cond_true,a1,a2,bA,kA,jA];have f58':f58 N s1 h1=some (aE lv,h1):=uAt (N:=N) l1' p2 p3 hN;rw [f58',aA,yA (by grind [qE,pR])];simp only [bA,kA,a1,nB,cond_true,qB];exact ⟨_,rfl,c1⟩
  | ref mu lv' t=>
   have hk:k=(if mu=true then 5 else 4)/\lv=lv'/\el=[t.D]:=by
    simp only [PT.D,tyD,D.t.injEq,List.cons.injEq,D.i.injEq,D.s.injEq,D.l.injEq,and_true] at hpD
    grind [List.map_inj_right]
   obtain ⟨hk,rfl,rfl⟩:=hk;obtain ⟨p1,p2,p3⟩:=hp;have ht:=vA2 p3;have kk:(k=4/\mu=false)\/(k=5/\mu=true):=by grind
   have z1:eA k 1=false:=by rcases kk with ⟨rfl,_⟩ | ⟨rfl,_⟩ <;> rfl
   have z2:eA k 2=false:=by rcases kk with ⟨rfl,_⟩ | ⟨rfl,_⟩ <;> rfl
   have z3:eA k 3=false:=by rcases kk with ⟨rfl,_⟩ | ⟨rfl,_⟩ <;> rfl
   have z5:eA k 5=mu:=by rcases kk with ⟨rfl,rfl⟩ | ⟨rfl,rfl⟩ <;> rfl
   simp only [z1,z2,z3,cond_false];have base:(mA (α:=zY) (bif eA k 4 then some (((some (h.next,0)),eA k 4,()),h1) else some (((some (h.next,0)),eA k 5,()),h1))=mA (α:=zY) (β:=Bs×Heap) (some (((some (h.next,0)),true,()),h1))):=by
    rcases kk with ⟨rfl,rfl⟩ | ⟨rfl,rfl⟩ <;> rfl
   rw [base];have ze:eA (Int.ofNat s2.len) 0=false:=by rw [t1.len];rfl
   simp only [aA,cond_true,fA,a2,a3,bA,jA,ze,cond_false];have hty:∃ k nm lv el,t.D=tyD k nm lv el:=by cases t <;> exact ⟨_,_,_,_,rfl⟩
   have ecell:∃ r':TyV,h1.cells (s2.at 0 4) 4=some (.agg (tyc r'))/\Dt h1 V t.D (tyc r'):=by
    obtain ⟨cs,ee⟩:=t1'.elt (i:=0) (by simp);obtain ⟨k',nm',lv',el',hk'⟩:=hty;have hde:=ee.dt;simp only [List.getElem_cons_zero] at hde;rw [hk'] at hde;obtain ⟨u1,u2,hcs,_⟩:=qF.1 hde;have hz:s2.sz=4:=by rw [<- ee.len,hcs];rfl
    have hwh:=ee.whole
    grind
   obtain ⟨r',er',dr'⟩:=ecell;have hix:∀ {β:Type} (K:Nat×Nat->Option β),ixK s2.a s2.len 0 4 K=K (s2.at 0 4):=fun K=>t1'.ix (i:=0) (by simp) 4 K;obtain ⟨h',e',c'⟩:=ih M h1 r' t V (by omega) (by omega) p3 dr';have ahead:(mA (α:=zA1) (β:=Bs×Heap) (bif ltInt 0 (Int.ofNat s1.len) then
     (dA (.val zM2) (rA .add [38] [39]) fun (x21:zQ2)=>
     (ixK s1.a s1.len 0 1 fun q24=>
     (dA (.val zM2) (h1.cell q24) fun (x25:zQ2)=>
     (dA (.val zM2) (rA .add x21 x25) fun (x26:zQ2)=>
     (dA (.val zM2) (rA .add x26 [32]) fun (x27:zQ2)=>
     some ((some (h.next,0),x27,()),h1))))))
    else
     some ((some (h.next,0),[38],()),h1))=mA (α:=zA1) (some ((some (h.next,0),[38]++(match lv with | []=>[] | x::_=>[39]++x++[32]),()),h1))):=by
    cases lv with
    | nil=>
     have:ltInt 0 (Int.ofNat s1.len)=false:=by rw [hl1];rfl
     rw [this];rfl
    | cons x rr=>
     have:ltInt 0 (Int.ofNat s1.len)=true:=by rw [hl1,ltI,decide_eq_true_eq];grind
     rw [this];have hx:=uC (p2 x (by simp));have hix1:∀ {β:Type} (K:Nat×Nat->Option β),ixK s1.a s1.len 0 1 K=K (s1.at 0 1):=fun K=>l1'.ix (i:=0) (by simp) 1 K;have hcl:=vE l1' (i:=0) (by simp);simp only [List.getElem_cons_zero] at hcl;simp only [cond_true];rw [yA (by simp)];simp only [bA,kA];rw [hix1,hcl];simp only [bA,kA];rw [yA (by grind)];simp only [bA,kA];rw [yA (by grind)];simp only [bA,kA];rw [<- List.append_assoc,<- List.append_assoc]
   rw [ahead];have hal:([38]++(match lv with | []=>[] | x::_=>[39]++x++[32]):Bs).length<=40:=by
    grind [uC,List.length_append,List.length_cons,List.length_nil]
   generalize ha:([38]++(match lv with | []=>[] | x::_=>[39]++x++[32]):Bs)=pre at *;simp only [aA,fA,a0,bA,vA,z5];have etxt:(PT.ref mu lv t).txt=pre++(if mu=true then [109,117,116,32] else [])++t.txt:=by rw [<- ha];rfl
   rw [etxt]
   cases mu with
   | false=>
    simp only [cond_false,aA,fA,a3,bA,jA,Bool.false_eq_true,if_false,List.append_nil];rw [hix,er',vJ];show ∃ h',(mA (f24 N M r' h1) _)=_/\_;rw [e',aA,yA (by omega)];simp only [bA,kA];exact ⟨_,rfl,c1.trans c'⟩
   | true=>
    simp only [cond_true,if_true];rw [yA (by grind)];simp only [bA,kA,aA,fA,a3,jA];rw [hix,er',vJ];show ∃ h',(mA (f24 N M r' h1) _)=_/\_;rw [e',aA,yA (by grind)];simp only [bA,kA];exact ⟨_,rfl,c1.trans c'⟩
end
end Qp
namespace Qp
abbrev KT:=Int×Bs
def kt (q:Tok):KT:=(q.1,q.2.1)
theorem lAm:∀ {x:Bs},runN x=x.length->∀ c∈x,bAb c=true
 | [],_,c,hc=>by cases hc
 | d::x,h,c,hc=>by
  simp only [runN] at h
  split at h
  ·rename_i hd
   rcases List.mem_cons.1 hc with rfl | hc
   ·exact hd
   ·exact lAm (by simpa using h) c hc
  ·simp at h
theorem fAb {x:Bs} (h:oD x=true):∃ c q,x=c::q/\pF c=true/\(∀ c∈x,bAb c=true)/\x.length<=32:=by
 simp only [oD,Bool.and_eq_true,decide_eq_true_eq] at h;obtain ⟨⟨⟨h1,h2⟩,h3⟩,h4⟩:=h
 cases x with
 | nil=>simp at h1
 | cons c q=>exact ⟨c,q,rfl,h3,lAm h4,h2⟩
end Qp
namespace Qp
section
variable {N:Nat} {h:Heap}
end
section
variable {T l r:List Tok} {i:Nat} {k:Int} {x w:Bs} {a:Nat}
end
end Qp
namespace Qp
section
variable {T r:List Tok} {i a c:Nat}
end
end Qp
namespace Qp
section
variable {T' T:List Tok} {E:Nat} {Bd:Int×Int->Prop} {α β γ:Type}
end
end Qp
namespace Qp
noncomputable section
noncomputable def fQ (N:Nat) (go:SL->SL->Bool->Int->Int->Heap->Option (Out×zC1×Heap)) (v0 v1:SL) (v4:Bool) (v12 v13:Int) (h:Heap):Option (Out×zC1×Heap):=let x2:=ltInt v13 v12;(bif x2 then(ixK v0.a v0.len v13 1 fun q3=>(dA (.val zM2) (h.cell q3) fun (x4:zQ2)=>(ixK v1.a v1.len v13 1 fun q5=>(dA (.val zM2) (h.cell q5) fun (x6:zQ2)=>let x7:=!fB x4 x6;(bif x7 then some (Out.ret,(false,()),h)else let x8:=jB .i64 (v13+1);go v0 v1 v4 v12 x8 h)))))else some ((Out.exit 0),(v4,()),h))
def wA2 (N M:Nat) (v0 v1:SL) (v4:Bool) (v12 v13:Int) (h:Heap):Option (Out×zC1×Heap):=iter (fun go s h=>fQ N (fun v0 v1 v4 v12 v13 h=>go (v0,v1,v4,v12,v13,()) h) s.1 s.2.1 s.2.2.1 s.2.2.2.1 s.2.2.2.2.1 h) M (v0,v1,v4,v12,v13,()) h
theorem uS (N M v0 v1 v4 v12 v13 h):wA2 N (M+1) v0 v1 v4 v12 v13 h=fQ N (wA2 N M) v0 v1 v4 v12 v13 h:=rfl
def f106 (N:Nat) (a0 a1:SL) (h:Heap):Option (Bool×Heap):=let x1:=!eA (Int.ofNat a0.len) (Int.ofNat a1.len);(bif x1 then some (false,h)else(pC (wA2 N N a0 a1 false (Int.ofNat a0.len) 0 h) fun o9 (j10:zC1) h11=>(bif jD o9 (.exit 0) then some (true,h11)else some (j10.1,h11))))
def pB2:Ann:=(.two .n (.two .n (.two (.two .n (.two (.loop [(0,zL2),(1,zL2),(4,zN2),(12,zO2),(13,zO2)] [(.exit 0),.ret] [(4,zN2)] .n) .n)) .n)))
theorem gAb (N:Nat):jC Tryz.prog 106 [zL2,zL2] (.val zN2) (fun x h=>f106 N x.1 x.2.1 h):=cD nA N pB2 Tryz.f106
def yA7 (N:Nat) (rec112:zR->zR->Heap->Option (Bool×Heap)) (rec162c112 rec193c112:SL->SL->(Unit)->Heap->Option (Bool×Heap)) (a0 a1:zR) (h:Heap):Option (Bool×Heap):=let h1:=h.push (.row (yRE a0) .own);let h2:=h1.push (.row (yRE a1) .own);(dA (.val zO2) (h2.cell (h.next,0)) fun (x3:Int)=>(dA (.val zO2) (h2.cell (h1.next,0)) fun (x4:Int)=>let x5:=eA x3 x4;(bif x5 then(dA (.val zM2) (h2.cell (h.next,1)) fun (x6:zQ2)=>(dA (.val zM2) (h2.cell (h1.next,1)) fun (x7:zQ2)=>let x8:=fB x6 x7;(bif x8 then(dA (.val zL2) (h2.cell (h.next,2)) fun (x9:SL)=>(dA (.val zL2) (h2.cell (h1.next,2)) fun (x10:SL)=>(mA (f106 N x9 x10 h2) fun (x11:Bool) h12=>(bif x11 then(dA (.val zL2) (h12.cell (h.next,3)) fun (x13:SL)=>(dA (.val zL2) (h12.cell (h1.next,3)) fun (x14:SL)=>(mA (rec162c112 x13 x14 (()) h12) fun (x15:Bool) h16=>some (x15,h16))))else some (false,h12)))))else some (false,h2))))else some (false,h2))))
def qB2:Ann:=.n
noncomputable def iN (N:Nat) (rec112:zR->zR->Heap->Option (Bool×Heap)) (rec162c112 rec193c112:SL->SL->(Unit)->Heap->Option (Bool×Heap)) (a0 a1:SL) (a2:(Unit)) (h:Heap):Option (Bool×Heap):=(mA (rec193c112 a0 a1 (()) h) fun (x1:Bool) h2=>some (x1,h2))
def mAi:Ann:=.n
noncomputable def qK (N:Nat) (rec112:zR->zR->Heap->Option (Bool×Heap)) (rec162c112 rec193c112:SL->SL->(Unit)->Heap->Option (Bool×Heap)) (go:SL->(Unit)->Bool->SL->Int->Int->Heap->Option (Out×zC1×Heap)) (v1:SL) (v2:(Unit)) (v6:Bool) (v15:SL) (v16 v17:Int) (h:Heap):Option (Out×zC1×Heap):=let x2:=ltInt v17 v16;(bif x2 then(ixK v15.a v15.len v17 4 fun q3=>(dA (.val zE) (h.cells q3 4) fun (x4:zR)=>let h5:=h.push (.row yZF .own);(bB (h5.store (h.next,0) (yRE x4)) fun h6=>(ixK v1.a v1.len v17 4 fun q7=>(dA (.val zE) (h6.cells q7 4) fun (x8:zR)=>let h9:=h6.push (.row yZF .own);(bB (h9.store (h6.next,0) (yRE x8)) fun h10=>(dA (.val zE) (h10.cells (h.next,0) 4) fun (x11:zR)=>(dA (.val zE) (h10.cells (h6.next,0) 4) fun (x12:zR)=>(mA (rec112 x11 x12 h10) fun (x13:Bool) h14=>let x15:=!x13;(bif x15 then some (Out.ret,(false,()),h14)else let x16:=jB .i64 (v17+1);go v1 (()) v6 v15 v16 x16 h14))))))))))else some ((Out.exit 0),(v6,()),h))
def rK (N:Nat) (rec112:zR->zR->Heap->Option (Bool×Heap)) (rec162c112 rec193c112:SL->SL->(Unit)->Heap->Option (Bool×Heap)) (M:Nat) (v1:SL) (v2:(Unit)) (v6:Bool) (v15:SL) (v16 v17:Int) (h:Heap):Option (Out×zC1×Heap):=iter (fun go s h=>qK N rec112 rec162c112 rec193c112 (fun v1 v2 v6 v15 v16 v17 h=>go (v1,v2,v6,v15,v16,v17,()) h) s.1 s.2.1 s.2.2.1 s.2.2.2.1 s.2.2.2.2.1 s.2.2.2.2.2.1 h) M (v1,v2,v6,v15,v16,v17,()) h
theorem pT (N rec112 rec162c112 rec193c112 M v1 v2 v6 v15 v16 v17 h):rK N rec112 rec162c112 rec193c112 (M+1) v1 v2 v6 v15 v16 v17 h=qK N rec112 rec162c112 rec193c112 (rK N rec112 rec162c112 rec193c112 M) v1 v2 v6 v15 v16 v17 h:=rfl
def qR (N:Nat) (rec112:zR->zR->Heap->Option (Bool×Heap)) (rec162c112 rec193c112:SL->SL->(Unit)->Heap->Option (Bool×Heap)) (a0 a1:SL) (a2:(Unit)) (h:Heap):Option (Bool×Heap):=let x1:=!eA (Int.ofNat a0.len) (Int.ofNat a1.len);(bif x1 then some (false,h)else(pC (rK N rec112 rec162c112 rec193c112 N a1 (()) false a0 (Int.ofNat a0.len) 0 h) fun o17 (j18:zC1) h19=>(bif jD o17 (.exit 0) then some (true,h19)else some (j18.1,h19))))
def nAi:Ann:=(.two .n (.two .n (.two (.two .n (.two (.loop [(1,zL2),(2,(.clo 112 [])),(6,zN2),(15,zL2),(16,zO2),(17,zO2)] [(.exit 0),.ret] [(6,zN2)] .n) .n)) .n)))
def iAb (N M:Nat):((zR->zR->Heap->Option (Bool×Heap))×(SL->SL->(Unit)->Heap->Option (Bool×Heap))×(SL->SL->(Unit)->Heap->Option (Bool×Heap))×Unit):=Nat.rec (fun _ _ _=>none,fun _ _ _ _=>none,fun _ _ _ _=>none,()) (fun _ r=>(yA7 N r.1 r.2.1 r.2.2.1,iN N r.1 r.2.1 r.2.2.1,qR N r.1 r.2.1 r.2.2.1,())) M
def f112 (N M:Nat):zR->zR->Heap->Option (Bool×Heap):=(iAb N M).1
def tK (N M:Nat):SL->SL->(Unit)->Heap->Option (Bool×Heap):=(iAb N M).2.1
def uK (N M:Nat):SL->SL->(Unit)->Heap->Option (Bool×Heap):=(iAb N M).2.2.1
theorem aA8 (N M a0 a1 h):f112 N (M+1) a0 a1 h=yA7 N (f112 N M) (tK N M) (uK N M) a0 a1 h:=rfl
theorem gQ (N M a0 a1 a2 h):tK N (M+1) a0 a1 a2 h=iN N (f112 N M) (tK N M) (uK N M) a0 a1 a2 h:=rfl
theorem yA2 (N M a0 a1 a2 h):uK N (M+1) a0 a1 a2 h=qR N (f112 N M) (tK N M) (uK N M) a0 a1 a2 h:=rfl
theorem vK (N:Nat):∀ M:Nat,(jC Tryz.prog 112 [zE,zE] (.val zN2) (fun x h=>f112 N M x.1 x.2.1 h))/\(jC Tryz.prog 162 [zL2,zL2,(.clo 112 [])] (.val zN2) (fun x h=>tK N M x.1 x.2.1 x.2.2.1 h))/\(jC Tryz.prog 193 [zL2,zL2,(.clo 112 [])] (.val zN2) (fun x h=>uK N M x.1 x.2.1 x.2.2.1 h))/\True
 | 0=>⟨(fun xs h r h' hx=>by cases hx),(fun xs h r h' hx=>by cases hx),(fun xs h r h' hx=>by cases hx),trivial⟩
 | M+1=>⟨cD (pE (sel:=fun a=>fA7 2 112 a) (vK N M).2.1 (iA (gAb N) nA)) N qB2 Tryz.f112,cD (pE (sel:=fun a=>fA7 2 112 a) (vK N M).2.2.1 nA) N mAi Tryz.f162,cD (iA (vK N M).1 nA) N nAi Tryz.f193,trivial⟩
theorem rAw (N:Nat):jC Tryz.prog 112 [zE,zE] (.val zN2) (fun x h=>f112 N N x.1 x.2.1 h):=(vK N N).1
def f164 (N:Nat) (a0 a1:zB1) (h:Heap):Option (Bool×Heap):=let h1:=h.push (.row (yRF a0) .own);let h2:=h1.push (.row (yRF a1) .own);(dA (.val zM2) (h2.cell (h.next,0)) fun (x3:zQ2)=>(dA (.val zM2) (h2.cell (h1.next,0)) fun (x4:zQ2)=>let x5:=fB x3 x4;(bif x5 then(dA (.val zL2) (h2.cell (h.next,1)) fun (x6:SL)=>(dA (.val zL2) (h2.cell (h1.next,1)) fun (x7:SL)=>(mA (f106 N x6 x7 h2) fun (x8:Bool) h9=>some (x8,h9))))else some (false,h2))))
def rB2:Ann:=.n
theorem aA3 (N:Nat):jC Tryz.prog 164 [zG,zG] (.val zN2) (fun x h=>f164 N x.1 x.2.1 h):=cD (iA (gAb N) nA) N rB2 Tryz.f164
def f166 (N:Nat) (a0 a1:zX) (h:Heap):Option (Bool×Heap):=let h1:=h.push (.row (yRC a0) .own);let h2:=h1.push (.row (yRC a1) .own);(dA (.val zO2) (h2.cell (h.next,0)) fun (x3:Int)=>(dA (.val zO2) (h2.cell (h1.next,0)) fun (x4:Int)=>let x5:=eA x3 x4;(bif x5 then(dA (.val zO2) (h2.cell (h.next,1)) fun (x6:Int)=>(dA (.val zO2) (h2.cell (h1.next,1)) fun (x7:Int)=>let x8:=eA x6 x7;(bif x8 then(dA (.val zG) (h2.cells (h.next,2) 2) fun (x9:zB1)=>(dA (.val zG) (h2.cells (h1.next,2) 2) fun (x10:zB1)=>(mA (f164 N x9 x10 h2) fun (x11:Bool) h12=>some (x11,h12))))else some (false,h2))))else some (false,h2))))
def tB2:Ann:=.n
theorem jAb (N:Nat):jC Tryz.prog 166 [zD,zD] (.val zN2) (fun x h=>f166 N x.1 x.2.1 h):=cD (iA (aA3 N) nA) N tB2 Tryz.f166
def wK (N:Nat) (go:SL->(Unit)->Bool->SL->Int->Int->Heap->Option (Out×zC1×Heap)) (v1:SL) (v2:(Unit)) (v6:Bool) (v15:SL) (v16 v17:Int) (h:Heap):Option (Out×zC1×Heap):=let x2:=ltInt v17 v16;(bif x2 then(ixK v15.a v15.len v17 4 fun q3=>(dA (.val zD) (h.cells q3 4) fun (x4:zX)=>let h5:=h.push (.row yZC .own);(bB (h5.store (h.next,0) (yRC x4)) fun h6=>(ixK v1.a v1.len v17 4 fun q7=>(dA (.val zD) (h6.cells q7 4) fun (x8:zX)=>let h9:=h6.push (.row yZC .own);(bB (h9.store (h6.next,0) (yRC x8)) fun h10=>(dA (.val zD) (h10.cells (h.next,0) 4) fun (x11:zX)=>(dA (.val zD) (h10.cells (h6.next,0) 4) fun (x12:zX)=>(mA (f166 N x11 x12 h10) fun (x13:Bool) h14=>let x15:=!x13;(bif x15 then some (Out.ret,(false,()),h14)else let x16:=jB .i64 (v17+1);go v1 (()) v6 v15 v16 x16 h14))))))))))else some ((Out.exit 0),(v6,()),h))
def yK (N M:Nat) (v1:SL) (v2:(Unit)) (v6:Bool) (v15:SL) (v16 v17:Int) (h:Heap):Option (Out×zC1×Heap):=iter (fun go s h=>wK N (fun v1 v2 v6 v15 v16 v17 h=>go (v1,v2,v6,v15,v16,v17,()) h) s.1 s.2.1 s.2.2.1 s.2.2.2.1 s.2.2.2.2.1 s.2.2.2.2.2.1 h) M (v1,v2,v6,v15,v16,v17,()) h
theorem qT (N M v1 v2 v6 v15 v16 v17 h):yK N (M+1) v1 v2 v6 v15 v16 v17 h=wK N (yK N M) v1 v2 v6 v15 v16 v17 h:=rfl
def lU (N:Nat) (a0 a1:SL) (a2:(Unit)) (h:Heap):Option (Bool×Heap):=let x1:=!eA (Int.ofNat a0.len) (Int.ofNat a1.len);(bif x1 then some (false,h)else(pC (yK N N a1 (()) false a0 (Int.ofNat a0.len) 0 h) fun o17 (j18:zC1) h19=>(bif jD o17 (.exit 0) then some (true,h19)else some (j18.1,h19))))
def oAi:Ann:=(.two .n (.two .n (.two (.two .n (.two (.loop [(1,zL2),(2,(.clo 166 [])),(6,zN2),(15,zL2),(16,zO2),(17,zO2)] [(.exit 0),.ret] [(6,zN2)] .n) .n)) .n)))
theorem kAb (N:Nat):jC Tryz.prog 214 [zL2,zL2,(.clo 166 [])] (.val zN2) (fun x h=>lU N x.1 x.2.1 x.2.2.1 h):=cD (iA (jAb N) nA) N oAi Tryz.f214
def uG (N:Nat) (a0 a1:SL) (a2:(Unit)) (h:Heap):Option (Bool×Heap):=(mA (lU N a0 a1 (()) h) fun (x1:Bool) h2=>some (x1,h2))
def pAi:Ann:=.n
theorem lAb (N:Nat):jC Tryz.prog 194 [zL2,zL2,(.clo 166 [])] (.val zN2) (fun x h=>uG N x.1 x.2.1 x.2.2.1 h):=cD (pE (sel:=fun a=>fA7 2 166 a) (kAb N) nA) N pAi Tryz.f194
def f165 (N:Nat) (a0 a1:zQ) (h:Heap):Option (Bool×Heap):=let h1:=h.push (.row (yRB a0) .own);let h2:=h1.push (.row (yRB a1) .own);(dA (.val zO2) (h2.cell (h.next,0)) fun (x3:Int)=>(dA (.val zO2) (h2.cell (h1.next,0)) fun (x4:Int)=>let x5:=eA x3 x4;(bif x5 then(dA (.val zD) (h2.cells (h.next,1) 4) fun (x6:zX)=>(dA (.val zD) (h2.cells (h1.next,1) 4) fun (x7:zX)=>(mA (f166 N x6 x7 h2) fun (x8:Bool) h9=>(bif x8 then(dA (.val zD) (h9.cells (h.next,5) 4) fun (x10:zX)=>(dA (.val zD) (h9.cells (h1.next,5) 4) fun (x11:zX)=>(mA (f166 N x10 x11 h9) fun (x12:Bool) h13=>(bif x12 then(dA (.val zO2) (h13.cell (h.next,9)) fun (x14:Int)=>(dA (.val zO2) (h13.cell (h1.next,9)) fun (x15:Int)=>let x16:=eA x14 x15;(bif x16 then(dA (.val zG) (h13.cells (h.next,10) 2) fun (x17:zB1)=>(dA (.val zG) (h13.cells (h1.next,10) 2) fun (x18:zB1)=>(mA (f164 N x17 x18 h13) fun (x19:Bool) h20=>(bif x19 then(dA (.val zM2) (h20.cell (h.next,12)) fun (x21:zQ2)=>(dA (.val zM2) (h20.cell (h1.next,12)) fun (x22:zQ2)=>let x23:=fB x21 x22;(bif x23 then(dA (.val zL2) (h20.cell (h.next,13)) fun (x24:SL)=>
 (dA (.val zL2) (h20.cell (h1.next,13)) fun (x25:SL)=>(mA (f106 N x24 x25 h20) fun (x26:Bool) h27=>(bif x26 then(dA (.val zL2) (h27.cell (h.next,14)) fun (x28:SL)=>(dA (.val zL2) (h27.cell (h1.next,14)) fun (x29:SL)=>(mA (uG N x28 x29 (()) h27) fun (x30:Bool) h31=>some (x30,h31))))else some (false,h27)))))else some (false,h20))))else some (false,h20)))))else some (false,h13))))else some (false,h13)))))else some (false,h9)))))else some (false,h2))))
def uB2:Ann:=.n
theorem mAm (N:Nat):jC Tryz.prog 165 [zC,zC] (.val zN2) (fun x h=>f165 N x.1 x.2.1 h):=cD (pE (sel:=fun a=>fA7 2 166 a) (lAb N) (iA (jAb N) (iA (aA3 N) (iA (gAb N) nA)))) N uB2 Tryz.f165
noncomputable def wJ (N:Nat) (rec113c114:SL->SL->(Unit)->Heap->Option (Bool×Heap)) (rec114:zP->zP->Heap->Option (Bool×Heap)) (rec163c114:SL->SL->(Unit)->Heap->Option (Bool×Heap)) (a0 a1:SL) (a2:(Unit)) (h:Heap):Option (Bool×Heap):=(mA (rec163c114 a0 a1 (()) h) fun (x1:Bool) h2=>some (x1,h2))
def qAi:Ann:=.n
def bA8 (N:Nat) (rec113c114:SL->SL->(Unit)->Heap->Option (Bool×Heap)) (rec114:zP->zP->Heap->Option (Bool×Heap)) (rec163c114:SL->SL->(Unit)->Heap->Option (Bool×Heap)) (a0 a1:zP) (h:Heap):Option (Bool×Heap):=let h1:=h.push (.row (yRA a0) .own);let h2:=h1.push (.row (yRA a1) .own);(dA (.val zO2) (h2.cell (h.next,0)) fun (x3:Int)=>(dA (.val zO2) (h2.cell (h1.next,0)) fun (x4:Int)=>let x5:=eA x3 x4;(bif x5 then(dA (.val zO2) (h2.cell (h.next,1)) fun (x6:Int)=>(dA (.val zO2) (h2.cell (h1.next,1)) fun (x7:Int)=>let x8:=eA x6 x7;(bif x8 then(dA (.val zN2) (h2.cell (h.next,2)) fun (x9:Bool)=>(dA (.val zN2) (h2.cell (h1.next,2)) fun (x10:Bool)=>let x11:Bool:=(bif x9 then x10 else !x10);(bif x11 then(dA (.val zM2) (h2.cell (h.next,3)) fun (x12:zQ2)=>(dA (.val zM2) (h2.cell (h1.next,3)) fun (x13:zQ2)=>let x14:=fB x12 x13;(bif x14 then(dA (.val zN2) (h2.cell (h.next,8)) fun (x15:Bool)=>(dA (.val zN2) (h2.cell (h1.next,8)) fun (x16:Bool)=>let x17:Bool:=(bif x15 then x16 else !x16);(bif x17 then(dA (.val zE) (h2.cells (h.next,4) 4) fun (x18:zR)=>(dA (.val zE) (h2.cells (h1.next,4) 4) fun (x19:zR)=>(mA (f112 N N x18 x19 h2) fun (x20:Bool) h21=>(bif x20 then
 (dA (.val zG) (h21.cells (h.next,9) 2) fun (x22:zB1)=>(dA (.val zG) (h21.cells (h1.next,9) 2) fun (x23:zB1)=>(mA (f164 N x22 x23 h21) fun (x24:Bool) h25=>(bif x24 then(dA (.val zC) (h25.cells (h.next,11) 15) fun (x26:zQ)=>(dA (.val zC) (h25.cells (h1.next,11) 15) fun (x27:zQ)=>(mA (f165 N x26 x27 h25) fun (x28:Bool) h29=>(bif x28 then(dA (.val zD) (h29.cells (h.next,26) 4) fun (x30:zX)=>(dA (.val zD) (h29.cells (h1.next,26) 4) fun (x31:zX)=>(mA (f166 N x30 x31 h29) fun (x32:Bool) h33=>(bif x32 then(dA (.val zL2) (h33.cell (h.next,30)) fun (x34:SL)=>(dA (.val zL2) (h33.cell (h1.next,30)) fun (x35:SL)=>
 (mA (rec113c114 x34 x35 (()) h33) fun (x36:Bool) h37=>(bif x36 then(dA (.val zL2) (h37.cell (h.next,31)) fun (x38:SL)=>(dA (.val zL2) (h37.cell (h1.next,31)) fun (x39:SL)=>(mA (rec113c114 x38 x39 (()) h37) fun (x40:Bool) h41=>some (x40,h41))))else some (false,h37)))))else some (false,h33)))))else some (false,h29)))))else some (false,h25)))))else some (false,h21)))))else some (false,h2))))else some (false,h2))))else some (false,h2))))else some (false,h2))))else some (false,h2))))
def vB2:Ann:=.n
noncomputable def aL (N:Nat) (rec113c114:SL->SL->(Unit)->Heap->Option (Bool×Heap)) (rec114:zP->zP->Heap->Option (Bool×Heap)) (rec163c114:SL->SL->(Unit)->Heap->Option (Bool×Heap)) (go:SL->(Unit)->Bool->SL->Int->Int->Heap->Option (Out×zC1×Heap)) (v1:SL) (v2:(Unit)) (v6:Bool) (v15:SL) (v16 v17:Int) (h:Heap):Option (Out×zC1×Heap):=let x2:=ltInt v17 v16;(bif x2 then(ixK v15.a v15.len v17 32 fun q3=>(dA (.val zA) (h.cells q3 32) fun (x4:zP)=>let h5:=h.push (.row yZA .own);(bB (h5.store (h.next,0) (yRA x4)) fun h6=>(ixK v1.a v1.len v17 32 fun q7=>(dA (.val zA) (h6.cells q7 32) fun (x8:zP)=>let h9:=h6.push (.row yZA .own);(bB (h9.store (h6.next,0) (yRA x8)) fun h10=>(dA (.val zA) (h10.cells (h.next,0) 32) fun (x11:zP)=>(dA (.val zA) (h10.cells (h6.next,0) 32) fun (x12:zP)=>(mA (rec114 x11 x12 h10) fun (x13:Bool) h14=>
 let x15:=!x13;(bif x15 then some (Out.ret,(false,()),h14)else let x16:=jB .i64 (v17+1);go v1 (()) v6 v15 v16 x16 h14))))))))))else some ((Out.exit 0),(v6,()),h))
def jI (N:Nat) (rec113c114:SL->SL->(Unit)->Heap->Option (Bool×Heap)) (rec114:zP->zP->Heap->Option (Bool×Heap)) (rec163c114:SL->SL->(Unit)->Heap->Option (Bool×Heap)) (M:Nat) (v1:SL) (v2:(Unit)) (v6:Bool) (v15:SL) (v16 v17:Int) (h:Heap):Option (Out×zC1×Heap):=iter (fun go s h=>aL N rec113c114 rec114 rec163c114 (fun v1 v2 v6 v15 v16 v17 h=>go (v1,v2,v6,v15,v16,v17,()) h) s.1 s.2.1 s.2.2.1 s.2.2.2.1 s.2.2.2.2.1 s.2.2.2.2.2.1 h) M (v1,v2,v6,v15,v16,v17,()) h
theorem rT (N rec113c114 rec114 rec163c114 M v1 v2 v6 v15 v16 v17 h):jI N rec113c114 rec114 rec163c114 (M+1) v1 v2 v6 v15 v16 v17 h=aL N rec113c114 rec114 rec163c114 (jI N rec113c114 rec114 rec163c114 M) v1 v2 v6 v15 v16 v17 h:=rfl
def rR (N:Nat) (rec113c114:SL->SL->(Unit)->Heap->Option (Bool×Heap)) (rec114:zP->zP->Heap->Option (Bool×Heap)) (rec163c114:SL->SL->(Unit)->Heap->Option (Bool×Heap)) (a0 a1:SL) (a2:(Unit)) (h:Heap):Option (Bool×Heap):=let x1:=!eA (Int.ofNat a0.len) (Int.ofNat a1.len);(bif x1 then some (false,h)else(pC (jI N rec113c114 rec114 rec163c114 N a1 (()) false a0 (Int.ofNat a0.len) 0 h) fun o17 (j18:zC1) h19=>(bif jD o17 (.exit 0) then some (true,h19)else some (j18.1,h19))))
def rAi:Ann:=(.two .n (.two .n (.two (.two .n (.two (.loop [(1,zL2),(2,(.clo 114 [])),(6,zN2),(15,zL2),(16,zO2),(17,zO2)] [(.exit 0),.ret] [(6,zN2)] .n) .n)) .n)))
def pO (N M:Nat):((SL->SL->(Unit)->Heap->Option (Bool×Heap))×(zP->zP->Heap->Option (Bool×Heap))×(SL->SL->(Unit)->Heap->Option (Bool×Heap))×Unit):=Nat.rec (fun _ _ _ _=>none,fun _ _ _=>none,fun _ _ _ _=>none,()) (fun _ r=>(wJ N r.1 r.2.1 r.2.2.1,bA8 N r.1 r.2.1 r.2.2.1,rR N r.1 r.2.1 r.2.2.1,())) M
def rF (N M:Nat):SL->SL->(Unit)->Heap->Option (Bool×Heap):=(pO N M).1
def f114 (N M:Nat):zP->zP->Heap->Option (Bool×Heap):=(pO N M).2.1
def kH (N M:Nat):SL->SL->(Unit)->Heap->Option (Bool×Heap):=(pO N M).2.2.1
theorem bL (N M a0 a1 a2 h):rF N (M+1) a0 a1 a2 h=wJ N (rF N M) (f114 N M) (kH N M) a0 a1 a2 h:=rfl
theorem cX (N M a0 a1 h):f114 N (M+1) a0 a1 h=bA8 N (rF N M) (f114 N M) (kH N M) a0 a1 h:=rfl
theorem bA3 (N M a0 a1 a2 h):kH N (M+1) a0 a1 a2 h=rR N (rF N M) (f114 N M) (kH N M) a0 a1 a2 h:=rfl
theorem uF (N:Nat):∀ M:Nat,(jC Tryz.prog 113 [zL2,zL2,(.clo 114 [])] (.val zN2) (fun x h=>rF N M x.1 x.2.1 x.2.2.1 h))/\(jC Tryz.prog 114 [zA,zA] (.val zN2) (fun x h=>f114 N M x.1 x.2.1 h))/\(jC Tryz.prog 163 [zL2,zL2,(.clo 114 [])] (.val zN2) (fun x h=>kH N M x.1 x.2.1 x.2.2.1 h))/\True
 | 0=>⟨(fun xs h r h' hx=>by cases hx),(fun xs h r h' hx=>by cases hx),(fun xs h r h' hx=>by cases hx),trivial⟩
 | M+1=>⟨cD (pE (sel:=fun a=>fA7 2 114 a) (uF N M).2.2.1 nA) N qAi Tryz.f113,cD (iA (jAb N) (iA (mAm N) (iA (aA3 N) (pE (sel:=fun a=>fA7 2 114 a) (uF N M).1 (iA (rAw N) nA))))) N vB2 Tryz.f114,cD (iA (uF N M).2.1 nA) N rAi Tryz.f163,trivial⟩
theorem tAw (N:Nat):jC Tryz.prog 114 [zA,zA] (.val zN2) (fun x h=>f114 N N x.1 x.2.1 h):=(uF N N).2.1
end
end Qp
namespace Qp
def nAm (tys:List CTy) (n:Nat) (c:wN tys->List AV) (z:List AV) (F:wN tys->wN tys->Heap->Option (Bool×Heap)) (go:SL->Unit->Bool->SL->Int->Int->Heap->Option (Out×zC1×Heap)) (v1:SL) (v6:Bool) (v15:SL) (v16 v17:Int) (h:Heap):Option (Out×zC1×Heap):=
 bif ltInt v17 v16 then
  (ixK v15.a v15.len v17 n fun q3=>
  (dA (.val (.agg tys)) (h.cells q3 n) fun x4=>
  (bB ((h.push (.row z .own)).store (h.next,0) (c x4)) fun h6=>
  (ixK v1.a v1.len v17 n fun q7=>
  (dA (.val (.agg tys)) (h6.cells q7 n) fun x8=>
  (bB ((h6.push (.row z .own)).store (h6.next,0) (c x8)) fun h10=>
  (dA (.val (.agg tys)) (h10.cells (h.next,0) n) fun x11=>
  (dA (.val (.agg tys)) (h10.cells (h6.next,0) n) fun x12=>
  (mA (F x11 x12 h10) fun x13 h14=>
  (bif !x13 then some (Out.ret,(false,()),h14) else go v1 () v6 v15 v16 (jB .i64 (v17+1)) h14))))))))))
 else some ((Out.exit 0),(v6,()),h)
structure Rec (tys:List CTy) (n:Nat) (c:wN tys->List AV) (P:D->Prop):Prop where
 len:∀ r,(c r).length=n
 agg:∀ {β:Type} (r:wN tys) (K:wN tys->Option β),dA (.val (.agg tys)) (some (.agg (c r))) K=K r
 inv:∀ {h:Heap} {V:Nat->Prop} {x:D} {cs:List AV},P x->Dt h V x cs->∃ r,cs=c r
section
variable {tys:List CTy} {n:Nat} {c:wN tys->List AV} {z:List AV} {P:D->Prop}
theorem Rec.elt (R:Rec tys n c P) {h:Heap} {V:Nat->Prop} {s:SL} {xs:List D} (x:Sl h V s xs) {i:Nat} (hi:i<xs.length) (hP:P xs[i]):∃ r,h.cells (s.at i n) n=some (.agg (c r))/\Dt h V xs[i] (c r):=by
 obtain ⟨cs,e⟩:=x.elt hi;obtain ⟨r,rfl⟩:=R.inv hP e.dt;have hz:s.sz=n:=by rw [<- e.len,R.len]
 have hw:=e.whole;rw [hz] at hw;exact ⟨r,hw,e.dt⟩
theorem Rec.cells (R:Rec tys n c P) {H:Heap} {A:Nat} {r:wN tys} (o:H.own A (c r)) {β:Type} (K:wN tys->Option β):dA (.val (.agg tys)) (H.cells (A,0) n) K=K r:=by
 have:H.cells (A,0) n=some (.agg (c r)):=by
  rw [o.cells (j:=0) (m:=n) (by rw [R.len];omega),List.drop_zero,List.take_of_length_le (by rw [R.len];exact Nat.le_refl _)]
 rw [this,R.agg]
theorem Rec.park (R:Rec tys n c P) (hz:z.length=n) (h:Heap) (r:wN tys):∃ h',(∀ {β:Type} (K:Heap->Option β),bB ((h.push (.row z .own)).store (h.next,0) (c r)) K=K h')/\Chg [] h h'/\h'.own h.next (c r):=by
 have o:=wA h z;have ch:=tA h (.row z .own);have hst:(h.push (.row z .own)).store (h.next,0) (c r)=some ((h.push (.row z .own)).put h.next (.row (c r) .own)):=o.store (by rw [R.len,hz]);exact ⟨_,fun K=>by rw [hst,fA],ch.put (.inr (Nat.le_refl _)) _,kJ o _⟩
theorem uAw (R:Rec tys n c P) (hz:z.length=n) {F:wN tys->wN tys->Heap->Option (Bool×Heap)} {L:Nat->SL->Unit->Bool->SL->Int->Int->Heap->Option (Out×zC1×Heap)} (hs:∀ M v1 v6 v15 v16 v17 h,L (M+1) v1 () v6 v15 v16 v17 h=nAm tys n c z F (L M) v1 v6 v15 v16 v17 h)
  {xs:List D} (hP:∀ x∈xs,P x) (hF:∀ x∈xs,∀ r1 r2 H V W,Dt H V x (c r1)->Dt H W x (c r2)->∃ H',F r1 r2 H=some (true,H')/\Chg [] H H') (hl:xs.length<=2000000) :
  ∀ (M i:Nat) (h:Heap) (V W:Nat->Prop) (s1 s2:SL),i<=xs.length->xs.length-i<M->Sl h V s1 xs->Sl h W s2 xs->∃ h',L M s2 () false s1 (xs.length:Int) (i:Int) h=some (.exit 0,(false,()),h')/\Chg [] h h':=by
 intro M
 induction M with
 | zero=>grind
 | succ M ih=>
  intro i h V W s1 s2 hi hM x1 x2;rw [hs];unfold nAm;rw [rB]
  by_cases q:i<xs.length
  ·rw [decide_eq_true q,cond_true]
   have hm:=List.getElem_mem q;obtain ⟨r1,g1,d1⟩:=R.elt x1 q (hP _ hm);rw [x1.ix q n,g1,R.agg];obtain ⟨h6,p6,c6,o6⟩:=R.park hz h r1;rw [p6];have x2':=x2.chg c6 (by simp);obtain ⟨r2,g2,d2⟩:=R.elt x2' q (hP _ hm);rw [x2'.ix q n,g2,R.agg];obtain ⟨h10,p10,c10,o10⟩:=R.park hz h6 r2;rw [p10,R.cells (o6.chg c10 (by simp)),R.cells o10];obtain ⟨h14,e14,c14⟩:=hF _ hm r1 r2 h10 V W (Dt.chg (c6.trans c10) (by simp) d1) (Dt.chg c10 (by simp) d2);rw [e14,aA];simp only [Bool.not_true,cond_false];have c0:=(c6.trans c10).trans c14;rw [aB (by omega)];obtain ⟨h',e',c'⟩:=ih (i+1) h14 V W s1 s2 q (by omega) (x1.chg c0 (by simp)) (x2.chg c0 (by simp));exact ⟨h',e',c0.trans c'⟩
  ·rw [decide_eq_false q,cond_false]
   exact ⟨h,rfl,Chg.refl _ _⟩
theorem vAt {h:Heap} {V W:Nat->Prop} {s1 s2:SL} {xs:List D} (x1:Sl h V s1 xs) (x2:Sl h W s2 xs):eA (Int.ofNat s1.len) (Int.ofNat s2.len)=true:=by
 rw [x1.len,x2.len,eqI];simp
end
section
variable {N:Nat} {h:Heap} {V W:Nat->Prop}
theorem mAb {s1 s2:SL} {xs:List Bs} (x1:Sl h V s1 (xs.map D.s)) (x2:Sl h W s2 (xs.map D.s)) (hl:xs.length<=2000000):∀ (M i:Nat),i<=xs.length->xs.length-i<M->wA2 N M s1 s2 false (xs.length:Int) (i:Int) h=some (.exit 0,(false,()),h):=by
 intro M
 induction M with
 | zero=>intro i _ h;omega
 | succ M ih=>
  intro i hi hM;rw [uS];unfold fQ;simp only [rB]
  by_cases q:i<xs.length
  ·simp only [q,decide_true,cond_true]
   have q':i<(xs.map D.s).length:=by grind
   rw [x1.ix q' 1,vE x1 q];simp only [bA,kA];rw [x2.ix q' 1,vE x2 q];simp only [bA,kA,eqB.2,Bool.not_true,cond_false]
   grind [aB]
  grind
theorem oAm {s1 s2:SL} {xs:List Bs} (x1:Sl h V s1 (xs.map D.s)) (x2:Sl h W s2 (xs.map D.s)) (hl:xs.length<=2000000) (hN:xs.length<N):f106 N s1 s2 h=some (true,h):=by
 unfold f106;simp only [vAt x1 x2,Bool.not_true,cond_false]
 have:=mAb (N:=N) x1 x2 hl N 0 (Nat.zero_le _) (by omega)
 have l1:s1.len=xs.length:=by rw [x1.len,List.length_map]
 rw [l1];rw [show ((0:Nat):Int)=0 from rfl] at this;rw [show Int.ofNat xs.length=(xs.length:Int) from rfl,this];rfl
theorem pAm {nm:Bs} {s1 s2:SL} {xs:List Bs} (x1:Sl h V s1 (xs.map D.s)) (x2:Sl h W s2 (xs.map D.s)) (hl:xs.length<=2000000) (hN:xs.length<N):∃ h',f164 N (nm,s1,()) (nm,s2,()) h=some (true,h')/\Chg [] h h':=by
 unfold f164;have o1:=wA h (lfc (nm,s1,()));have c1:=tA h (.row (lfc (nm,s1,())) .own);have e1:h.push (.row [(.str nm),(yL s1)] .own)=h.push (.row (lfc (nm,s1,())) .own):=rfl;dsimp only;rw [e1];generalize h.push (.row (lfc (nm,s1,())) .own)=h1 at *;have o2:=wA h1 (lfc (nm,s2,()));have c2:=tA h1 (.row (lfc (nm,s2,())) .own);have e2:h1.push (.row [(.str nm),(yL s2)] .own)=h1.push (.row (lfc (nm,s2,())) .own):=rfl;rw [e2];have o1:=o1.chg c2 (by simp);generalize h1.push (.row (lfc (nm,s2,())) .own)=h2 at *;have c02:=c1.trans c2;have a0:h2.cell (h.next,0)=some (.str nm):=o1.cell 0;have a1:h2.cell (h.next,1)=some (SL.av s1):=o1.cell 1;have b0:h2.cell (h1.next,0)=some (.str nm):=o2.cell 0;have b1:h2.cell (h1.next,1)=some (SL.av s2):=o2.cell 1;simp only [Nat.zero_add,a0,a1,b0,b1,bA,kA,eqB.2,cond_true,SL.av,jA];rw [oAm (x1.chg c02 (by simp)) (x2.chg c02 (by simp)) hl hN,aA];exact ⟨_,rfl,c02⟩
end
end Qp
namespace Qp
theorem vAw (b:Bool):(bif b then b else !b)=true:=by cases b <;> rfl
theorem tBc {N:Nat} {H h:Heap} {V W:Nat->Prop} {s1 s2:SL} {xs:List Bs} (c:Chg [] H h) (x1:Sl H V s1 (xs.map D.s)) (x2:Sl H W s2 (xs.map D.s)) (hl:xs.length<=2000000) (hN:xs.length<N):∃ h',f106 N s1 s2 h=some (true,h')/\Chg [] h h':=
 ⟨h,oAm (x1.chg c (by simp)) (x2.chg c (by simp)) hl hN,Chg.refl _ _⟩
section
variable {N:Nat} {h:Heap} {V W:Nat->Prop}
theorem fAr {k n:Int} {p1 p2:LfV} (hp:∀ H,Chg [] h H->∃ H',f164 N (p1.1,p1.2.1,()) (p2.1,p2.2.1,()) H=some (true,H')/\Chg [] H H'):∃ h',f166 N (k,n,p1.1,p1.2.1,()) (k,n,p2.1,p2.2.1,()) h=some (true,h')/\Chg [] h h':=by
 unfold f166;dsimp only;have o1:=wA h [(.int .i64 k),(.int .i64 n),(.str p1.1),(yL p1.2.1)];have c1:=tA h (.row [(.int .i64 k),(.int .i64 n),(.str p1.1),(yL p1.2.1)] .own);generalize h.push (.row [(.int .i64 k),(.int .i64 n),(.str p1.1),(yL p1.2.1)] .own)=h1 at *;have o2:=wA h1 [(.int .i64 k),(.int .i64 n),(.str p2.1),(yL p2.2.1)];have c2:=tA h1 (.row [(.int .i64 k),(.int .i64 n),(.str p2.1),(yL p2.2.1)] .own);have o1:=o1.chg c2 (by simp);generalize h1.push (.row [(.int .i64 k),(.int .i64 n),(.str p2.1),(yL p2.2.1)] .own)=H0 at *;have c0:=c1.trans c2
 clear c1 c2
 have qa0:H0.cell (h.next,0)=some (.int .i64 k):=o1.cell 0;have qb0:H0.cell (h1.next,0)=some (.int .i64 k):=o2.cell 0;have qa1:H0.cell (h.next,1)=some (.int .i64 n):=o1.cell 1;have qb1:H0.cell (h1.next,1)=some (.int .i64 n):=o2.cell 1;have qa2:H0.cells (h.next,2) 2=some (.agg (lfc p1)):=o1.cells (j:=2) (m:=2) (show 4<=4 by decide);have qb2:H0.cells (h1.next,2) 2=some (.agg (lfc p2)):=o2.cells (j:=2) (m:=2) (show 4<=4 by decide);simp only [Nat.zero_add,qa0,qb0,vA,aI,cond_true,qa1,qb1,bA];rw [qa2,jH,qb2,jH];obtain ⟨H1,qe1,qk1⟩:∃ H',f164 N (p1.1,p1.2.1,()) (p2.1,p2.2.1,()) H0=some (true,H')/\Chg [] H0 H':=hp H0 c0;rw [qe1,aA];have o1:=o1.chg qk1 (by simp);have o2:=o2.chg qk1 (by simp);have c1:=c0.trans qk1;exact ⟨_,rfl,c1⟩
theorem gAr {k o:Int} {a1 a2 b1 b2:OpV} {p1 p2:LfV} {nm:Bs} {n1 n2 g1 g2:SL} (ha:∀ H,Chg [] h H->∃ H',f166 N a1 a2 H=some (true,H')/\Chg [] H H') (hb:∀ H,Chg [] h H->∃ H',f166 N b1 b2 H=some (true,H')/\Chg [] H H') (hp:∀ H,Chg [] h H->∃ H',f164 N (p1.1,p1.2.1,()) (p2.1,p2.2.1,()) H=some (true,H')/\Chg [] H H')
  (hn:∀ H,Chg [] h H->∃ H',f106 N n1 n2 H=some (true,H')/\Chg [] H H') (hg:∀ H,Chg [] h H->∃ H',uG N g1 g2 () H=some (true,H')/\Chg [] H H'):∃ h',f165 N (k,a1.1,a1.2.1,a1.2.2.1,a1.2.2.2.1,b1.1,b1.2.1,b1.2.2.1,b1.2.2.2.1,o,p1.1,p1.2.1,nm,n1,g1,()) (k,a2.1,a2.2.1,a2.2.2.1,a2.2.2.2.1,b2.1,b2.2.1,b2.2.2.1,b2.2.2.2.1,o,p2.1,p2.2.1,nm,n2,g2,()) h=some (true,h')/\Chg [] h h':=by
 unfold f165;dsimp only;have o1:=wA h [(.int .i64 k),(.int .i64 a1.1),(.int .i64 a1.2.1),(.str a1.2.2.1),(yL a1.2.2.2.1),(.int .i64 b1.1),(.int .i64 b1.2.1),(.str b1.2.2.1),(yL b1.2.2.2.1),(.int .i64 o),(.str p1.1),(yL p1.2.1),(.str nm),(yL n1),(yL g1)];have c1:=tA h (.row [(.int .i64 k),(.int .i64 a1.1),(.int .i64 a1.2.1),(.str a1.2.2.1),(yL a1.2.2.2.1),(.int .i64 b1.1),(.int .i64 b1.2.1),(.str b1.2.2.1),(yL b1.2.2.2.1),(.int .i64 o),(.str p1.1),(yL p1.2.1),(.str nm),(yL n1),(yL g1)] .own);generalize h.push (.row [(.int .i64 k),(.int .i64 a1.1),(.int .i64 a1.2.1),(.str a1.2.2.1),(yL a1.2.2.2.1),(.int .i64 b1.1),(.int .i64 b1.2.1),(.str b1.2.2.1),(yL b1.2.2.2.1),(.int .i64 o),(.str p1.1),(yL p1.2.1),(.str nm),(yL n1),(yL g1)] .own)=h1 at *;have o2:=wA h1 [(.int .i64 k),(.int .i64 a2.1),(.int .i64 a2.2.1),(.str a2.2.2.1),(yL a2.2.2.2.1),(.int .i64 b2.1),(.int .i64 b2.2.1),(.str b2.2.2.1),(yL b2.2.2.2.1),(.int .i64 o),(.str p2.1),(yL p2.2.1),(.str nm),(yL n2),(yL g2)];have c2:=tA h1 (.row [(.int .i64 k),(.int .i64 a2.1),(.int .i64 a2.2.1),(.str a2.2.2.1),(yL a2.2.2.2.1),(.int .i64 b2.1),(.int .i64 b2.2.1),(.str b2.2.2.1),(yL b2.2.2.2.1),(.int .i64 o),(.str p2.1),(yL p2.2.1),(.str nm),(yL n2),(yL g2)] .own);have o1:=o1.chg c2 (by simp);generalize h1.push (.row [(.int .i64 k),(.int .i64 a2.1),(.int .i64 a2.2.1),(.str a2.2.2.1),(yL a2.2.2.2.1),(.int .i64 b2.1),(.int .i64 b2.2.1),(.str b2.2.2.1),(yL b2.2.2.2.1),(.int .i64 o),(.str p2.1),(yL p2.2.1),(.str nm),(yL n2),(yL g2)] .own)=H0 at *;have c0:=c1.trans c2
 clear c1 c2
 have qa0:H0.cell (h.next,0)=some (.int .i64 k):=o1.cell 0;have qb0:H0.cell (h1.next,0)=some (.int .i64 k):=o2.cell 0;have qa1:H0.cells (h.next,1) 4=some (.agg (opc a1)):=o1.cells (j:=1) (m:=4) (show 5<=15 by decide);have qb1:H0.cells (h1.next,1) 4=some (.agg (opc a2)):=o2.cells (j:=1) (m:=4) (show 5<=15 by decide);simp only [Nat.zero_add,qa0,qb0,vA,aI,cond_true,bA];rw [qa1,dH,qb1,dH];obtain ⟨H1,qe1,qk1⟩:∃ H',f166 N a1 a2 H0=some (true,H')/\Chg [] H0 H':=ha H0 c0;rw [qe1,aA];have o1:=o1.chg qk1 (by simp);have o2:=o2.chg qk1 (by simp);have c1:=c0.trans qk1;have qa5:H1.cells (h.next,5) 4=some (.agg (opc b1)):=o1.cells (j:=5) (m:=4) (show 9<=15 by decide);have qb5:H1.cells (h1.next,5) 4=some (.agg (opc b2)):=o2.cells (j:=5) (m:=4) (show 9<=15 by decide);simp only [cond_true];rw [qa5,dH,qb5,dH];obtain ⟨H2,qe2,qk2⟩:∃ H',f166 N b1 b2 H1=some (true,H')/\Chg [] H1 H':=hb H1 c1;rw [qe2,aA];have o1:=o1.chg qk2 (by simp);have o2:=o2.chg qk2 (by simp);have c2:=c1.trans qk2;have qa9:H2.cell (h.next,9)=some (.int .i64 o):=o1.cell 9;have qb9:H2.cell (h1.next,9)=some (.int .i64 o):=o2.cell 9;have qa10:H2.cells (h.next,10) 2=some (.agg (lfc p1)):=o1.cells (j:=10) (m:=2) (show 12<=15 by decide);have qb10:H2.cells (h1.next,10) 2=some (.agg (lfc p2)):=o2.cells (j:=10) (m:=2) (show 12<=15 by decide);simp only [qa9,qb9,vA,aI,cond_true,bA];rw [qa10,jH,qb10,jH];obtain ⟨H3,qe3,qk3⟩:∃ H',f164 N (p1.1,p1.2.1,()) (p2.1,p2.2.1,()) H2=some (true,H')/\Chg [] H2 H':=hp H2 c2;rw [qe3,aA];have o1:=o1.chg qk3 (by simp);have o2:=o2.chg qk3 (by simp);have c3:=c2.trans qk3;have qa12:H3.cell (h.next,12)=some (.str nm):=o1.cell 12;have qb12:H3.cell (h1.next,12)=some (.str nm):=o2.cell 12;have qa13:H3.cell (h.next,13)=some (yL n1):=o1.cell 13;have qb13:H3.cell (h1.next,13)=some (yL n2):=o2.cell 13;simp only [qa12,qb12,kA,eqB.2,cond_true,qa13,qb13,jA,bA];obtain ⟨H4,qe4,qk4⟩:∃ H',f106 N n1 n2  H3=some (true,H')/\Chg [] H3 H':=hn H3 c3;show ∃ h',(mA (f106 N n1 n2  H3) _)=_/\_;rw [qe4,aA];have o1:=o1.chg qk4 (by simp);have o2:=o2.chg qk4 (by simp);have c4:=c3.trans qk4;have qa14:H4.cell (h.next,14)=some (yL g1):=o1.cell 14;have qb14:H4.cell (h1.next,14)=some (yL g2):=o2.cell 14;simp only [qa14,qb14,jA,cond_true,bA];obtain ⟨H5,qe5,qk5⟩:∃ H',uG N g1 g2 () H4=some (true,H')/\Chg [] H4 H':=hg H4 c4;show ∃ h',(mA (uG N g1 g2 () H4) _)=_/\_;rw [qe5,aA];have o1:=o1.chg qk5 (by simp);have o2:=o2.chg qk5 (by simp);have c5:=c4.trans qk5;exact ⟨_,rfl,c5⟩
theorem iAr {rec112 rec162c112 rec193c112} {k:Int} {x:Bs} {l1 l2 e1 e2:SL} (hl:∀ H,Chg [] h H->∃ H',f106 N l1 l2 H=some (true,H')/\Chg [] H H') (he:∀ H,Chg [] h H->∃ H',rec162c112 e1 e2 () H=some (true,H')/\Chg [] H H'):∃ h',yA7 N rec112 rec162c112 rec193c112 (k,x,l1,e1,()) (k,x,l2,e2,()) h=some (true,h')/\Chg [] h h':=by
 unfold yA7;dsimp only;have o1:=wA h [(.int .i64 k),(.str x),(yL l1),(yL e1)];have c1:=tA h (.row [(.int .i64 k),(.str x),(yL l1),(yL e1)] .own);generalize h.push (.row [(.int .i64 k),(.str x),(yL l1),(yL e1)] .own)=h1 at *;have o2:=wA h1 [(.int .i64 k),(.str x),(yL l2),(yL e2)];have c2:=tA h1 (.row [(.int .i64 k),(.str x),(yL l2),(yL e2)] .own);have o1:=o1.chg c2 (by simp);generalize h1.push (.row [(.int .i64 k),(.str x),(yL l2),(yL e2)] .own)=H0 at *;have c0:=c1.trans c2
 clear c1 c2
 have qa0:H0.cell (h.next,0)=some (.int .i64 k):=o1.cell 0;have qb0:H0.cell (h1.next,0)=some (.int .i64 k):=o2.cell 0;have qa1:H0.cell (h.next,1)=some (.str x):=o1.cell 1;have qb1:H0.cell (h1.next,1)=some (.str x):=o2.cell 1;have qa2:H0.cell (h.next,2)=some (yL l1):=o1.cell 2;have qb2:H0.cell (h1.next,2)=some (yL l2):=o2.cell 2;simp only [Nat.zero_add,qa0,qb0,vA,aI,cond_true,qa1,qb1,kA,eqB.2,qa2,qb2,jA,bA];obtain ⟨H1,qe1,qk1⟩:∃ H',f106 N l1 l2  H0=some (true,H')/\Chg [] H0 H':=hl H0 c0;show ∃ h',(mA (f106 N l1 l2  H0) _)=_/\_;rw [qe1,aA];have o1:=o1.chg qk1 (by simp);have o2:=o2.chg qk1 (by simp);have c1:=c0.trans qk1;have qa3:H1.cell (h.next,3)=some (yL e1):=o1.cell 3;have qb3:H1.cell (h1.next,3)=some (yL e2):=o2.cell 3;simp only [qa3,qb3,jA,cond_true,bA];obtain ⟨H2,qe2,qk2⟩:∃ H',rec162c112 e1 e2 () H1=some (true,H')/\Chg [] H1 H':=he H1 c1;show ∃ h',(mA (rec162c112 e1 e2 () H1) _)=_/\_;rw [qe2,aA];have o1:=o1.chg qk2 (by simp);have o2:=o2.chg qk2 (by simp);have c2:=c1.trans qk2;exact ⟨_,rfl,c2⟩
theorem nAf {rec113c114 rec114 rec163c114} {k a:Int} {m hs:Bool} {nm:Bs} {t1 t2:TyV} {p1 p2:LfV} {v1 v2:VaV} {o1 o2:OpV} {th1 th2 el1 el2:SL} (ht:∀ H,Chg [] h H->∃ H',f112 N N t1 t2 H=some (true,H')/\Chg [] H H') (hp:∀ H,Chg [] h H->∃ H',f164 N (p1.1,p1.2.1,()) (p2.1,p2.2.1,()) H=some (true,H')/\Chg [] H H') (hv:∀ H,Chg [] h H->∃ H',f165 N v1 v2 H=some (true,H')/\Chg [] H H') (ho:∀ H,Chg [] h H->∃ H',f166 N o1 o2 H=some (true,H')/\Chg [] H H')
  (hth:∀ H,Chg [] h H->∃ H',rec113c114 th1 th2 () H=some (true,H')/\Chg [] H H') (hel:∀ H,Chg [] h H->∃ H',rec113c114 el1 el2 () H=some (true,H')/\Chg [] H H'):∃ h',bA8 N rec113c114 rec114 rec163c114 (k,a,m,nm,t1.1,t1.2.1,t1.2.2.1,t1.2.2.2.1,hs,p1.1,p1.2.1,v1.1,v1.2.1,v1.2.2.1,v1.2.2.2.1,v1.2.2.2.2.1,v1.2.2.2.2.2.1,v1.2.2.2.2.2.2.1,v1.2.2.2.2.2.2.2.1,v1.2.2.2.2.2.2.2.2.1,v1.2.2.2.2.2.2.2.2.2.1,v1.2.2.2.2.2.2.2.2.2.2.1,v1.2.2.2.2.2.2.2.2.2.2.2.1,v1.2.2.2.2.2.2.2.2.2.2.2.2.1,v1.2.2.2.2.2.2.2.2.2.2.2.2.2.1,v1.2.2.2.2.2.2.2.2.2.2.2.2.2.2.1,o1.1,o1.2.1,o1.2.2.1,o1.2.2.2.1,th1,el1,()) (k,a,m,nm,t2.1,t2.2.1,t2.2.2.1,t2.2.2.2.1,hs,p2.1,p2.2.1,v2.1,v2.2.1,v2.2.2.1,v2.2.2.2.1,v2.2.2.2.2.1,v2.2.2.2.2.2.1,v2.2.2.2.2.2.2.1,v2.2.2.2.2.2.2.2.1,v2.2.2.2.2.2.2.2.2.1,v2.2.2.2.2.2.2.2.2.2.1,v2.2.2.2.2.2.2.2.2.2.2.1,v2.2.2.2.2.2.2.2.2.2.2.2.1,v2.2.2.2.2.2.2.2.2.2.2.2.2.1,v2.2.2.2.2.2.2.2.2.2.2.2.2.2.1,v2.2.2.2.2.2.2.2.2.2.2.2.2.2.2.1,o2.1,o2.2.1,o2.2.2.1,o2.2.2.2.1,th2,el2,()) h=some (true,h')/\Chg [] h h':=by
 unfold bA8;dsimp only;have O1:=wA h [(.int .i64 k),(.int .i64 a),(.bool m),(.str nm),(.int .i64 t1.1),(.str t1.2.1),(yL t1.2.2.1),(yL t1.2.2.2.1),(.bool hs),(.str p1.1),(yL p1.2.1),(.int .i64 v1.1),(.int .i64 v1.2.1),(.int .i64 v1.2.2.1),(.str v1.2.2.2.1),(yL v1.2.2.2.2.1),(.int .i64 v1.2.2.2.2.2.1),(.int .i64 v1.2.2.2.2.2.2.1),(.str v1.2.2.2.2.2.2.2.1),(yL v1.2.2.2.2.2.2.2.2.1),(.int .i64 v1.2.2.2.2.2.2.2.2.2.1),(.str v1.2.2.2.2.2.2.2.2.2.2.1),(yL v1.2.2.2.2.2.2.2.2.2.2.2.1),(.str v1.2.2.2.2.2.2.2.2.2.2.2.2.1),(yL v1.2.2.2.2.2.2.2.2.2.2.2.2.2.1),(yL v1.2.2.2.2.2.2.2.2.2.2.2.2.2.2.1),(.int .i64 o1.1),(.int .i64 o1.2.1),(.str o1.2.2.1),(yL o1.2.2.2.1),(yL th1),(yL el1)];have c1:=tA h (.row [(.int .i64 k),(.int .i64 a),(.bool m),(.str nm),(.int .i64 t1.1),(.str t1.2.1),(yL t1.2.2.1),(yL t1.2.2.2.1),(.bool hs),(.str p1.1),(yL p1.2.1),(.int .i64 v1.1),(.int .i64 v1.2.1),(.int .i64 v1.2.2.1),(.str v1.2.2.2.1),(yL v1.2.2.2.2.1),(.int .i64 v1.2.2.2.2.2.1),(.int .i64 v1.2.2.2.2.2.2.1),(.str v1.2.2.2.2.2.2.2.1),(yL v1.2.2.2.2.2.2.2.2.1),(.int .i64 v1.2.2.2.2.2.2.2.2.2.1),(.str v1.2.2.2.2.2.2.2.2.2.2.1),(yL v1.2.2.2.2.2.2.2.2.2.2.2.1),(.str v1.2.2.2.2.2.2.2.2.2.2.2.2.1),(yL v1.2.2.2.2.2.2.2.2.2.2.2.2.2.1),(yL v1.2.2.2.2.2.2.2.2.2.2.2.2.2.2.1),(.int .i64 o1.1),(.int .i64 o1.2.1),(.str o1.2.2.1),(yL o1.2.2.2.1),(yL th1),(yL el1)] .own);generalize h.push (.row [(.int .i64 k),(.int .i64 a),(.bool m),(.str nm),(.int .i64 t1.1),(.str t1.2.1),(yL t1.2.2.1),(yL t1.2.2.2.1),(.bool hs),(.str p1.1),(yL p1.2.1),(.int .i64 v1.1),(.int .i64 v1.2.1),(.int .i64 v1.2.2.1),(.str v1.2.2.2.1),(yL v1.2.2.2.2.1),(.int .i64 v1.2.2.2.2.2.1),(.int .i64 v1.2.2.2.2.2.2.1),(.str v1.2.2.2.2.2.2.2.1),(yL v1.2.2.2.2.2.2.2.2.1),(.int .i64 v1.2.2.2.2.2.2.2.2.2.1),(.str v1.2.2.2.2.2.2.2.2.2.2.1),(yL v1.2.2.2.2.2.2.2.2.2.2.2.1),(.str v1.2.2.2.2.2.2.2.2.2.2.2.2.1),(yL v1.2.2.2.2.2.2.2.2.2.2.2.2.2.1),(yL v1.2.2.2.2.2.2.2.2.2.2.2.2.2.2.1),(.int .i64 o1.1),(.int .i64 o1.2.1),(.str o1.2.2.1),(yL o1.2.2.2.1),(yL th1),(yL el1)] .own)=h1 at *;have O2:=wA h1 [(.int .i64 k),(.int .i64 a),(.bool m),(.str nm),(.int .i64 t2.1),(.str t2.2.1),(yL t2.2.2.1),(yL t2.2.2.2.1),(.bool hs),(.str p2.1),(yL p2.2.1),(.int .i64 v2.1),(.int .i64 v2.2.1),(.int .i64 v2.2.2.1),(.str v2.2.2.2.1),(yL v2.2.2.2.2.1),(.int .i64 v2.2.2.2.2.2.1),(.int .i64 v2.2.2.2.2.2.2.1),(.str v2.2.2.2.2.2.2.2.1),(yL v2.2.2.2.2.2.2.2.2.1),(.int .i64 v2.2.2.2.2.2.2.2.2.2.1),(.str v2.2.2.2.2.2.2.2.2.2.2.1),(yL v2.2.2.2.2.2.2.2.2.2.2.2.1),(.str v2.2.2.2.2.2.2.2.2.2.2.2.2.1),(yL v2.2.2.2.2.2.2.2.2.2.2.2.2.2.1),(yL v2.2.2.2.2.2.2.2.2.2.2.2.2.2.2.1),(.int .i64 o2.1),(.int .i64 o2.2.1),(.str o2.2.2.1),(yL o2.2.2.2.1),(yL th2),(yL el2)];have c2:=tA h1 (.row [(.int .i64 k),(.int .i64 a),(.bool m),(.str nm),(.int .i64 t2.1),(.str t2.2.1),(yL t2.2.2.1),(yL t2.2.2.2.1),(.bool hs),(.str p2.1),(yL p2.2.1),(.int .i64 v2.1),(.int .i64 v2.2.1),(.int .i64 v2.2.2.1),(.str v2.2.2.2.1),(yL v2.2.2.2.2.1),(.int .i64 v2.2.2.2.2.2.1),(.int .i64 v2.2.2.2.2.2.2.1),(.str v2.2.2.2.2.2.2.2.1),(yL v2.2.2.2.2.2.2.2.2.1),(.int .i64 v2.2.2.2.2.2.2.2.2.2.1),(.str v2.2.2.2.2.2.2.2.2.2.2.1),(yL v2.2.2.2.2.2.2.2.2.2.2.2.1),(.str v2.2.2.2.2.2.2.2.2.2.2.2.2.1),(yL v2.2.2.2.2.2.2.2.2.2.2.2.2.2.1),(yL v2.2.2.2.2.2.2.2.2.2.2.2.2.2.2.1),(.int .i64 o2.1),(.int .i64 o2.2.1),(.str o2.2.2.1),(yL o2.2.2.2.1),(yL th2),(yL el2)] .own);have O1:=O1.chg c2 (by simp);generalize h1.push (.row [(.int .i64 k),(.int .i64 a),(.bool m),(.str nm),(.int .i64 t2.1),(.str t2.2.1),(yL t2.2.2.1),(yL t2.2.2.2.1),(.bool hs),(.str p2.1),(yL p2.2.1),(.int .i64 v2.1),(.int .i64 v2.2.1),(.int .i64 v2.2.2.1),(.str v2.2.2.2.1),(yL v2.2.2.2.2.1),(.int .i64 v2.2.2.2.2.2.1),(.int .i64 v2.2.2.2.2.2.2.1),(.str v2.2.2.2.2.2.2.2.1),(yL v2.2.2.2.2.2.2.2.2.1),(.int .i64 v2.2.2.2.2.2.2.2.2.2.1),(.str v2.2.2.2.2.2.2.2.2.2.2.1),(yL v2.2.2.2.2.2.2.2.2.2.2.2.1),(.str v2.2.2.2.2.2.2.2.2.2.2.2.2.1),(yL v2.2.2.2.2.2.2.2.2.2.2.2.2.2.1),(yL v2.2.2.2.2.2.2.2.2.2.2.2.2.2.2.1),(.int .i64 o2.1),(.int .i64 o2.2.1),(.str o2.2.2.1),(yL o2.2.2.2.1),(yL th2),(yL el2)] .own)=H0 at *;have c0:=c1.trans c2
 clear c1 c2
 have qa0:H0.cell (h.next,0)=some (.int .i64 k):=O1.cell 0;have qb0:H0.cell (h1.next,0)=some (.int .i64 k):=O2.cell 0;have qa1:H0.cell (h.next,1)=some (.int .i64 a):=O1.cell 1;have qb1:H0.cell (h1.next,1)=some (.int .i64 a):=O2.cell 1;have qa2:H0.cell (h.next,2)=some (.bool m):=O1.cell 2;have qb2:H0.cell (h1.next,2)=some (.bool m):=O2.cell 2;have qa3:H0.cell (h.next,3)=some (.str nm):=O1.cell 3;have qb3:H0.cell (h1.next,3)=some (.str nm):=O2.cell 3;have qa8:H0.cell (h.next,8)=some (.bool hs):=O1.cell 8;have qb8:H0.cell (h1.next,8)=some (.bool hs):=O2.cell 8;have qa4:H0.cells (h.next,4) 4=some (.agg (tyc t1)):=O1.cells (j:=4) (m:=4) (show 8<=32 by decide);have qb4:H0.cells (h1.next,4) 4=some (.agg (tyc t2)):=O2.cells (j:=4) (m:=4) (show 8<=32 by decide);simp only [Nat.zero_add,qa0,qb0,vA,aI,cond_true,qa1,qb1,qa2,qb2,uB,vAw,qa3,qb3,kA,eqB.2,qa8,qb8,bA];rw [qa4,vJ,qb4,vJ];obtain ⟨H1,qe1,qk1⟩:∃ H',f112 N N t1 t2 H0=some (true,H')/\Chg [] H0 H':=ht H0 c0;rw [qe1,aA];have O1:=O1.chg qk1 (by simp);have O2:=O2.chg qk1 (by simp);have c1:=c0.trans qk1;have qa9:H1.cells (h.next,9) 2=some (.agg (lfc p1)):=O1.cells (j:=9) (m:=2) (show 11<=32 by decide);have qb9:H1.cells (h1.next,9) 2=some (.agg (lfc p2)):=O2.cells (j:=9) (m:=2) (show 11<=32 by decide);simp only [cond_true];rw [qa9,jH,qb9,jH];obtain ⟨H2,qe2,qk2⟩:∃ H',f164 N (p1.1,p1.2.1,()) (p2.1,p2.2.1,()) H1=some (true,H')/\Chg [] H1 H':=hp H1 c1;rw [qe2,aA];have O1:=O1.chg qk2 (by simp);have O2:=O2.chg qk2 (by simp);have c2:=c1.trans qk2;have qa11:H2.cells (h.next,11) 15=some (.agg (vac v1)):=O1.cells (j:=11) (m:=15) (show 26<=32 by decide);have qb11:H2.cells (h1.next,11) 15=some (.agg (vac v2)):=O2.cells (j:=11) (m:=15) (show 26<=32 by decide);simp only [cond_true];rw [qa11,pN,qb11,pN];obtain ⟨H3,qe3,qk3⟩:∃ H',f165 N v1 v2 H2=some (true,H')/\Chg [] H2 H':=hv H2 c2;rw [qe3,aA];have O1:=O1.chg qk3 (by simp);have O2:=O2.chg qk3 (by simp);have c3:=c2.trans qk3;have qa26:H3.cells (h.next,26) 4=some (.agg (opc o1)):=O1.cells (j:=26) (m:=4) (show 30<=32 by decide);have qb26:H3.cells (h1.next,26) 4=some (.agg (opc o2)):=O2.cells (j:=26) (m:=4) (show 30<=32 by decide);simp only [cond_true];rw [qa26,dH,qb26,dH];obtain ⟨H4,qe4,qk4⟩:∃ H',f166 N o1 o2 H3=some (true,H')/\Chg [] H3 H':=ho H3 c3;rw [qe4,aA];have O1:=O1.chg qk4 (by simp);have O2:=O2.chg qk4 (by simp);have c4:=c3.trans qk4;have qa30:H4.cell (h.next,30)=some (yL th1):=O1.cell 30;have qb30:H4.cell (h1.next,30)=some (yL th2):=O2.cell 30;simp only [qa30,qb30,jA,cond_true,bA];obtain ⟨H5,qe5,qk5⟩:∃ H',rec113c114 th1 th2 () H4=some (true,H')/\Chg [] H4 H':=hth H4 c4;show ∃ h',(mA (rec113c114 th1 th2 () H4) _)=_/\_;rw [qe5,aA];have O1:=O1.chg qk5 (by simp);have O2:=O2.chg qk5 (by simp);have c5:=c4.trans qk5;have qa31:H5.cell (h.next,31)=some (yL el1):=O1.cell 31;have qb31:H5.cell (h1.next,31)=some (yL el2):=O2.cell 31;simp only [qa31,qb31,jA,cond_true,bA];obtain ⟨H6,qe6,qk6⟩:∃ H',rec113c114 el1 el2 () H5=some (true,H')/\Chg [] H5 H':=hel H5 c5;show ∃ h',(mA (rec113c114 el1 el2 () H5) _)=_/\_;rw [qe6,aA];have O1:=O1.chg qk6 (by simp);have O2:=O2.chg qk6 (by simp);have c6:=c5.trans qk6;exact ⟨_,rfl,c6⟩
end
end Qp
namespace Qp
def isFd (d:D):Prop:=∃ m nm ty,d=fdD m nm ty/\isTy 65 ty
def isSt (d:D):Prop:=∃ pub nm lv fs a,d=dAb pub nm lv fs a/\lv.length<=1000/\fs.length<=1000/\∀ f∈fs,isFd f
def isLf (d:D):Prop:=∃ (nm:Bs) (xs:List Bs),d=gD nm (xs.map D.s)/\xs.length<=1000
def isOp (d:D):Prop:=∃ k n pl,d=opD k n pl/\isLf pl
def lAj (d:D):Prop:=∃ k a b op pl nm,∃ (ns:List Bs) (ag:List D),d=vaD k a b op pl nm (ns.map D.s) ag/\isOp a/\isOp b/\isLf pl/\ns.length<=1000/\ag.length<=1000/\∀ o∈ag,isOp o
def smT (k a:Int) (m:Bool) (nm:Bs) (ty:D) (hs:Bool) (pl va co:D) (th el:List D):D:=.t [.i k,.i a,.b m,.s nm,ty,.b hs,pl,va,co,.l th,.l el]
def vS:Nat->D->Prop
 | 0,_=>False
 | n+1,d=>∃ k a m nm ty hs pl va co th el,d=smT k a m nm ty hs pl va co th el/\isTy 65 ty/\isLf pl/\lAj va/\isOp co/\th.length<=3000/\el.length<=3000/\(∀ s∈th,vS n s)/\∀ s∈el,vS n s
def fuT (pub:Bool) (nm:Bs) (lv ps:List D) (ty:D) (bd:List D) (a:Int):D:=.t [.b pub,.s nm,.l lv,.l ps,ty,.l bd,.i a]
def isFu (d:D):Prop:=∃ pub nm lv ps ty bd a,d=fuT pub nm lv ps ty bd a/\lv.length<=1000/\(∀ l∈lv,isLf l)/\ps.length<=1000/\(∀ p∈ps,isFd p)/\isTy 65 ty/\bd.length<=3000/\∀ s∈bd,vS 65 s
section
variable {h:Heap} {V W:Nat->Prop} {cs:List AV}
theorem cA3 {xs:List D} (x:∃ (s:SL) (vs:List AV),cs=[s.av]/\s.len=xs.length/\s.len<=s.cap/\(∀ A,s.blk=some A->V A)/\Sees h s vs/\De h V s.sz xs vs):∃ s:SL,cs=[s.av]/\Sl h V s xs:=by
 have:Dt h V (.l xs) cs:=by simp only [Dt];exact x
 exact uB7.1 this
theorem oAf {n:Nat} {d:D} (t:isTy n d) (x:Dt h V d cs):∃ r:TyV,cs=tyc r:=by
 cases n with
 | zero=>cases t
 | succ n=>
  obtain ⟨k,y,lv,el,rfl,_⟩:=t
  grind [qF]
theorem iG {nm:Bs} {l:List D} (x:Dt h V (gD nm l) cs):∃ s:SL,cs=lfc (nm,s,())/\Sl h V s l:=by
 simp only [gD,Dt,Dp] at x;obtain ⟨_,_,rfl,e1,_,_,rfl,x2,rfl⟩:=x;subst e1;obtain ⟨s,rfl,hs⟩:=cA3 x2;exact ⟨s,rfl,hs⟩
theorem dA3 {d:D} (t:isLf d) (x:Dt h V d cs):∃ r:LfV,cs=lfc r:=by
 obtain ⟨nm,xs,rfl,_⟩:=t
 grind [iG]
theorem pAf {m:Bool} {nm:Bs} {ty:D} {n:Nat} (t:isTy n ty) (x:Dt h V (fdD m nm ty) cs):∃ r:TyV,cs=fdc (pBc m nm r)/\Dt h V ty (tyc r):=by
 simp only [fdD,Dt,Dp] at x;obtain ⟨_,_,rfl,e1,_,_,rfl,e2,_,_,rfl,x3,rfl⟩:=x;subst e1 e2;obtain ⟨r,rfl⟩:=oAf t x3;exact ⟨r,rfl,x3⟩
theorem fX {pub:Bool} {nm:Bs} {lv:List Bs} {fs:List D} {a:Int} (x:Dt h V (dAb pub nm lv fs a) cs):∃ s1 s2:SL,cs=stc (pub,nm,s1,s2,a,())/\Sl h V s1 (lv.map D.s)/\Sl h V s2 fs:=by
 have x':=x;unfold dAb at x';simp only [Dt,Dp] at x';obtain ⟨_,_,rfl,e1,_,_,rfl,e2,_,_,rfl,x3,_,_,rfl,x4,_,_,rfl,e5,rfl⟩:=x';subst e1 e2 e5;obtain ⟨s1,rfl,h1⟩:=cA3 x3;obtain ⟨s2,rfl,h2⟩:=cA3 x4;exact ⟨s1,s2,rfl,h1,h2⟩
theorem aO {k n:Int} {pl:D} (t:isLf pl) (x:Dt h V (opD k n pl) cs):∃ p:LfV,cs=opc (k,n,p.1,p.2.1,())/\Dt h V pl (lfc p):=by
 simp only [opD,Dt,Dp] at x;obtain ⟨_,_,rfl,e1,_,_,rfl,e2,_,_,rfl,x3,rfl⟩:=x;subst e1 e2;obtain ⟨r,rfl⟩:=dA3 t x3;exact ⟨r,rfl,x3⟩
theorem eA3 {d:D} (t:isOp d) (x:Dt h V d cs):∃ r:OpV,cs=opc r:=by
 obtain ⟨k,n,pl,rfl,ht⟩:=t
 grind [aO]
theorem bH {k op:Int} {a b pl:D} {nm:Bs} {ns ag:List D} (ta:isOp a) (tb:isOp b) (tp:isLf pl) (x:Dt h V (vaD k a b op pl nm ns ag) cs):∃ (ra rb:OpV) (rp:LfV) (s1 s2:SL),cs=vac (kE k ra rb op rp nm s1 s2)/\Dt h V a (opc ra)/\Dt h V b (opc rb)/\Dt h V pl (lfc rp)/\Sl h V s1 ns/\Sl h V s2 ag:=by
 simp only [vaD,Dt,Dp] at x;obtain ⟨_,_,rfl,e1,_,_,rfl,x2,_,_,rfl,x3,_,_,rfl,e4,_,_,rfl,x5,_,_,rfl,e6,_,_,rfl,x7,_,_,rfl,x8,rfl⟩:=x;subst e1 e4 e6;obtain ⟨ra,rfl⟩:=eA3 ta x2;obtain ⟨rb,rfl⟩:=eA3 tb x3;obtain ⟨rp,rfl⟩:=dA3 tp x5;obtain ⟨s1,rfl,h1⟩:=cA3 x7;obtain ⟨s2,rfl,h2⟩:=cA3 x8;exact ⟨ra,rb,rp,s1,s2,rfl,x2,x3,x5,h1,h2⟩
theorem wAw {d:D} (t:lAj d) (x:Dt h V d cs):∃ r:VaV,cs=vac r:=by
 obtain ⟨k,a,b,op,pl,nm,ns,ag,rfl,ta,tb,tp,_⟩:=t
 grind [bH]
theorem iQ {k a:Int} {m hs:Bool} {nm:Bs} {ty pl va co:D} {th el:List D} (tt:isTy 65 ty) (tp:isLf pl) (tv:lAj va) (tq:isOp co) (x:Dt h V (smT k a m nm ty hs pl va co th el) cs):∃ (r:TyV) (p:LfV) (v:VaV) (o:OpV) (s1 s2:SL),cs=smc ⟨k,a,m,nm,r,hs,p,v,o,s1,s2⟩/\Dt h V ty (tyc r)/\Dt h V pl (lfc p)/\Dt h V va (vac v)/\Dt h V co (opc o)/\Sl h V s1 th/\Sl h V s2 el:=by
 simp only [smT,Dt,Dp] at x;obtain ⟨_,_,rfl,e1,_,_,rfl,e2,_,_,rfl,e3,_,_,rfl,e4,_,_,rfl,x5,_,_,rfl,e6,_,_,rfl,x7,_,_,rfl,x8,_,_,rfl,x9,_,_,rfl,x10,_,_,rfl,x11,rfl⟩:=x;subst e1 e2 e3 e4 e6;obtain ⟨r,rfl⟩:=oAf tt x5;obtain ⟨p,rfl⟩:=dA3 tp x7;obtain ⟨v,rfl⟩:=wAw tv x8;obtain ⟨o,rfl⟩:=eA3 tq x9;obtain ⟨s1,rfl,h1⟩:=cA3 x10;obtain ⟨s2,rfl,h2⟩:=cA3 x11;exact ⟨r,p,v,o,s1,s2,rfl,x5,x7,x8,x9,h1,h2⟩
theorem cA8 {pub:Bool} {nm:Bs} {lv ps bd:List D} {ty:D} {a:Int} (tt:isTy 65 ty) (x:Dt h V (fuT pub nm lv ps ty bd a) cs):∃ (s1 s2 s3:SL) (r:TyV),cs=fuc ⟨pub,nm,s1,s2,r,s3,a⟩/\Sl h V s1 lv/\Sl h V s2 ps/\Dt h V ty (tyc r)/\Sl h V s3 bd:=by
 simp only [fuT,Dt,Dp] at x;obtain ⟨_,_,rfl,e1,_,_,rfl,e2,_,_,rfl,x3,_,_,rfl,x4,_,_,rfl,x5,_,_,rfl,x6,_,_,rfl,e7,rfl⟩:=x;subst e1 e2 e7;obtain ⟨r,rfl⟩:=oAf tt x5;obtain ⟨s1,rfl,h1⟩:=cA3 x3;obtain ⟨s2,rfl,h2⟩:=cA3 x4;obtain ⟨s3,rfl,h3⟩:=cA3 x6;exact ⟨s1,s2,s3,r,rfl,h1,h2,x5,h3⟩
end
theorem qO (n:Nat):Rec [(.int .i64),.str,.slice,.slice] 4 tyc (isTy n):=⟨fun _=>rfl,fun r K=>vJ r K,fun t x=>oAf t x⟩
theorem nAb:Rec [.bool,.str,(.int .i64),.str,.slice,.slice] 6 fdc isFd:=⟨fun _=>rfl,fun r K=>lB2 r K,fun t x=>by
 obtain ⟨m,nm,ty,rfl,ht⟩:=t
 grind [pAf]⟩
theorem gX:Rec [.bool,.str,.slice,.slice,(.int .i64)] 5 stc isSt:=⟨fun _=>rfl,fun r K=>pAw r K,fun t x=>by
 obtain ⟨pub,nm,lv,fs,a,rfl,_⟩:=t
 grind [fX]⟩
theorem tR:Rec [.str,.slice] 2 lfc isLf:=⟨fun _=>rfl,fun r K=>jH r K,fun t x=>dA3 t x⟩
theorem lJ:Rec [(.int .i64),(.int .i64),.str,.slice] 4 opc isOp:=⟨fun _=>rfl,fun r K=>dH r K,fun t x=>eA3 t x⟩
theorem cL (n:Nat):Rec [(.int .i64),(.int .i64),.bool,.str,(.int .i64),.str,.slice,.slice,.bool,.str,.slice,(.int .i64),(.int .i64),(.int .i64),.str,.slice,(.int .i64),(.int .i64),.str,.slice,(.int .i64),.str,.slice,.str,.slice,.slice,(.int .i64),(.int .i64),.str,.slice,.slice,.slice] 32 smx (vS n):=⟨fun _=>rfl,fun r K=>gG r K,fun t x=>by
 cases n with
 | zero=>cases t
 | succ n=>
  obtain ⟨k,a,m,nm,ty,hs,pl,va,co,th,el,rfl,t1,t2,t3,t4,_⟩:=t;obtain ⟨r,p,v,o,s1,s2,hc,_⟩:=iQ t1 t2 t3 t4 x;exact ⟨_,hc⟩⟩
theorem iX:Rec [.bool,.str,.slice,.slice,(.int .i64),.str,.slice,.slice,.slice,(.int .i64)] 10 fux isFu:=⟨fun _=>rfl,fun r K=>qAw r K,fun t x=>by
 obtain ⟨pub,nm,lv,ps,ty,bd,a,rfl,_,_,_,_,ht,_⟩:=t;obtain ⟨s1,s2,s3,r,hc,_⟩:=cA8 ht x;exact ⟨_,hc⟩⟩
theorem Rec.inj {tys:List CTy} {n:Nat} {c:wN tys->List AV} {P:D->Prop} (R:Rec tys n c P) {r r':wN tys} (h:c r=c r'):r=r':=by
 have h1:=R.agg r (fun x=>some x);rw [h,R.agg] at h1
 grind
section
variable {N:Nat} {tys:List CTy} {n:Nat} {c:wN tys->List AV} {z:List AV} {P:D->Prop}
theorem qAf (R:Rec tys n c P) (hz:z.length=n) {F:wN tys->wN tys->Heap->Option (Bool×Heap)} {L:Nat->SL->Unit->Bool->SL->Int->Int->Heap->Option (Out×zC1×Heap)} (hs:∀ M v1 v6 v15 v16 v17 h,L (M+1) v1 () v6 v15 v16 v17 h=nAm tys n c z F (L M) v1 v6 v15 v16 v17 h)
  {xs:List D} (hP:∀ x∈xs,P x) (hF:∀ x∈xs,∀ r1 r2 H V W,Dt H V x (c r1)->Dt H W x (c r2)->∃ H',F r1 r2 H=some (true,H')/\Chg [] H H') (hl:xs.length<=2000000) (hN:xs.length<N) {G:Option (Bool×Heap)} {h:Heap} {V W:Nat->Prop} {s1 s2:SL} (x1:Sl h V s1 xs) (x2:Sl h W s2 xs)
  (hG:G=(bif !eA (Int.ofNat s1.len) (Int.ofNat s2.len) then some (false,h) else pC (L N s2 () false s1 (Int.ofNat s1.len) 0 h) fun o17 (j18:zC1) h19=>bif jD o17 (.exit 0) then some (true,h19) else some (j18.1,h19))):∃ h',G=some (true,h')/\Chg [] h h':=by
 obtain ⟨h',e,c'⟩:=uAw R hz hs hP hF hl N 0 h V W s1 s2 (Nat.zero_le _) (by omega) x1 x2;rw [show ((0:Nat):Int)=0 from rfl] at e;refine ⟨h',?_,c'⟩;rw [hG,vAt x1 x2,Bool.not_true,cond_false,x1.len,show Int.ofNat xs.length=(xs.length:Int) from rfl,e];rfl
end
section
variable {N:Nat} {h:Heap} {V W:Nat->Prop}
theorem fA3 {d:D} (t:isLf d) {p1 p2:LfV} (x1:Dt h V d (lfc p1)) (x2:Dt h W d (lfc p2)) (hN:3001<=N) {H:Heap} (c:Chg [] h H):∃ H',f164 N (p1.1,p1.2.1,()) (p2.1,p2.2.1,()) H=some (true,H')/\Chg [] H H':=by
 obtain ⟨nm,xs,rfl,hl⟩:=t;obtain ⟨s1,hc1,y1⟩:=iG x1;obtain ⟨s2,hc2,y2⟩:=iG x2;have e1:=tR.inj hc1;have e2:=tR.inj hc2;subst e1 e2;exact pAm (y1.chg c (by simp)) (y2.chg c (by simp)) (by omega) (by omega)
theorem jX {d:D} (t:isOp d) {r1 r2:OpV} (x1:Dt h V d (opc r1)) (x2:Dt h W d (opc r2)) (hN:3001<=N) {H:Heap} (c:Chg [] h H):∃ H',f166 N r1 r2 H=some (true,H')/\Chg [] H H':=by
 obtain ⟨k,n,pl,rfl,ht⟩:=t;obtain ⟨p1,hc1,y1⟩:=aO ht x1;obtain ⟨p2,hc2,y2⟩:=aO ht x2;have e1:=lJ.inj hc1;have e2:=lJ.inj hc2;subst e1 e2;exact fAr fun H' c'=>fA3 ht y1 y2 hN (c.trans c')
theorem yAw {ag:List D} (t:∀ o∈ag,isOp o) (hl:ag.length<=3000) {s1 s2:SL} (x1:Sl h V s1 ag) (x2:Sl h W s2 ag) (hN:3001<=N) {H:Heap} (c:Chg [] h H):∃ H',uG N s1 s2 () H=some (true,H')/\Chg [] H H':=by
 unfold uG;obtain ⟨H',e,c'⟩:=qAf (N:=N) lJ (z:=opc (0,0,[],sl0,())) rfl (L:=yK N) (F:=fun a b h=>f166 N a b h) (fun _ _ _ _ _ _ _=>rfl) t (fun x hx r1 r2 H V W y1 y2=>jX (t x hx) y1 y2 hN (Chg.refl _ _)) (by omega) (by omega) (x1.chg c (by simp)) (x2.chg c (by simp)) (G:=lU N s1 s2 () H) rfl;rw [e];exact ⟨H',rfl,c'⟩
theorem oAb {d:D} (t:lAj d) {v1 v2:VaV} (x1:Dt h V d (vac v1)) (x2:Dt h W d (vac v2)) (hN:3001<=N) {H:Heap} (c:Chg [] h H):∃ H',f165 N v1 v2 H=some (true,H')/\Chg [] H H':=by
 obtain ⟨k,a,b,op,pl,nm,ns,ag,rfl,ta,tb,tp,hn,hg,tg⟩:=t;obtain ⟨ra1,rb1,rp1,n1,g1,hc1,a1,b1,p1,y1,z1⟩:=bH ta tb tp x1;obtain ⟨ra2,rb2,rp2,n2,g2,hc2,a2,b2,p2,y2,z2⟩:=bH ta tb tp x2;have hinj:∀ {r r':VaV},vac r=vac r'->r=r':=fun {r r'} h=>by
  have h1:=pN r (fun x=>some x)
  grind [pN,Option.some.inj]
 have e1:=hinj hc1;have e2:=hinj hc2;subst e1 e2;exact gAr (fun H' c'=>jX ta a1 a2 hN (c.trans c')) (fun H' c'=>jX tb b1 b2 hN (c.trans c')) (fun H' c'=>fA3 tp p1 p2 hN (c.trans c'))
  (fun H' c'=>tBc (c.trans c') y1 y2 (by omega) (by omega)) (fun H' c'=>yAw tg (by omega) z1 z2 hN (c.trans c'))
theorem aAx (hN:3001<=N):∀ (n M:Nat) (d:D) (r1 r2:TyV) (h:Heap) (V W:Nat->Prop),3 * n<=M->isTy n d->Dt h V d (tyc r1)->Dt h W d (tyc r2)->∃ H',f112 N M r1 r2 h=some (true,H')/\Chg [] h H':=by
 intro n
 induction n with
 | zero=>intro M d r1 r2 h V W _ t;cases t
 | succ n ih=>
  intro M d r1 r2 h V W hM t x1 x2;obtain ⟨M,rfl⟩:∃ m,M=m+3:=⟨M-3,by omega⟩;obtain ⟨k,x,lv,el,rfl,hlv,hel,tel⟩:=t;obtain ⟨l1,g1,hc1,y1,z1⟩:=qF.1 x1;obtain ⟨l2,g2,hc2,y2,z2⟩:=qF.1 x2;have e1:=(qO 1).inj hc1;have e2:=(qO 1).inj hc2;subst e1 e2;rw [aA8];refine iAr (fun H c=>tBc c y1 y2 (by omega) (by omega)) (fun H c=>?_)
  rw [gQ];unfold iN;obtain ⟨H',e,c'⟩:=qAf (N:=N) (qO n) (z:=tyc (0,[],sl0,sl0,())) rfl (L:=rK N (f112 N M) (tK N M) (uK N M)) (F:=fun a b h=>f112 N M a b h) (fun _ _ _ _ _ _ _=>rfl) tel (fun x hx r1 r2 H V W y1 y2=>ih M x r1 r2 H V W (by omega) (tel x hx) y1 y2) (by omega) (by omega) (z1.chg c (by simp)) (z2.chg c (by simp)) (G:=uK N (M+1) g1 g2 () H) rfl;rw [e];exact ⟨H',rfl,c'⟩
theorem rAf {n:Nat} {d:D} (t:isTy n d) (hn:n<=100) {r1 r2:TyV} (x1:Dt h V d (tyc r1)) (x2:Dt h W d (tyc r2)) (hN:3001<=N) {H:Heap} (c:Chg [] h H):∃ H',f112 N N r1 r2 H=some (true,H')/\Chg [] H H':=
 aAx hN n N d r1 r2 H V W (by omega) t (Dt.chg c (by simp) x1) (Dt.chg c (by simp) x2)
theorem qAm (hN:3001<=N):∀ (n M:Nat) (xs:List D) (s1 s2:SL) (h:Heap) (V W:Nat->Prop),3 * n+3<=M->(∀ s∈xs,vS n s)->xs.length<=3000->Sl h V s1 xs->Sl h W s2 xs->∃ H',rF N M s1 s2 () h=some (true,H')/\Chg [] h H':=by
 intro n
 induction n with
 | zero=>
  intro M xs s1 s2 h V W hM t hl x1 x2;obtain ⟨M,rfl⟩:∃ m,M=m+2:=⟨M-2,by omega⟩;rw [bL];unfold wJ;obtain ⟨H',e,c'⟩:=qAf (N:=N) (cL 0) (z:=smx (smv (mE 0))) rfl (L:=jI N (rF N M) (f114 N M) (kH N M)) (F:=fun a b h=>f114 N M a b h) (fun _ _ _ _ _ _ _=>rfl) t (fun x hx r1 r2 H V W y1 y2=>by cases t x hx) (by omega) (by omega) x1 x2 (G:=kH N (M+1) s1 s2 () h) rfl;rw [e];exact ⟨H',rfl,c'⟩
 | succ n ih=>
  intro M xs s1 s2 h V W hM t hl x1 x2;obtain ⟨M,rfl⟩:∃ m,M=m+3:=⟨M-3,by omega⟩;rw [bL];unfold wJ;obtain ⟨H',e,c'⟩:=qAf (N:=N) (cL (n+1)) (z:=smx (smv (mE 0))) rfl (L:=jI N (rF N (M+1)) (f114 N (M+1)) (kH N (M+1))) (F:=fun a b h=>f114 N (M+1) a b h) (fun _ _ _ _ _ _ _=>rfl) t (fun x hx r1 r2 H V W y1 y2=>by
   obtain ⟨k,a,m,nm,ty,hs,pl,va,co,th,el,rfl,t1,t2,t3,t4,h1,h2,t5,t6⟩:=t x hx;obtain ⟨q1,p1,v1,o1,th1,el1,hc1,z1,pl1,va1,co1,u1,w1⟩:=iQ t1 t2 t3 t4 y1;obtain ⟨q2,p2,v2,o2,th2,el2,hc2,z2,pl2,va2,co2,u2,w2⟩:=iQ t1 t2 t3 t4 y2;have e1:=(cL 1).inj hc1;have e2:=(cL 1).inj hc2;subst e1 e2;show ∃ H',f114 N (M+1) _ _ H=_/\_;rw [cX];exact nAf (fun H' c=>rAf t1 (by omega) z1 z2 hN c) (fun H' c=>fA3 t2 pl1 pl2 hN c) (fun H' c=>oAb t3 va1 va2 hN c) (fun H' c=>jX t4 co1 co2 hN c)
    (fun H' c=>ih M th th1 th2 H' V W (by omega) t5 h1 (u1.chg c (by simp)) (u2.chg c (by simp))) (fun H' c=>ih M el el1 el2 H' V W (by omega) t6 h2 (w1.chg c (by simp)) (w2.chg c (by simp)))) (by omega) (by omega) x1 x2 (G:=kH N (M+2) s1 s2 () h) rfl
  rw [e];exact ⟨H',rfl,c'⟩
end
end Qp
namespace Ai
def OwC (h:Heap) (s:SL) (n:Nat) (vs:List AV):Prop:=
 (s.a=none/\s.len=0/\s.cap=0/\vs=[])\/
 ∃ A cs st,s.a=some (A,0)/\s.sz=n/\A<h.next/\h.g A=some (.row cs st)/\vs.length=s.len * n/\cs.take vs.length=vs/\s.len<=s.cap/\(st=.grown\/(st=.own/\s.cap * n=cs.length))
section
variable {E:Env} {h h':Heap} {s:SL} {n:Nat} {vs:List AV} {M:List Nat}
theorem OwC.len (x:OwC h s n vs):vs.length=s.len * n:=by
 rcases x with ⟨_,h1,_,rfl⟩ | ⟨A,cs,st,_,_,_,_,h1,_⟩
 ·simp [h1]
 ·exact h1
theorem OwC.sees (x:OwC h s n vs):Sees h s vs:=by
 rcases x with ⟨h1,h2,h3,rfl⟩ | ⟨A,cs,st,h1,h2,h3,h4,h5,h6,h7,h8⟩
 ·exact ⟨by simp [h2],fun _=>h2,fun A off ha=>by rw [h1] at ha;cases ha⟩
 ·refine ⟨by rw [h5,h2],fun ha=>(by rw [h1] at ha;cases ha),fun A' off ha=>?_⟩
  rw [h1] at ha;simp only [Option.some.injEq,Prod.mk.injEq] at ha;obtain ⟨rfl,rfl⟩:=ha;refine ⟨h3,cs,?_,by grind⟩;rw [h4];rcases h8 with rfl | ⟨rfl,_⟩ <;> rfl
theorem OwC.cap (x:OwC h s n vs):s.len<=s.cap:=by
 rcases x with ⟨_,h2,h3,_⟩ | ⟨A,cs,st,h1,h2,h3,h4,h5,h6,h7,h8⟩
 ·omega
 ·exact h7
theorem qA0 {x:SL} {ws:List AV} (hx:Sees h x ws) (hz:x.len * n=ws.length):wC h n x.len (.slice x.a x.len x.cap x.sz)=some ws:=by
 obtain ⟨g2,g3,g4⟩:=hx
 cases ha:x.a with
 | none=>
  have h0:=g3 ha;rw [h0,Nat.zero_mul] at hz
  have:ws=[]:=List.length_eq_zero_iff.1 hz.symm
  subst this;rfl
 | some q=>
  grind [List.length_take,wC,Heap.read,pAa,iH]
theorem jAr {st e:TypeId} {W:Nat} (ha:AppN E st e n W) {x:SL} {ws:List AV} (hx:Sees h x ws) (hz:x.len * n=ws.length) (hv:∀ w∈ws,AV.single w=true) (ho:OwC h s n vs) (hl:(s.len+x.len) * W<=1073741824) :
  ∃ s' h',dD E st st (.slice s.a s.len s.cap s.sz) (.slice x.a x.len x.cap x.sz) h=some (.slice s'.a s'.len s'.cap s'.sz,h')/\OwC h' s' n (vs++ws)/\s'.len=s.len+x.len/\Chg s.blk.toList h h'/\(∀ A,s'.blk=some A->s.blk=some A\/h.next<=A):=by
 obtain ⟨hu,⟨i,hi,hi1,hi2⟩,⟨z,hzz,hz1⟩⟩:=ha;have hfirst:=qA0 hx hz
 by_cases hn:x.len=0
 ·have hws:ws=[]:=List.length_eq_zero_iff.1 (by grind)
  subst hws;refine ⟨s,h,?_,by grind,by omega,(Chg.refl [] h).mono (by simp),fun A hA=>.inl hA⟩;rw [hn] at hfirst;simp only [dD,hu,yO,dV,cond_false,hi,hzz,jL,hi1,hn,hfirst,show Nat.beq 0 0=true from rfl,cond_true]
 have hn0:Nat.beq x.len 0=false:=by
  grind [Nat.beq,absurd,Nat.eq_of_beq_eq_true]
 have hroom:Nat.ble ((s.len+x.len) * (i.bytes+i.size+1)) oA1=true:=by
  have h1:(s.len+x.len) * (i.bytes+i.size+1)<=(s.len+x.len) * W:=Nat.mul_le_mul (Nat.le_refl _) (by omega);simp only [oA1,Nat.ble_eq];omega
 have hsz:(Nat.beq s.sz i.size||s.a.isNone)=true:=by
  rcases ho with ⟨h1,_⟩ | ⟨A,cs,st',h1,h2,_⟩
  ·simp [h1]
  ·simp [hi1,h2]
 have key:dD E st st (.slice s.a s.len s.cap s.sz) (.slice x.a x.len x.cap x.sz) h=fO h s.a s.len s.cap n x.len ws:=by
  have hall:List.all ws AV.single=true:=by grind
  have hz2:Nat.beq z.cells.length i.size=true:=by simp_all
  have hnl:Nat.beq ws.length (x.len * i.size)=true:=by simp_all
  simp only [dD,hu,yO,dV,cond_false,hi,hzz,jL]
  grind
 rw [key];rcases ho with ⟨h1,h2,h3,rfl⟩ | ⟨A,bs,st',h1,h2,h4,h5,h6,h7,h9,h10⟩
 ·have c0:Chg [] h (h.push (.row ws .grown)):=(Chg.refl [] h).push _
  refine ⟨⟨some (h.next,0),x.len,x.len,n⟩,_,by simp only [fO,h1,h2,Nat.zero_add],.inr ⟨h.next,ws,.grown,rfl,rfl,by simp,aH _ rfl,by simp [hz],by simp,Nat.le_refl _,.inl rfl⟩,by show x.len=_;omega,c0.mono (by simp),fun A hA=>.inr (by simp [SL.blk] at hA;omega)⟩
 ·have hbl:s.blk=some A:=by simp [SL.blk,h1]
  have hcl:vs.length<=bs.length:=by
   grind
  have hg:h.t.get A=some (.row bs st'):=by unfold Heap.g at h5;exact h5
  have htk:takeN (s.len * n) bs=some vs:=by grind [iH]
  have hlen2:(vs++ws).length=(s.len+x.len) * n:=by grind
  have fresh:∀ H:Heap,H.next=h.next->OwC (H.push (.row (vs++ws) .grown)) ⟨some (h.next,0),s.len+x.len,s.len+x.len,n⟩ n (vs++ws):=fun H hH=>
   .inr ⟨h.next,vs++ws,.grown,rfl,rfl,by simp [hH],aH _ hH.symm,hlen2,List.take_of_length_le (Nat.le_refl _),Nat.le_refl _,.inl rfl⟩
  rcases h10 with rfl | ⟨rfl,h10⟩
  ·have cH:Chg [A] h (h.put A (.row bs .dead)):=(Chg.refl [A] h).put (.inl (by simp)) _
   refine ⟨⟨some (h.next,0),s.len+x.len,s.len+x.len,n⟩,(h.put A (.row bs .dead)).push (.row (vs++ws) .grown),?_,fresh _ rfl,rfl,(cH.push _).mono (by simp [hbl]),fun C hC=>.inr (by simp [SL.blk] at hC;omega)⟩
   grind [fO]
  ·by_cases hc:s.len+x.len<=s.cap
   ·have hb1:Nat.ble (s.len+x.len) s.cap=true:=by simpa using hc
    have hroom2:s.len * n+ws.length<=bs.length:=by
     rw [<- hz,<- Nat.add_mul,<- h10];exact Nat.mul_le_mul_right _ hc
    have hov:=rAa bs ws (s.len * n) hroom2;have cH:Chg [A] h (h.put A (.row (bs.take (s.len * n)++ws++bs.drop (s.len * n+ws.length)) .own)):=(Chg.refl [A] h).put (.inl (by simp)) _;have e1:bs.take (s.len * n)=vs:=by rw [<- h6,h7]
    refine ⟨⟨some (A,0),s.len+x.len,s.cap,n⟩,_,?_,.inr ⟨A,_,.own,rfl,rfl,by simp;omega,vP _ rfl,hlen2,?_,hc,.inr ⟨rfl,?_⟩⟩,rfl,cH.mono (by simp [hbl]),fun C hC=>.inl (by simp [SL.blk] at hC;rw [hbl,hC])⟩
    ·simp only [fO,h1,hg,List.drop_zero,htk,hb1,cond_true,Nat.zero_add,hov]
    ·grind
    grind
   ·have hb1:Nat.ble (s.len+x.len) s.cap=false:=by
     cases hx:Nat.ble (s.len+x.len) s.cap with
     | false=>rfl
     | true=>exact absurd (by simpa using hx) hc
    have cH:Chg [A] h h:=Chg.refl [A] h;refine ⟨⟨some (h.next,0),s.len+x.len,s.len+x.len,n⟩,h.push (.row (vs++ws) .grown),?_,fresh _ rfl,rfl,(cH.push _).mono (by simp [hbl]),fun C hC=>.inr (by simp [SL.blk] at hC;omega)⟩;simp only [fO,h1,hg,List.drop_zero,htk,hb1,cond_false]
end
end Ai
namespace Qp
theorem bAx {h:Heap} {A:Nat} {cs:List AV} (x:h.own A cs) {j:Nat} {vs:List AV} (hj:j+vs.length<=cs.length) {ds:List AV} (hd:cs.take j++vs++cs.drop (j+vs.length)=ds):h.store (A,j) vs=some (h.put A (.row ds .own)):=by
 have hw:h.t.get A=some (.row cs .own):=x.1;simp only [Heap.store,Heap.rowW,hw,rAa cs vs j hj,hd]
abbrev Fr0 (h:Heap) (C:Nat):Prop:=h.next<=C
section
variable {h h0:Heap} {V W:Nat->Prop}
theorem pAb:∀ {xs:List Bs} {vs:List AV} {n:Nat},De h V n (xs.map D.s) vs->vs=xs.map AV.str
 | [],vs,n,x=>by simpa [De] using x
 | y::r,vs,n,x=>by
  simp only [List.map_cons,De,Dt] at x;obtain ⟨a,b,rfl,_,rfl,hb⟩:=x;rw [pAb hb];rfl
theorem rA0 (h:Heap) (V:Nat->Prop):∀ (xs:List Bs),De h V 1 (xs.map D.s) (xs.map AV.str)
 | []=>by simp [De]
 | y::r=>by
  simp only [List.map_cons,De,Dt];exact ⟨[.str y],r.map AV.str,rfl,rfl,rfl,rA0 h V r⟩
theorem qAb {α:Type} {n k:Nat} {xs:List D} {L:Nat->SL->Int->Heap->Option (Out×α×Heap)} {fin:SL->α}
  (hstep:∀ (M i:Nat) (hi:i<xs.length) (out:SL) (h:Heap),OwV (Fr0 h0) h out n (xs.take i)->Chg [] h0 h->∃ out' h',L (M+1) out (i:Int) h=L M out' ((i+1:Nat):Int) h'/\OwV (Fr0 h0) h' out' n (xs.take (i+1))/\Chg [] h0 h')
  (hend:∀ M out h,L (M+1) out (xs.length:Int) h=some (.exit k,fin out,h)):∀ (M i:Nat) (out:SL) (h:Heap),i<=xs.length->xs.length-i<M->OwV (Fr0 h0) h out n (xs.take i)->Chg [] h0 h->∃ out' h',L M out (i:Int) h=some (.exit k,fin out',h')/\OwV (Fr0 h0) h' out' n xs/\Chg [] h0 h':=by
 intro M
 induction M with
 | zero=>intro i _ _ _ h;omega
 | succ M ih=>
  intro i out h hi hM ho hc
  by_cases q:i<xs.length
  ·obtain ⟨out',h',e,o',c'⟩:=hstep M i q out h ho hc
   rw [e];exact ih (i+1) out' h' q (by omega) o' c'
  ·have:i=xs.length:=by omega
   subst this;rw [hend];exact ⟨out,h,rfl,by rw [List.take_length] at ho;exact ho,hc⟩
theorem wB2 {st e:TypeId} {n Wd:Nat} (ha:AppN E st e n Wd) (hn:0<n) {out:SL} {xs:List D} {i:Nat} (hi:i<xs.length) (ho:OwV (Fr0 h0) h out n (xs.take i)) (c0:Chg [] h0 h) {H:Heap} (cH:Chg [] h H) {cs:List AV} (hd:Dt H (Fr0 h) xs[i] cs) (hcs:cs.length=n) (hl:(i+1) * Wd<=1073741824) :
  ∃ s' h',(∀ {β:Type} (K:SL->Heap->Option β),jJ (.val zL2) (dD E st st (yL out) (.slice (some (H.next,0)) 1 1 n) (H.push (.row cs .own))) K=K s' h')/\OwV (Fr0 h0) h' s' n (xs.take (i+1))/\Chg [] h0 h':=by
 have hle:=c0.next;have hle2:=cH.next;have o1:=ho.chg cH (by simp);obtain ⟨s',h',e,o',c',_⟩:=iAi ha hn o1 (d:=xs[i]) (cs:=cs) (Dt.weak (fun C hC hl=>⟨by show h0.next<=C;have:h.next<=C:=hC;omega,fun hb=>by have:=(ho.ge C hb).2;have:h.next<=C:=hC;omega⟩) hd) hcs (fun A hA=>by show h0.next<=A;omega) (by rw [List.length_take,Nat.min_eq_left (by omega)];exact hl);refine ⟨s',h',fun K=>by rw [e];rfl,by rw [List.take_succ_eq_append_getElem hi];exact o',(c0.trans cH).step c' fun A hA hlt=>?_⟩;have hb:out.blk=some A:=by simpa using hA
 have:=(ho.ge A hb).1
 exact absurd this (by show ¬ h0.next<=A;omega)
end
section
variable {N:Nat}
end
end Qp
namespace Qp
structure WR (h0 H:Heap) (cs1 cs2:List AV):Prop where
 o1:H.own h0.next cs1
 o2:H.own (h0.next+1) cs2
 c:Chg [] h0 H
 nx:h0.next+2<=H.next
section
variable {h0 H H':Heap} {cs1 cs2:List AV}
end
section
variable {N:Nat} {h:Heap} {V:Nat->Prop}
end
end Qp
namespace Qp
abbrev MP:=Heap->(Nat->Prop)->SL->List D->Prop
structure MeP (M:MP) (h:Heap) (S:Nat->Prop) (r:SmR) (ty pl va co:D) (th el:List D) (S0 S1 S2:Nat->Prop):Prop where
 ty:Dt h S0 ty (tyc r.ty)
 pl:Dt h S0 pl (lfc r.pl)
 va:Dt h S0 va (vac r.va)
 co:Dt h S0 co (opc r.co)
 th:M h S1 r.th th
 el:M h S2 r.el el
 i0:∀ C,S0 C->S C
 i1:∀ C,S1 C->S C
 i2:∀ C,S2 C->S C
 d01:∀ C,S0 C->¬ S1 C
 d02:∀ C,S0 C->¬ S2 C
 d12:∀ C,S1 C->¬ S2 C
section
variable {M:MP} {h h':Heap} {S W:Nat->Prop} {c vs:List AV} {x:D} {xs:List D} {L:List Nat}
end
theorem vI {h:Heap} {V:Nat->Prop} {r:SmR} {ty pl va co:D} {th el:List D} (x1:Dt h V ty (tyc r.ty)) (x2:Dt h V pl (lfc r.pl)) (x3:Dt h V va (vac r.va)) (x4:Dt h V co (opc r.co)) (x5:Sl h V r.th th) (x6:Sl h V r.el el):Dt h V (smT r.k r.at_ r.m r.nm ty r.has pl va co th el) (smc r):=
 mB2 ⟨[.int .i64 r.k],_,rfl,oAw _ _ _,[.int .i64 r.at_],_,rfl,oAw _ _ _,[.bool r.m],_,rfl,pB9 _ _ _,[.str r.nm],_,rfl,mAf _ _ _,tyc r.ty,_,rfl,x1,[.bool r.has],_,rfl,pB9 _ _ _,lfc r.pl,_,rfl,x2,vac r.va,_,rfl,x3,opc r.co,_,rfl,x4,[SL.av r.th],_,rfl,oT.2 x5,[SL.av r.el],[],rfl,oT.2 x6,rfl⟩
def kAr:Nat->D->D
 | n+1,.t [k,_,m,nm,ty,hs,pl,va,co,.l th,.l el]=>.t [k,.i 0,m,nm,ty,hs,pl,va,co,.l (th.map (kAr n)),.l (el.map (kAr n))]
 | _,d=>d
end Qp
namespace Qp
theorem wI (cs:List AV):mB (some (.agg cs)) (.agg cs)=true:=nB _
section
variable {N:Nat} {h:Heap} {V:Nat->Prop}
end
end Qp
namespace Qp
structure W1 (h0 H:Heap) (cs:List AV):Prop where
 o:H.own h0.next cs
 c:Chg [] h0 H
 nx:h0.next+1<=H.next
section
variable {h0 H H':Heap} {cs:List AV}
theorem W1.call (w:W1 h0 H cs) (c:Chg [] H H'):W1 h0 H' cs:=⟨w.o.chg c (by simp),w.c.trans c,Nat.le_trans w.nx c.next⟩
theorem W1.set (w:W1 h0 H cs) {j:Nat} {vs ds:List AV} (hj:j+vs.length<=cs.length) (hd:cs.take j++vs++cs.drop (j+vs.length)=ds):∃ H',(∀ {β:Type} (K:Heap->Option β),bB (H.store (h0.next,j) vs) K=K H')/\W1 h0 H' ds/\Chg [h0.next] H H'/\H'.next=H.next:=
 ⟨_,fun K=>by rw [bAx w.o hj hd,fA],⟨kJ w.o ds,w.c.put (.inr (Nat.le_refl _)) _,w.nx⟩,w.o.put ds,rfl⟩
end
section
variable {N:Nat}
end
end Qp
namespace Qp
section
variable {N:Nat}
end
end Qp
namespace Qp
section
variable {N:Nat} {h:Heap} {V:Nat->Prop}
end
end Qp
namespace Qp
theorem yB2 {h:Heap} {V:Nat->Prop} {pub:Bool} {nm:Bs} {lv ps bd:List D} {ty:D} {a:Int} {s1 s2 s3:SL} {r:TyV} (y1:Sl h V s1 lv) (y2:Sl h V s2 ps) (yt:Dt h V ty (tyc r)) (y3:Sl h V s3 bd):Dt h V (fuT pub nm lv ps ty bd a) (fuc ⟨pub,nm,s1,s2,r,s3,a⟩):=
 mB2 ⟨[.bool pub],_,rfl,pB9 _ _ _,[.str nm],_,rfl,mAf _ _ _,[SL.av s1],_,rfl,oT.2 y1,[SL.av s2],_,rfl,oT.2 y2,tyc r,_,rfl,yt,[SL.av s3],_,rfl,oT.2 y3,[.int .i64 a],[],rfl,oAw _ _ _,rfl⟩
section
variable {N:Nat} {h3:Heap} {V:Nat->Prop} {R:Nat}
end
end Qp
namespace Qp
section
variable {σ α β γ:Type} {R:σ->σ->Prop} {Q:α->α->Prop} {Q2:β->β->Prop}
end
section
variable {U V:List Tok} {d:Nat} {α:Type}
def Qs (n:Nat) (x y:D):Prop:=kAr n x=kAr n y
end
end Qp
namespace Qp
section
variable {T' T:List Tok} {E:Nat} {Bd:Int×Int->Prop}
end
end Qp
namespace Qp
section
variable {U V:List Tok} {d n:Nat} {α β:Type}
end
end Qp
namespace Qp
section
variable {T:List Tok}
theorem eF:isLf pl0:=⟨[],[],rfl,by simp⟩
theorem wD:isOp op0:=⟨0,0,_,rfl,eF⟩
theorem uR:isTy 65 ty0D:=⟨0,[],[],[],rfl,by simp,by simp,by simp⟩
theorem vB9 {k op:Int} {a b pl:D} {nm:Bs} (h1:isOp a) (h2:isOp b) (h3:isLf pl):lAj (vaD k a b op pl nm [] []):=⟨k,a,b,op,pl,nm,[],[],rfl,h1,h2,h3,by simp,by simp,by simp⟩
theorem kX:lAj va00:=vB9 wD wD eF
end
end Qp
namespace Qp
section
variable {r x:Bs} {a m:Nat} {l:List Tok} {c d:UInt8}
end
end Qp
namespace Qp
section
variable {T r:List Tok} {i a c:Nat}
end
end Qp
namespace Qp
section
variable {N:Nat}
end
end Qp
namespace Qp
end Qp
namespace Qp
end Qp
namespace Qp
section
variable {σ α β:Type} {st:σ->St} {P:α->Prop} {Q:β->Prop}
end
section
variable {T:List Tok} {α:Type} {Q:α->Prop}
def lAr (g:Nat) (l:List Bs):Prop:=l.length<=g/\∀ x∈l,oD x=true
def mJ (g:Nat) (P:D->Prop) (l:List D):Prop:=l.length<=g/\∀ x∈l,P x
def dG (g:Nat) (d:D):Prop:=∃ p:PT,d=p.D/\p.ok g
def wE (mu:Bool) (d:D):Prop:=∃ m nm ty,d=fdD m nm ty/\(m=true->mu=true)/\eC nm=true/\dG 64 ty
def yJ (d:D):Prop:=∃ (nm:Bs) (xs:List Bs),d=gD nm (xs.map D.s)/\oD nm=true/\lAr 64 xs
def jQ (x:Bs):Prop:=x=[42]\/eC x=true
def mAr (g:Nat) (l:List Bs):Prop:=l.length<=g/\∀ x∈l,jQ x
def lH (d:D):Prop:=∃ (nm:Bs) (xs:List Bs),d=gD nm (xs.map D.s)/\eC nm=true/\mAr 64 xs
def qC (d:D):Prop:=(∃ n:Nat,d=opD 1 (n:Int) pl0/\n<=2147483647)\/(∃ n:Int,(n=0\/n=1)/\d=opD 2 n pl0)\/∃ p,d=opD 3 0 p/\lH p
inductive mayVa:D->Prop
 | op {o:D} (h:qC o):mayVa (vaD 1 o op0 0 pl0 [] [] [])
 | ref {k:Int} {p:D} (hk:k=2\/k=3) (h:lH p):mayVa (vaD k op0 op0 0 p [] [] [])
 | no {o:D} (h:qC o):mayVa (vaD 4 o op0 0 pl0 [] [] [])
 | bin {a b:D} {k:Int} (ha:qC a) (hb:qC b) (hk:k=1\/k=2\/k=3\/k=4):mayVa (vaD 5 a b k pl0 [] [] [])
 | call {nm:Bs} {ag:List D} (hn:nL nm) (h:mJ 64 qC ag):mayVa (vaD 6 op0 op0 0 pl0 nm [] ag)
 | make {nm:Bs} {ns:List Bs} {ag:List D} (hn:nL nm) (hl:ns.length=ag.length) (hs:∀ x∈ns,eC x=true) (h:mJ 64 qC ag):mayVa (vaD 7 op0 op0 0 pl0 nm (ns.map D.s) ag)
end
def rAm (s:Bs) (a:Nat) (w:Bs):Prop:=a+w.length<=s.length/\(s.drop a).take w.length=w
def nAr (hs:Bool) (va:D):Prop:=(hs=true/\mayVa va)\/(hs=false/\va=va00)
def rBd:Bs:=[108,101,116]
def wIf:Bs:=[105,102]
def aB3:Bs:=[119,104,105,108,101]
def wB9:Bs:=[108,111,111,112]
def bB3:Bs:=[98,114,101,97,107]
def yB9:Bs:=[99,111,110,116,105,110,117,101]
def tBd:Bs:=[114,101,116,117,114,110]
def aBa:Bs:=[100,114,111,112]
inductive SmK (s:Bs) (a n:Nat):Int->Bool->Bs->D->Bool->D->D->D->List D->List D->Prop
 | let_ {m nm ty hs va} (hn:eC nm=true) (ht:dG 64 ty) (hv:nAr hs va) (hw:rAm s a rBd):SmK s a n 1 m nm ty hs pl0 va op0 [] []
 | set {nm:Bs} {xs:List Bs} {va} (hn:eC nm=true) (hx:mAr 64 xs) (hv:mayVa va) (hw:rAm s a nm):SmK s a n 2 false [] ty0D false (gD nm (xs.map D.s)) va op0 [] []
 | call {nm:Bs} {ag:List D} (hn:nL nm) (h:mJ 64 qC ag) (hw:rAm s a []):SmK s a n 3 false [] ty0D false pl0 (vaD 6 op0 op0 0 pl0 nm [] ag) op0 [] []
 | if_ {hs co th el} (h0:0<n) (hc:qC co) (he:hs=false->el=[]) (hw:rAm s a wIf):SmK s a n 4 false [] ty0D hs pl0 va00 co th el
 | while_ {co th} (h0:0<n) (hc:qC co) (hw:rAm s a aB3):SmK s a n 5 false [] ty0D false pl0 va00 co th []
 | loop {th} (h0:0<n) (hw:rAm s a wB9):SmK s a n 6 false [] ty0D false pl0 va00 op0 th []
 | block {th} (h0:0<n) (hw:rAm s a [123]):SmK s a n 7 false [] ty0D false pl0 va00 op0 th []
 | break_ (hw:rAm s a bB3):SmK s a n 8 false [] ty0D false pl0 va00 op0 [] []
 | cont (hw:rAm s a yB9):SmK s a n 9 false [] ty0D false pl0 va00 op0 [] []
 | ret {hs va} (hv:nAr hs va) (hw:rAm s a tBd):SmK s a n 10 false [] ty0D hs pl0 va op0 [] []
 | drop {pl} (hp:lH pl) (hw:rAm s a aBa):SmK s a n 11 false [] ty0D false pl va00 op0 [] []
def oAr (s:Bs):Nat->D->Prop
 | 0,_=>False
 | n+1,d=>∃ (k:Int) (a:Nat) (m:Bool) (nm:Bs) (ty:D) (hs:Bool) (pl va co:D) (th el:List D),d=smT k (a:Int) m nm ty hs pl va co th el/\(∀ x∈th,oAr s n x)/\(∀ x∈el,oAr s n x)/\SmK s a n k m nm ty hs pl va co th el
def thD:D->List D
 | .t [_,_,_,_,_,_,_,_,_,.l th,_]=>th
 | _=>[]
def elD:D->List D
 | .t [_,_,_,_,_,_,_,_,_,_,.l el]=>el
 | _=>[]
def qG:Nat->List D->Nat
 | 0,_=>0
 | n+1,l=>l.length+(l.map fun d=>qG n (thD d)+qG n (elD d)).sum
section
variable {T:List Tok} {s:Bs}
def S1 (s:Bs) (a:Nat) (n:Nat) (d:D):Prop:=∃ (k:Int) (m:Bool) (nm:Bs) (ty:D) (hs:Bool) (pl va co:D) (th el:List D),d=smT k (a:Int) m nm ty hs pl va co th el/\(∀ x∈th,oAr s n x)/\(∀ x∈el,oAr s n x)/\SmK s a n k m nm ty hs pl va co th el
section
variable {α β:Type} {P:Nat->α->Nat->Prop} {Q:Nat->β->Nat->Prop}
end
end
end Qp
namespace Qp
inductive SmN (n:Nat):Int->Bool->Bs->D->Bool->D->D->D->List D->List D->Prop
 | let_ {m nm ty hs va} (hn:eC nm=true) (ht:dG 64 ty) (hv:nAr hs va):SmN n 1 m nm ty hs pl0 va op0 [] []
 | set {nm:Bs} {xs:List Bs} {va} (hn:eC nm=true) (hx:mAr 64 xs) (hv:mayVa va):SmN n 2 false [] ty0D false (gD nm (xs.map D.s)) va op0 [] []
 | call {nm:Bs} {ag:List D} (hn:nL nm) (h:mJ 64 qC ag):SmN n 3 false [] ty0D false pl0 (vaD 6 op0 op0 0 pl0 nm [] ag) op0 [] []
 | if_ {hs co th el} (h0:0<n) (hc:qC co) (he:hs=false->el=[]):SmN n 4 false [] ty0D hs pl0 va00 co th el
 | while_ {co th} (h0:0<n) (hc:qC co):SmN n 5 false [] ty0D false pl0 va00 co th []
 | loop {th} (h0:0<n):SmN n 6 false [] ty0D false pl0 va00 op0 th []
 | block {th} (h0:0<n):SmN n 7 false [] ty0D false pl0 va00 op0 th []
 | break_:SmN n 8 false [] ty0D false pl0 va00 op0 [] []
 | cont:SmN n 9 false [] ty0D false pl0 va00 op0 [] []
 | ret {hs va} (hv:nAr hs va):SmN n 10 false [] ty0D hs pl0 va op0 [] []
 | drop {pl} (hp:lH pl):SmN n 11 false [] ty0D false pl va00 op0 [] []
def bG:Nat->D->Prop
 | 0,_=>False
 | n+1,d=>∃ (k:Int) (a:Int) (m:Bool) (nm:Bs) (ty:D) (hs:Bool) (pl va co:D) (th el:List D),d=smT k a m nm ty hs pl va co th el/\(∀ x∈th,bG n x)/\(∀ x∈el,bG n x)/\SmN n k m nm ty hs pl va co th el
def mH (d:D):Prop:=∃ (pub:Bool) (nm:Bs) (lv:List Bs) (fs:List D) (a:Int),d=dAb pub nm lv fs a/\eC nm=true/\lAr 64 lv/\mJ 64 (wE false) fs
def nI (d:D):Prop:=∃ (pub:Bool) (nm:Bs) (lv ps:List D) (ty:D) (bd:List D) (a:Int),d=fuT pub nm lv ps ty bd a/\eC nm=true/\mJ 64 yJ lv/\mJ 64 (wE true) ps/\(ty=ty0D\/dG 64 ty)/\(∀ x∈bd,bG 64 x)/\qG 64 bd<=2000
end Qp
namespace Qk
open Qa
def rho:Go.Shelf.Ren:=⟨fun n=>bif Nat.beq n 145 then 196 else bif Nat.beq n 217 then 187 else bif Nat.beq n 219 then 227 else bif Nat.beq n 220 then 215 else bif Nat.beq n 224 then 237 else bif Nat.beq n 225 then 236 else bif Nat.beq n 266 then 206 else bif Nat.beq n 267 then 238 else 250,
 fun n=>bif Nat.beq n 3 then 3 else bif Nat.beq n 4 then 4 else bif Nat.beq n 5 then 5 else bif Nat.beq n 9 then 9 else bif Nat.beq n 46 then 191 else bif Nat.beq n 51 then 205 else bif Nat.beq n 59 then 201 else 206,fun _=>0⟩
theorem lays:Lays.n145 Tryz.prog rho where
 mixed:=by kernel_rfl
 f145:=by kernel_rfl
 f217:=by kernel_rfl
 f219:=by kernel_rfl
 f220:=by kernel_rfl
 f224:=by kernel_rfl
 f225:=by kernel_rfl
 f266:=by kernel_rfl
 f267:=by kernel_rfl
 f314:=by kernel_rfl
 t3:=by kernel_rfl
 a3:=fun _=>by kernel_rfl
 z3:=fun _=>by kernel_rfl
 v3:=fun _=>by kernel_rfl
 t4:=by kernel_rfl
 a4:=fun _=>by kernel_rfl
 z4:=fun _=>by kernel_rfl
 v4:=fun _=>by kernel_rfl
 t5:=by kernel_rfl
 a5:=fun _=>by kernel_rfl
 z5:=fun _=>by kernel_rfl
 v5:=fun _=>by kernel_rfl
 t9:=by kernel_rfl
 a9:=fun _=>by kernel_rfl
 z9:=fun _=>by kernel_rfl
 v9:=fun _=>by kernel_rfl
 t46:=by kernel_rfl
 a46:=fun _=>by kernel_rfl
 z46:=fun _=>by kernel_rfl
 v46:=fun _=>by kernel_rfl
 t51:=by kernel_rfl
 a51:=fun _=>by kernel_rfl
 z51:=fun _=>by kernel_rfl
 v51:=fun _=>by kernel_rfl
 t59:=by kernel_rfl
 a59:=fun _=>by kernel_rfl
 z59:=fun _=>by kernel_rfl
 v59:=fun _=>by kernel_rfl
 t146:=by kernel_rfl
 a146:=fun _=>by kernel_rfl
 z146:=fun _=>by kernel_rfl
 v146:=fun _=>by kernel_rfl
 g1:=by kernel_rfl
def gB0:Ai.Loc:=⟨0,0,1,false⟩
def tAm:Option Blk->Bool
 | some (.row [.int .i64 _] .ro)=>true
 | _=>false
def pinned (h:Heap):Bool:=iA2 4 gB0 h.pins&&tAm (h.t.get 4)
theorem uAm {b:Option Blk} (h:tAm b=true):∃ m,b=some (.row [.int .i64 m] .ro):=by
 unfold tAm at h
 split at h
 ·exact ⟨_,rfl⟩
 ·cases h
def iB0 (s sep:List UInt8) (h:Heap):Option ((List UInt8×List UInt8×Bool×Unit)×Heap):=bif pinned h&&Nat.blt s.length 4294967281 then some (((Lib.cut s sep).1,(Lib.cut s sep).2.1,(Lib.cut s sep).2.2,()),h) else none
theorem rAb (_N:Nat):jC Tryz.prog 196 [(.one .str),(.one .str)] (.tup [(.one .str),(.one .str),(.one .bool)]) (fun x h=>iB0 x.1 x.2.1 h):=by
 intro xs h r h' hx μ w args' hr hv;obtain ⟨s,sep,_⟩:=xs;have hx':iB0 s sep h=some (r,h'):=hx;unfold iB0 at hx'
 cases hb:(pinned h&&Nat.blt s.length 4294967281) with
 | false=>rw [hb] at hx';cases hx'
 | true=>
  rw [hb] at hx';simp only [cond_true,Option.some.injEq,Prod.mk.injEq] at hx';obtain ⟨rfl,rfl⟩:=hx';simp only [Bool.and_eq_true,pinned] at hb;obtain ⟨⟨b3,b4⟩,b5⟩:=hb;obtain ⟨m,b4⟩:=uAm b4;have hv':VRs μ [.str s,.str sep] args'.toList:=hv;simp only [VRs,VR] at hv';obtain ⟨y1,ys1,e1,rfl,y2,ys2,e2,rfl,e3⟩:=hv';subst e2 e3;have ea:args' = #[.string ⟨s.toArray⟩,.string ⟨sep.toArray⟩]:=by rw [<- Array.toList_inj,e1]
  subst ea;have hm2:=hr.pin _ (oA7 b3);have hrow:RowR μ w gB0 [.int .i64 m]:=hr.blk 4 gB0 _ hm2 b4;obtain ⟨y,h1,h2⟩:=hrow.cell 0 _ rfl;simp only [VR] at h2;subst h2;have hs:(⟨s.toArray⟩:ByteArray).size<4294967281:=by
   have:s.length<4294967281:=by simpa [Nat.blt_eq] using b5
   exact this
  refine ⟨fU vB7 (fn:=Tryz.f196) (by kernel_rfl) (by kernel_rfl) _ _,(Any.strings_Cut lays ⟨s.toArray⟩ ⟨sep.toArray⟩ m w hs h1).mono ?_⟩;rintro ev w' ⟨rfl,n,rfl⟩;have hb:Below w.heap.size w (w.drewN n):=below_drewN (Below.refl _ _) n;refine ⟨_,rfl,μ,?_,hr.below hb,Ext.of_below hb⟩;show VR μ (.tuple [.str _,.str _,.bool _]) _;simp only [VR,VRs];exact ⟨_,rfl,_,_,rfl,rfl,_,_,rfl,rfl,_,_,rfl,rfl,rfl⟩
end Qk
namespace Tw
open Go.Shelf
def Tryz.lays156_ren:Go.Shelf.Ren:=⟨fun | 156=>50 | 165=>89 | 166=>81 | 169=>44 | 240=>127 | 241=>139 | 276=>175 | 277=>185 | n=>n,fun | 31=>38 | 9=>9 | 3=>3 | 4=>4 | 0=>0 | 20=>20 | 72=>83 | 76=>141 | 70=>80 | 37=>81 | 75=>29 | 127=>144 | 164=>189 | 5=>5 | 80=>92 | n=>n,fun | n=>n⟩
theorem Tryz.lays156:Go.Proofs.Lays.n156 Tryz.prog Tryz.lays156_ren:={
 mixed:=by kernel_rfl
 f156:=Tryz.func50.trans (congrArg some (by kernel_rfl))
 f165:=Tryz.func89.trans (congrArg some (by kernel_rfl))
 f166:=Tryz.func81.trans (congrArg some (by kernel_rfl))
 f169:=Tryz.func44.trans (congrArg some (by kernel_rfl))
 f240:=Tryz.func127.trans (congrArg some (by kernel_rfl))
 f241:=Tryz.func139.trans (congrArg some (by kernel_rfl))
 f276:=Tryz.func175.trans (congrArg some (by kernel_rfl))
 f277:=Tryz.func185.trans (congrArg some (by kernel_rfl))
 t0:=Tryz.underlying0
 a0:=Tryz.isAgg0
 z0:=Tryz.sizeOf0
 v0:=Tryz.zeroValue0
 t3:=Tryz.underlying3
 a3:=Tryz.isAgg3
 z3:=Tryz.sizeOf3
 v3:=Tryz.zeroValue3
 t4:=Tryz.underlying4
 a4:=Tryz.isAgg4
 z4:=Tryz.sizeOf4
 v4:=Tryz.zeroValue4
 t9:=Tryz.underlying9
 a9:=Tryz.isAgg9
 z9:=Tryz.sizeOf9
 v9:=Tryz.zeroValue9
 t20:=Tryz.underlying20
 a20:=Tryz.isAgg20
 z20:=Tryz.sizeOf20
 v20:=Tryz.zeroValue20
 t31:=Tryz.underlying38
 a31:=Tryz.isAgg38
 z31:=Tryz.sizeOf38
 v31:=Tryz.zeroValue38
 t37:=Tryz.underlying81
 a37:=Tryz.isAgg81
 z37:=Tryz.sizeOf81
 v37:=Tryz.zeroValue81
 t70:=Tryz.underlying80
 a70:=Tryz.isAgg80
 z70:=Tryz.sizeOf80
 v70:=Tryz.zeroValue80
 t72:=Tryz.underlying83
 a72:=Tryz.isAgg83
 z72:=Tryz.sizeOf83
 v72:=Tryz.zeroValue83
 t75:=Tryz.underlying29
 a75:=Tryz.isAgg29
 z75:=Tryz.sizeOf29
 v75:=Tryz.zeroValue29
 t76:=Tryz.underlying141
 a76:=Tryz.isAgg141
 z76:=Tryz.sizeOf141
 v76:=Tryz.zeroValue141
 t127:=Tryz.underlying144
 a127:=Tryz.isAgg144
 z127:=Tryz.sizeOf144
 v127:=Tryz.zeroValue144
 t164:=Tryz.underlying189
 a164:=Tryz.isAgg189
 z164:=Tryz.sizeOf189
 v164:=Tryz.zeroValue189 }
theorem Tryz.Builder_Extra_156:Builder.Extra Tryz.prog Tryz.lays156_ren:={
 sizeBuilder:=by kernel_rfl
 liesBuilder:=by kernel_rfl
 t5:=Tryz.underlying5
 a5:=Tryz.isAgg5
 z5:=Tryz.sizeOf5
 v5:=Tryz.zeroValue5
 infoByte:=by kernel_rfl
 cellsByte:=by kernel_rfl
 sizeByte:=by kernel_rfl
 neB5:=by decide }
open Go.RowKit in
theorem Tryz.strings_Join_none (a:Option Addr) (c:Nat) (sep:ByteArray) (w:World) :
  Calls Tryz.prog 50 #[.slice a 0 c,.string sep] w fun e w'=>e=.returned (.string ⟨#[]⟩)/\w'=w:=Any.strings_Join_none Tryz.lays156 Tryz.Builder_Extra_156 a c sep w
open Go.RowKit in
theorem Tryz.strings_Join (bk o c:Nat) (xs:List ByteArray) (sep:ByteArray) (w:World) (hcells:∀ (j:Nat) x,xs[j]? = some x->w.cell? ⟨bk,o+j,none⟩=some (.string x)) (hbk:bk<w.heap.size) (hN:xs.length<=140737488355328) (hcap:xs.length<=c) (hlen:(Lib.join (xs.map (·.data.toList)) sep.data.toList).length<=140737488355328) :
  Calls Tryz.prog 50 #[.slice (some ⟨bk,o,none⟩) xs.length c,.string sep] w fun e w'=>e=.returned (.string ⟨(Lib.join (xs.map (·.data.toList)) sep.data.toList).toArray⟩)/\Below w.heap.size w w':=Any.strings_Join Tryz.lays156 Tryz.Builder_Extra_156 bk o c xs sep w hcells hbk hN hcap hlen
def Tryz.laysM171_ren:Go.Shelf.Ren:=⟨fun | 171=>204 | 243=>217 | 246=>230 | 283=>240 | 284=>241 | 285=>242 | 286=>243 | 129=>252 | 317=>251 | 318=>253 | 319=>254 | 320=>255 | 337=>260 | 338=>261 | n=>n,fun | 3=>3 | 9=>9 | 2=>2 | 4=>4 | 171=>251 | 0=>0 | 53=>208 | 37=>81 | 5=>5 | 173=>254 | 212=>264 | 51=>205 | 20=>20 | 213=>265 | 46=>191 | 232=>278 | 233=>279 | n=>n,fun | 17=>2 | 18=>5 | 19=>6 | n=>n⟩
theorem Tryz.laysM171:Go.Proofs.LaysM.n171 Tryz.prog Tryz.laysM171_ren:={
 mixed:=by kernel_rfl
 f129:=Tryz.func252.trans (congrArg some (by kernel_rfl))
 f171:=Tryz.func204.trans (congrArg some (by kernel_rfl))
 f243:=Tryz.func217.trans (congrArg some (by kernel_rfl))
 f246:=Tryz.func230.trans (congrArg some (by kernel_rfl))
 f283:=Tryz.func240.trans (congrArg some (by kernel_rfl))
 f284:=Tryz.func241.trans (congrArg some (by kernel_rfl))
 f285:=Tryz.func242.trans (congrArg some (by kernel_rfl))
 f286:=Tryz.func243.trans (congrArg some (by kernel_rfl))
 f317:=Tryz.func251.trans (congrArg some (by kernel_rfl))
 f318:=Tryz.func253.trans (congrArg some (by kernel_rfl))
 f319:=Tryz.func254.trans (congrArg some (by kernel_rfl))
 f320:=Tryz.func255.trans (congrArg some (by kernel_rfl))
 f337:=Tryz.func260.trans (congrArg some (by kernel_rfl))
 f338:=Tryz.func261.trans (congrArg some (by kernel_rfl))
 t0:=Tryz.underlying0
 a0:=Tryz.isAgg0
 z0:=Tryz.sizeOf0
 v0:=Tryz.zeroValue0
 t2:=Tryz.underlying2
 a2:=Tryz.isAgg2
 z2:=Tryz.sizeOf2
 v2:=Tryz.zeroValue2
 t3:=Tryz.underlying3
 a3:=Tryz.isAgg3
 z3:=Tryz.sizeOf3
 v3:=Tryz.zeroValue3
 t4:=Tryz.underlying4
 a4:=Tryz.isAgg4
 z4:=Tryz.sizeOf4
 v4:=Tryz.zeroValue4
 t5:=Tryz.underlying5
 a5:=Tryz.isAgg5
 z5:=Tryz.sizeOf5
 v5:=Tryz.zeroValue5
 t9:=Tryz.underlying9
 a9:=Tryz.isAgg9
 z9:=Tryz.sizeOf9
 v9:=Tryz.zeroValue9
 t20:=Tryz.underlying20
 a20:=Tryz.isAgg20
 z20:=Tryz.sizeOf20
 v20:=Tryz.zeroValue20
 t37:=Tryz.underlying81
 a37:=Tryz.isAgg81
 z37:=Tryz.sizeOf81
 v37:=Tryz.zeroValue81
 t46:=Tryz.underlying191
 a46:=Tryz.isAgg191
 z46:=Tryz.sizeOf191
 v46:=Tryz.zeroValue191
 t51:=Tryz.underlying205
 a51:=Tryz.isAgg205
 z51:=Tryz.sizeOf205
 v51:=Tryz.zeroValue205
 t53:=Tryz.underlying208
 a53:=Tryz.isAgg208
 z53:=Tryz.sizeOf208
 v53:=Tryz.zeroValue208
 t171:=Tryz.underlying251
 a171:=Tryz.isAgg251
 z171:=Tryz.sizeOf251
 v171:=Tryz.zeroValue251
 t173:=Tryz.underlying254
 a173:=Tryz.isAgg254
 z173:=Tryz.sizeOf254
 v173:=Tryz.zeroValue254
 t212:=Tryz.underlying264
 a212:=Tryz.isAgg264
 z212:=Tryz.sizeOf264
 v212:=Tryz.zeroValue264
 t213:=Tryz.underlying265
 a213:=Tryz.isAgg265
 z213:=Tryz.sizeOf265
 t232:=Tryz.underlying278
 a232:=Tryz.isAgg278
 z232:=Tryz.sizeOf278
 v232:=Tryz.zeroValue278
 t233:=Tryz.underlying279
 a233:=Tryz.isAgg279
 z233:=Tryz.sizeOf279
 v233:=Tryz.zeroValue279
 g17:=by kernel_rfl
 g18:=by kernel_rfl
 g19:=by kernel_rfl
 i0:=by kernel_rfl
 i2:=by kernel_rfl
 i3:=by kernel_rfl
 i4:=by kernel_rfl
 i5:=by kernel_rfl
 i9:=by kernel_rfl
 i20:=by kernel_rfl
 i37:=by kernel_rfl
 i46:=by kernel_rfl
 i51:=by kernel_rfl
 i53:=by kernel_rfl
 i171:=by kernel_rfl
 i173:=by kernel_rfl
 i212:=by kernel_rfl
 i232:=by kernel_rfl
 i233:=by kernel_rfl
 m17:=by kernel_rfl
 m18:=by kernel_rfl
 m19:=by kernel_rfl }
open Go.RowKit Go.Sort Go.Lib in
theorem Tryz.strconv_Itoa (n:Int) (h0:-9223372036854775808<=n) (h1:n<=9223372036854775807) (w:World) (htab:Lib.TabIs Tryz.prog w "internal/strconv.uint64pow10" .u64 Lib.pow10Tab) :
  Calls Tryz.prog 204 #[.int .i64 n] w fun e w'=>e=.returned (.string ⟨(Lib.itoa n).toArray⟩)/\∃ k os,w'=grow (w.drewN k) os:=Any.strconv_Itoa Tryz.laysM171 n h0 h1 w htab
def Tryz.lays105_ren:Go.Shelf.Ren:=⟨fun | 105=>128 | 212=>176 | 99=>140 | 165=>89 | 166=>81 | 170=>43 | 169=>44 | 263=>202 | 264=>203 | 206=>186 | 240=>127 | 241=>139 | 276=>175 | 277=>185 | n=>n,fun | 9=>9 | 3=>3 | 4=>4 | 20=>20 | 0=>0 | 46=>191 | 109=>192 | 5=>5 | 72=>83 | 76=>141 | 51=>205 | 146=>206 | 53=>208 | 148=>209 | 70=>80 | 37=>81 | 75=>29 | 127=>144 | 164=>189 | 80=>92 | n=>n,fun | n=>n⟩
theorem Tryz.lays105:Go.Proofs.Lays.n105 Tryz.prog Tryz.lays105_ren:={
 mixed:=by kernel_rfl
 f99:=Tryz.func140.trans (congrArg some (by kernel_rfl))
 f105:=Tryz.func128.trans (congrArg some (by kernel_rfl))
 f165:=Tryz.func89.trans (congrArg some (by kernel_rfl))
 f166:=Tryz.func81.trans (congrArg some (by kernel_rfl))
 f169:=Tryz.func44.trans (congrArg some (by kernel_rfl))
 f170:=Tryz.func43.trans (congrArg some (by kernel_rfl))
 f206:=Tryz.func186.trans (congrArg some (by kernel_rfl))
 f212:=Tryz.func176.trans (congrArg some (by kernel_rfl))
 f240:=Tryz.func127.trans (congrArg some (by kernel_rfl))
 f241:=Tryz.func139.trans (congrArg some (by kernel_rfl))
 f263:=Tryz.func202.trans (congrArg some (by kernel_rfl))
 f264:=Tryz.func203.trans (congrArg some (by kernel_rfl))
 f276:=Tryz.func175.trans (congrArg some (by kernel_rfl))
 f277:=Tryz.func185.trans (congrArg some (by kernel_rfl))
 t0:=Tryz.underlying0
 a0:=Tryz.isAgg0
 z0:=Tryz.sizeOf0
 v0:=Tryz.zeroValue0
 t3:=Tryz.underlying3
 a3:=Tryz.isAgg3
 z3:=Tryz.sizeOf3
 v3:=Tryz.zeroValue3
 t4:=Tryz.underlying4
 a4:=Tryz.isAgg4
 z4:=Tryz.sizeOf4
 v4:=Tryz.zeroValue4
 t5:=Tryz.underlying5
 a5:=Tryz.isAgg5
 z5:=Tryz.sizeOf5
 v5:=Tryz.zeroValue5
 t9:=Tryz.underlying9
 a9:=Tryz.isAgg9
 z9:=Tryz.sizeOf9
 v9:=Tryz.zeroValue9
 t20:=Tryz.underlying20
 a20:=Tryz.isAgg20
 z20:=Tryz.sizeOf20
 v20:=Tryz.zeroValue20
 t37:=Tryz.underlying81
 a37:=Tryz.isAgg81
 z37:=Tryz.sizeOf81
 v37:=Tryz.zeroValue81
 t46:=Tryz.underlying191
 a46:=Tryz.isAgg191
 z46:=Tryz.sizeOf191
 v46:=Tryz.zeroValue191
 t51:=Tryz.underlying205
 a51:=Tryz.isAgg205
 z51:=Tryz.sizeOf205
 v51:=Tryz.zeroValue205
 t53:=Tryz.underlying208
 a53:=Tryz.isAgg208
 z53:=Tryz.sizeOf208
 v53:=Tryz.zeroValue208
 t70:=Tryz.underlying80
 a70:=Tryz.isAgg80
 z70:=Tryz.sizeOf80
 v70:=Tryz.zeroValue80
 t72:=Tryz.underlying83
 a72:=Tryz.isAgg83
 z72:=Tryz.sizeOf83
 v72:=Tryz.zeroValue83
 t75:=Tryz.underlying29
 a75:=Tryz.isAgg29
 z75:=Tryz.sizeOf29
 v75:=Tryz.zeroValue29
 t76:=Tryz.underlying141
 a76:=Tryz.isAgg141
 z76:=Tryz.sizeOf141
 v76:=Tryz.zeroValue141
 t109:=Tryz.underlying192
 a109:=Tryz.isAgg192
 z109:=Tryz.sizeOf192
 v109:=Tryz.zeroValue192
 t127:=Tryz.underlying144
 a127:=Tryz.isAgg144
 z127:=Tryz.sizeOf144
 v127:=Tryz.zeroValue144
 t146:=Tryz.underlying206
 a146:=Tryz.isAgg206
 z146:=Tryz.sizeOf206
 v146:=Tryz.zeroValue206
 t148:=Tryz.underlying209
 a148:=Tryz.isAgg209
 z148:=Tryz.sizeOf209
 v148:=Tryz.zeroValue209
 t164:=Tryz.underlying189
 a164:=Tryz.isAgg189
 z164:=Tryz.sizeOf189
 v164:=Tryz.zeroValue189 }
theorem Tryz.Builder_Extra_105:Builder.Extra Tryz.prog Tryz.lays105_ren:={
 sizeBuilder:=by kernel_rfl
 liesBuilder:=by kernel_rfl
 t5:=Tryz.underlying5
 a5:=Tryz.isAgg5
 z5:=Tryz.sizeOf5
 v5:=Tryz.zeroValue5
 infoByte:=by kernel_rfl
 cellsByte:=by kernel_rfl
 sizeByte:=by kernel_rfl
 neB5:=by decide }
open Go.RowKit Go.Lib in
theorem Tryz.strings_Repeat (s:ByteArray) (c:Nat) (w:World) (hc:c<=9223372036854775807) (hlen:s.size * c<=140737488355328) :
  Calls Tryz.prog 128 #[.string s,.int .i64 c] w fun e w'=>e=.returned (.string ⟨(Lib.repeatL s.data.toList c).toArray⟩)/\Below w.heap.size w w':=Any.strings_Repeat Tryz.lays105 Tryz.Builder_Extra_105 s c w hc hlen
end Tw
open Go.ChangeShapes Go.WideShapes
namespace Qb
open Tw
def strsOf:List AV->Option (List (List UInt8))
 | []=>some []
 | .str s::r=>match strsOf r with
  | some l=>some (s::l)
  | none=>none
 | _::_=>none
def joinL:List (List UInt8)->List UInt8->List UInt8
 | [],_=>[]
 | [x],_=>x
 | x::y::r,sep=>x++(sep++joinL (y::r) sep)
theorem gA3:∀ (l:List (List UInt8)) (sep:List UInt8),joinL l sep=Lib.join l sep
 | [],sep=>rfl
 | [x],sep=>(Lib.join_one x sep).symm
 | x::y::r,sep=>by
  rw [Lib.join_cons];show x++(sep++joinL (y::r) sep)=_;rw [gA3 (y::r) sep,Lib.join_cons];simp [Lib.joinTail]
def joinF (s:SL) (sep:List UInt8) (h:Heap):Option (List UInt8×Heap):=
 bif Nat.beq s.len 0 then some ([],h) else
 match s.a with
 | some (A,off)=>bif Nat.ble s.len s.cap then
   match h.read A off s.len with
   | some vs=>match strsOf vs with
    | some xs=>bif Nat.ble xs.length 140737488355328&&Nat.ble (joinL xs sep).length 140737488355328 then some (joinL xs sep,h) else none
    | none=>none
   | none=>none
  else none
 | none=>none
theorem tA0 {μ:Mu}:∀ {vs:List AV} {xs:List (List UInt8)} {ys:List Value},strsOf vs=some xs->VRs μ vs ys->ys=xs.map fun s=>.string ⟨s.toArray⟩
 | [],xs,ys,h,hv=>by grind [strsOf,VRs]
 | v::r,xs,ys,h,hv=>by
  cases v with
  | str s=>
   simp only [strsOf] at h
   cases hr:strsOf r with
   | none=>simp [hr] at h
   | some l=>
    simp only [hr,Option.some.injEq] at h;subst h;simp only [VRs,VR] at hv;obtain ⟨y,ys',rfl,rfl,h2⟩:=hv;rw [tA0 hr h2];rfl
  | _=>simp [strsOf] at h
theorem cAx {s:SL} {sep r:List UInt8} {h h':Heap} (hx:joinF s sep h=some (r,h')) {μ:Mu} {w:World} {args':Array Value} (hr:HR μ h w) (hv:VRs μ [.slice s.a s.len s.cap s.sz,.str sep] args'.toList) :
  (callFunc 50 args').run Tryz.prog w=.ok (.enter 50 args') w/\Calls Tryz.prog 50 args' w fun e w'=>∃ u,e=.returned u/\cB0 μ h w (.str r) h' u w':=by
 refine ⟨fU Qa.vB7 (fn:=Tryz.f50) (by kernel_rfl) (by kernel_rfl) _ _,?_⟩;simp only [VRs] at hv;obtain ⟨y,ys,e1,hy,y2,ys2,e2,hy2,e3⟩:=hv;subst e2 e3;simp only [VR] at hy2;subst hy2;have ea:args' = #[y,.string ⟨sep.toArray⟩]:=by grind
 subst ea;unfold joinF at hx
 cases hb:Nat.beq s.len 0 with
 | true=>
  simp only [hb,cond_true,Option.some.injEq,Prod.mk.injEq] at hx;obtain ⟨rfl,rfl⟩:=hx;have hl:s.len=0:=Nat.eq_of_beq_eq_true hb
  have:∃ a c,y=.slice a 0 c:=by
   cases ha:s.a with
   | none=>grind [VR]
   | some q=>
    grind [VR]
  obtain ⟨a,c,rfl⟩:=this;refine (Tryz.strings_Join_none a c ⟨sep.toArray⟩ w).mono ?_;rintro e w' ⟨rfl,rfl⟩;exact ⟨_,rfl,μ,by simp [VR],hr,Ext.refl μ h w'⟩
 | false=>
  simp only [hb,cond_false] at hx
  cases ha:s.a with
  | none=>simp [ha] at hx
  | some q=>
   obtain ⟨A,off⟩:=q;simp only [ha] at hx
   cases hc:Nat.ble s.len s.cap with
   | false=>simp [hc] at hx
   | true=>
    simp only [hc,cond_true] at hx
    cases hrd:h.read A off s.len with
    | none=>simp [hrd] at hx
    | some vs=>
     simp only [hrd] at hx
     cases hst:strsOf vs with
     | none=>simp [hst] at hx
     | some xs=>
      simp only [hst] at hx
      cases hbd:Nat.ble xs.length 140737488355328&&Nat.ble (joinL xs sep).length 140737488355328 with
      | false=>simp [hbd] at hx
      | true=>
       simp only [hbd,cond_true,Option.some.injEq,Prod.mk.injEq] at hx;obtain ⟨rfl,rfl⟩:=hx;simp only [Bool.and_eq_true,Nat.ble_eq] at hbd hc;rw [ha] at hy;simp only [VR] at hy;obtain ⟨l,a',cap',hA,rfl,h3,h4⟩:=hy;have hpos:0<s.len:=by
        rcases Nat.eq_zero_or_pos s.len with h0 | h0
        ·rw [h0] at hb;cases hb
        ·exact h0
       rcases h4 with ⟨h4,_⟩ | ⟨rfl,h5,h6,h7⟩
       ·omega
       ·obtain ⟨ys,_,h8,h9,h10⟩:=hr.read (P:=Tryz.prog) hA hrd
        have h11:=tA0 hst h9;have hxl:xs.length=s.len:=by grind
        have hmap:(xs.map (fun s=>(⟨s.toArray⟩:ByteArray))).map (·.data.toList)=xs:=by
         rw [List.map_map];simp [Function.comp_def]
        have:=Tryz.strings_Join l.b (l.sh+off) cap' (xs.map fun s=>⟨s.toArray⟩) ⟨sep.toArray⟩ w (fun j x hj=>by
          grind)
         (hr.dom A l hA).2 (by grind) (by grind) (by grind [gA3])
        rw [List.length_map,hxl,hmap] at this;refine this.mono ?_;rintro e w' ⟨rfl,hbel⟩;refine ⟨_,rfl,μ,?_,hr.below hbel,Ext.of_below hbel⟩
        grind [VR,gA3]
theorem f50_ok (N:Nat):jC Tryz.prog 50 [(.one .slice),(.one .str)] (.val (.one .str)) (fun x h=>joinF x.1 x.2.1 h):=by
 intro xs h r h' hx μ w args' hr hv;exact cAx hx hr hv
def escF (v:AV) (h:Heap):Option (AV×Heap):=match v with
 | .ptr a=>some (.ptr a,h)
 | _=>none
theorem f175_ok (N:Nat):fAw Tryz.prog 175 [(.one .any)] (.val (.one .any)) (fun x h=>escF x.1 h):=by
 intro xs h r h' hx μ w args' hr hv;obtain ⟨v,_⟩:=xs;have hx':escF v h=some (r,h'):=hx;unfold escF at hx'
 split at hx'
 ·rename_i a
  simp only [Option.some.injEq,Prod.mk.injEq] at hx';obtain ⟨rfl,rfl⟩:=hx';have hv':VRs μ [.ptr a] args'.toList:=hv;simp only [VRs] at hv';obtain ⟨y1,ys1,e1,hy,rfl⟩:=hv';have ea:args' = #[y1]:=by grind
  subst ea;refine ⟨y1,w,?_,μ,hy,hr,Ext.refl μ _ w⟩;have h1:=@run_callFunc_extern Tryz.prog 175 _ Extern.AbiNoEscape.same Tryz.func175 (by kernel_rfl) (by kernel_rfl) (by kernel_rfl) (by kernel_rfl) #[y1] w;rw [h1];rfl
 ·cases hx'
def repF (s:List UInt8) (c:Int) (h:Heap):Option (List UInt8×Heap):=match c with
 | .ofNat n=>bif Nat.ble n 9223372036854775807&&Nat.ble (s.length * n) 140737488355328 then some (Lib.repeatL s n,h) else none
 | .negSucc _=>none
theorem f128_ok (N:Nat):jC Tryz.prog 128 [(.one .str),(.one (.int .i64))] (.val (.one .str)) (fun x h=>repF x.1 x.2.1 h):=by
 intro xs h r h' hx μ w args' hr hv;obtain ⟨s,c,_⟩:=xs;have hx':repF s c h=some (r,h'):=hx;unfold repF at hx'
 split at hx'
 ·rename_i n
  cases hb:(Nat.ble n 9223372036854775807&&Nat.ble (s.length * n) 140737488355328) with
  | false=>simp [hb] at hx'
  | true=>
   simp only [hb,cond_true,Option.some.injEq,Prod.mk.injEq] at hx';obtain ⟨rfl,rfl⟩:=hx';simp only [Bool.and_eq_true,Nat.ble_eq] at hb;have hv':VRs μ [.str s,.int .i64 (n:Int)] args'.toList:=hv;simp only [VRs,VR] at hv';obtain ⟨y1,ys1,e1,rfl,y2,ys2,e2,rfl,e3⟩:=hv';subst e2 e3;have ea:args' = #[.string ⟨s.toArray⟩,.int .i64 (n:Int)]:=by grind
   subst ea;refine ⟨fU Qa.vB7 (fn:=Tryz.f128) (by kernel_rfl) (by kernel_rfl) _ _,(Tryz.strings_Repeat ⟨s.toArray⟩ n w hb.1 hb.2).mono ?_⟩;rintro e w' ⟨rfl,hbel⟩;exact ⟨_,rfl,μ,by simp [Ty.to,VTy.to,CTy.to,VR],hr.below hbel,Ext.of_below hbel⟩
 ·cases hx'
def tab:List AV:=Lib.pow10Tab.map (AV.int .u64)
def gTab:Nat:=2
theorem gTab_is:Tryz.prog.globalNamed "internal/strconv.uint64pow10" = some gTab:=by kernel_rfl
def tabLoc:Ai.Loc:=⟨gTab,0,20,false⟩
theorem tab_len:tab.length=20:=by grind [tab,List.length_map,Lib.pow10Tab_length]
theorem pAr {μ:Mu} {h:Heap} {w:World} (hr:HR μ h w) (hp:(5,tabLoc)∈h.pins) (hg:h.t.get 5=some (.row tab .ro)):Lib.TabIs Tryz.prog w "internal/strconv.uint64pow10" .u64 Lib.pow10Tab:=by
 have hμ:=hr.pin _ hp;have hb:RowR μ w tabLoc tab:=hr.blk 5 tabLoc _ hμ hg;unfold Lib.TabIs World.var?;rw [gTab_is];obtain ⟨e,hs⟩:=hb.shape;have hs':w.shape? gTab=some (e,20):=hs;unfold World.shape? at hs';have hc:∀ (i:Nat) (x:AV),tab[i]? = some x->∃ y,w.cell? ⟨gTab,0+i,none⟩=some y/\VR μ x y:=hb.cell;simp only [World.cell?] at hc;show (match w.heap[gTab]? with | some (.cells cs _ _)=>some cs | _=>none)=_
 cases hq:w.heap[gTab]? with
 | none=>grind
 | some o=>
  rw [hq] at hs' hc
  cases o with
  | cells cs t fz=>
   simp only [Option.some.injEq,Prod.mk.injEq] at hs';simp only [Option.isSome_none,Bool.false_eq_true,if_false,Nat.zero_add] at hc;simp only [Option.some.injEq]
   apply Array.ext'
   apply List.ext_getElem?
   intro i;rw [Array.getElem?_toList];have hl:=Lib.pow10Tab_length
   by_cases hi:i<20
   ·obtain ⟨y,h1,h2⟩:=hc i (AV.int .u64 (Lib.pow10Tab[i]'(by omega))) (by grind [tab,List.getElem?_eq_getElem])
    grind [VR,List.getElem?_eq_getElem]
   grind
  | _=>cases hs'
open Classical in
noncomputable def itoaF (i:Int) (h:Heap):Option (List UInt8×Heap):=
 if (5,tabLoc)∈h.pins/\h.t.get 5=some (.row tab .ro)∧-9223372036854775808<=i/\i<=9223372036854775807 then some (Lib.itoa i,h) else none
theorem f204_ok (N:Nat):jC Tryz.prog 204 [.one (.int .i64)] (.val (.one .str)) (fun x h=>itoaF x.1 h):=by
 rintro ⟨i,_⟩ h r h' hx μ w args' hr hv;have hx:itoaF i h=some (r,h'):=hx;unfold itoaF at hx
 split at hx
 ·rename_i hc
  obtain ⟨h1,h2,h3,h4⟩:=hc;simp only [Option.some.injEq,Prod.mk.injEq] at hx;obtain ⟨rfl,rfl⟩:=hx;have ht:=pAr hr h1 h2;refine ⟨fU Qa.vB7 (fn:=Tryz.f204) (by kernel_rfl) (by kernel_rfl) _ _,?_⟩;have hv':VRs μ [.int .i64 i] args'.toList:=hv;simp only [VRs,VR] at hv';obtain ⟨y,ys,e1,rfl,rfl⟩:=hv';have ea:args' = #[.int .i64 i]:=by grind
  subst ea;refine (Tryz.strconv_Itoa i h3 h4 w ht).mono ?_;rintro e w' ⟨rfl,k,os,rfl⟩;have hbel:=Lib.below_grow w.heap.size w (Nat.le_refl _) k os;exact ⟨_,rfl,μ,by simp [Ty.to,VTy.to,CTy.to,VR],hr.below hbel,Ext.of_below hbel⟩
 ·cases hx
end Qb
namespace Qp
end Qp
namespace Qp
noncomputable section
def f119 (N:Nat) (a0:zQ2) (h:Heap):Option (Bool×Heap):=let x1:=!fB a0 [];(bif x1 then let x2:Bool:=wB (Int.ofNat a0.length) 32;(bif x2 then(iAp a0 0 fun x3=>(mA (f170 N x3 h) fun (x4:Bool) h5=>(bif x4 then(mA (f171 N a0 0 h5) fun (x6:Int) h7=>let x8:=eA x6 (Int.ofNat a0.length);(bif x8 then(mA (f172 N a0 h7) fun (x9:Bool) h10=>let x11:=!x9;some (x11,h10))else some (false,h7)))else some (false,h5))))else some (false,h))else some (false,h))
def cB3:Ann:=.n
theorem dM (N:Nat):jC Tryz.prog 119 [zM2] (.val zN2) (fun x h=>f119 N x.1 h):=cD (iA (nAl N) (iA (jAw N) (iA (mAl N) nA))) N cB3 Tryz.f119
def f122 (N:Nat) (a0:zQ2) (h:Heap):Option (Bool×Heap):=(mA (f119 N a0 h) fun (x1:Bool) h2=>(bif x1 then some (true,h2)else(mA (f172 N a0 h2) fun (x3:Bool) h4=>some (x3,h4))))
def dB3:Ann:=.n
theorem vAm (N:Nat):jC Tryz.prog 122 [zM2] (.val zN2) (fun x h=>f122 N x.1 h):=cD (iA (nAl N) (iA (dM N) nA)) N dB3 Tryz.f122
def lQ (N:Nat) (go:SL->Bool->SL->Int->Int->Heap->Option (Out×zP1×Heap)) (v0:SL) (v2:Bool) (v5:SL) (v6 v7:Int) (h:Heap):Option (Out×zP1×Heap):=let x1:=ltInt v7 v6;(bif x1 then(ixK v5.a v5.len v7 1 fun q2=>(dA (.val zM2) (h.cell q2) fun (x3:zQ2)=>(mA (f122 N x3 h) fun (x4:Bool) h5=>let x6:=!x4;(bif x6 then some (Out.ret,(v0,false,()),h5)else let x7:=jB .i64 (v7+1);go v0 v2 v5 v6 x7 h5))))else some ((Out.exit 0),(v0,v2,()),h))
def lX (N M:Nat) (v0:SL) (v2:Bool) (v5:SL) (v6 v7:Int) (h:Heap):Option (Out×zP1×Heap):=iter (fun go s h=>lQ N (fun v0 v2 v5 v6 v7 h=>go (v0,v2,v5,v6,v7,()) h) s.1 s.2.1 s.2.2.1 s.2.2.2.1 s.2.2.2.2.1 h) M (v0,v2,v5,v6,v7,()) h
theorem wS (N M v0 v2 v5 v6 v7 h):lX N (M+1) v0 v2 v5 v6 v7 h=lQ N (lX N M) v0 v2 v5 v6 v7 h:=rfl
def f120 (N:Nat) (a0:SL) (h:Heap):Option (Bool×Heap):=(pC (lX N N a0 false a0 (Int.ofNat a0.len) 0 h) fun o8 (j9:zP1) h10=>(bif jD o8 (.exit 0) then let x11:Bool:=wB (Int.ofNat j9.1.len) 64;some (x11,h10)else some (j9.2.1,h10)))
def eB3:Ann:=(.two .n (.two (.two .n (.two (.loop [(0,zL2),(2,zN2),(5,zL2),(6,zO2),(7,zO2)] [(.exit 0),.ret] [(0,zL2),(2,zN2)] .n) .n)) .n))
theorem tAb (N:Nat):jC Tryz.prog 120 [zL2] (.val zN2) (fun x h=>f120 N x.1 h):=cD (iA (vAm N) nA) N eB3 Tryz.f120
noncomputable def f196 (N:Nat) (a0 a1:zQ2) (h:Heap):Option (zI2×Heap):=Qk.iB0 a0 a1 h
theorem rAb (N:Nat):jC Tryz.prog 196 [zM2,zM2] (.tup [zM2,zM2,zN2]) (fun x h=>f196 N x.1 x.2.1 h):=Qk.rAb N
def f173 (N:Nat) (a0:zQ2) (h:Heap):Option (Bool×Heap):=(mA (f196 N a0 [58,58] h) fun (x1:zI2) h2=>(mA (f119 N x1.1 h2) fun (x3:Bool) h4=>(bif x3 then let x5:=!x1.2.2.1;(bif x5 then some (true,h4)else(mA (f119 N x1.2.1 h4) fun (x6:Bool) h7=>some (x6,h7)))else some (false,h4))))
def fB3:Ann:=.n
theorem wAm (N:Nat):jC Tryz.prog 173 [zM2] (.val zN2) (fun x h=>f173 N x.1 h):=cD (iA (rAb N) (iA (dM N) nA)) N fB3 Tryz.f173
noncomputable def f123 (N:Nat) (a0:zR) (h:Heap):Option (Bool×Heap):=let h1:=h.push (.row (yRE a0) .own);(dA (.val zM2) (h1.cell (h.next,1)) fun (x2:zQ2)=>let x3:=fB x2 [];(bif x3 then(dA (.val zL2) (h1.cell (h.next,2)) fun (x4:SL)=>let x5:=eA (Int.ofNat x4.len) 0;(bif x5 then(dA (.val zL2) (h1.cell (h.next,3)) fun (x6:SL)=>let x7:=eA (Int.ofNat x6.len) 0;some (x7,h1))else some (false,h1)))else some (false,h1)))
def gB3:Ann:=.n
theorem yAm (N:Nat):jC Tryz.prog 123 [zE] (.val zN2) (fun x h=>f123 N x.1 h):=cD nA N gB3 Tryz.f123
def dA8 (N:Nat) (rec124:zR->Int->Heap->Option (Bool×Heap)) (a0:zR) (a1:Int) (h:Heap):Option (Bool×Heap):=let h1:=h.push (.row (yRE a0) .own);let x2:=ltInt 64 a1;(bif x2 then some (false,h1)else(dA (.val zO2) (h1.cell (h.next,0)) fun (x3:Int)=>let x4:=eA x3 3;(bif x4 then(dA (.val zM2) (h1.cell (h.next,1)) fun (x5:zQ2)=>(mA (f173 N x5 h1) fun (x6:Bool) h7=>(bif x6 then(dA (.val zL2) (h7.cell (h.next,2)) fun (x8:SL)=>(mA (f120 N x8 h7) fun (x9:Bool) h10=>(bif x9 then(dA (.val zL2) (h10.cell (h.next,3)) fun (x11:SL)=>let x12:=eA (Int.ofNat x11.len) 0;some (x12,h10))else some (false,h10))))else some (false,h7))))else(mA (α:=zJ1) ( let x13:=eA x3 4;(bif x13 then some ((a1,(some (h.next,0)),x3,x13,()),h1)else let x14:=eA x3 5;some ((a1,(some (h.next,0)),x3,x14,()),h1))) fun (j15:zJ1) h16=>(bif j15.2.2.2.1 then(bB j15.2.1 fun q17=>(dA (.val zM2) (h16.cell (q17.1,q17.2+1)) fun (x18:zQ2)=>let x19:=fB x18 [];(bif x19 then(bB j15.2.1 fun q20=>(dA (.val zL2) (h16.cell (q20.1,q20.2+2)) fun (x21:SL)=>let x22:Bool:=wB (Int.ofNat x21.len) 1;(bif x22 then(bB j15.2.1 fun q23=>(dA (.val zL2) (h16.cell (q23.1,q23.2+2)) fun (x24:SL)=>(mA (f120 N x24 h16) fun (x25:Bool) h26=>(bif x25 then(bB j15.2.1 fun q27=>(dA (.val zL2) (h26.cell (q27.1,q27.2+3)) fun (x28:SL)=>let x29:=eA (Int.ofNat x28.len) 1;(bif x29 then(bB j15.2.1 fun q30=>(dA (.val zL2) (h26.cell (q30.1,q30.2+3)) fun (x31:SL)=>
 (ixK x31.a x31.len 0 4 fun q32=>(dA (.val zE) (h26.cells q32 4) fun (x33:zR)=>let x34:=jB .i64 (j15.1+1);(mA (rec124 x33 x34 h26) fun (x35:Bool) h36=>some (x35,h36))))))else some (false,h26))))else some (false,h26)))))else some (false,h16))))else some (false,h16))))else(mA (α:=zY) ( let x37:=eA j15.2.2.1 1;(bif x37 then some ((j15.2.1,x37,()),h16)else let x38:=eA j15.2.2.1 2;some ((j15.2.1,x38,()),h16))) fun (j39:zY) h40=>(bif j39.2.1 then(bB j39.1 fun q41=>(dA (.val zE) (h40.cells q41 4) fun (x42:zR)=>(mA (f123 N x42 h40) fun (x43:Bool) h44=>some (x43,h44))))else some (false,h40))))))))
def iB3:Ann:=(.two .n (.two .n (.two (.two .n (.two (.two .n (.two .n (.two (.join [(1,zO2),(2,zK2),(8,zO2),(25,zN2)] .n) (.two .n (.two (.join [(2,zK2),(57,zN2)] .n) .n))))) .n)) .n)))
def dAx (N M:Nat):((zR->Int->Heap->Option (Bool×Heap))×Unit):=Nat.rec (fun _ _ _=>none,()) (fun _ r=>(dA8 N r.1,())) M
def f124 (N M:Nat):zR->Int->Heap->Option (Bool×Heap):=(dAx N M).1
theorem mX (N M a0 a1 h):f124 N (M+1) a0 a1 h=dA8 N (f124 N M) a0 a1 h:=rfl
theorem nX (N:Nat):∀ M:Nat,(jC Tryz.prog 124 [zE,zO2] (.val zN2) (fun x h=>f124 N M x.1 x.2.1 h))/\True
 | 0=>⟨(fun xs h r h' hx=>by cases hx),trivial⟩
 | M+1=>⟨cD (iA (wAm N) (iA (nX N M).1 (iA (yAm N) (iA (tAb N) nA)))) N iB3 Tryz.f124,trivial⟩
theorem uAb (N:Nat):jC Tryz.prog 124 [zE,zO2] (.val zN2) (fun x h=>f124 N N x.1 x.2.1 h):=(nX N N).1
def mQ (N:Nat) (go:SL->Bool->Bool->SL->Int->Int->Heap->Option (Out×zP1×Heap)) (v0:SL) (v1 v4:Bool) (v7:SL) (v8 v9:Int) (h:Heap):Option (Out×zP1×Heap):=let x1:=ltInt v9 v8;(bif x1 then(ixK v7.a v7.len v9 6 fun q2=>(dA (.val zM) (h.cells q2 6) fun (x3:zF2)=>let h4:=h.push (.row yZH .own);(bB (h4.store (h.next,0) (yRI x3)) fun h5=>(dA (.val zN2) (h5.cell (h.next,0)) fun (x6:Bool)=>(bif x6 then let x7:=!v1;(bif x7 then some (Out.ret,(v0,false,()),h5)else(dA (.val zM2) (h5.cell (h.next,1)) fun (x8:zQ2)=>(mA (f119 N x8 h5) fun (x9:Bool) h10=>let x11:=!x9;(bif x11 then some (Out.ret,(v0,false,()),h10)else(dA (.val zE) (h10.cells (h.next,2) 4) fun (x12:zR)=>(mA (f124 N N x12 1 h10) fun (x13:Bool) h14=>let x15:=!x13;(bif x15 then some (Out.ret,(v0,false,()),h14)else let x16:=jB .i64 (v9+1);go v0 v1 v4 v7 v8 x16 h14)))))))else(dA (.val zM2) (h5.cell (h.next,1)) fun (x17:zQ2)=>(mA (f119 N x17 h5) fun (x18:Bool) h19=>let x20:=!x18;(bif x20 then some (Out.ret,(v0,false,()),h19)else(dA (.val zE) (h19.cells (h.next,2) 4) fun (x21:zR)=>(mA (f124 N N x21 1 h19) fun (x22:Bool) h23=>let x24:=!x22;(bif x24 then some (Out.ret,(v0,false,()),h23)else let x25:=jB .i64 (v9+1);go v0 v1 v4 v7 v8 x25 h23)))))))))))else some ((Out.exit 0),(v0,v4,()),h))
def rO (N M:Nat) (v0:SL) (v1 v4:Bool) (v7:SL) (v8 v9:Int) (h:Heap):Option (Out×zP1×Heap):=iter (fun go s h=>mQ N (fun v0 v1 v4 v7 v8 v9 h=>go (v0,v1,v4,v7,v8,v9,()) h) s.1 s.2.1 s.2.2.1 s.2.2.2.1 s.2.2.2.2.1 s.2.2.2.2.2.1 h) M (v0,v1,v4,v7,v8,v9,()) h
theorem aT (N M v0 v1 v4 v7 v8 v9 h):rO N (M+1) v0 v1 v4 v7 v8 v9 h=mQ N (rO N M) v0 v1 v4 v7 v8 v9 h:=rfl
def f121 (N:Nat) (a0:SL) (a1:Bool) (h:Heap):Option (Bool×Heap):=(pC (rO N N a0 a1 false a0 (Int.ofNat a0.len) 0 h) fun o26 (j27:zP1) h28=>(bif jD o26 (.exit 0) then let x29:Bool:=wB (Int.ofNat j27.1.len) 64;some (x29,h28)else some (j27.2.1,h28)))
def jB3:Ann:=(.two .n (.two (.two .n (.two (.loop [(0,zL2),(1,zN2),(4,zN2),(7,zL2),(8,zO2),(9,zO2)] [(.exit 0),.ret] [(0,zL2),(4,zN2)] .n) .n)) .n))
theorem aAn (N:Nat):jC Tryz.prog 121 [zL2,zN2] (.val zN2) (fun x h=>f121 N x.1 x.2.1 h):=cD (iA (uAb N) (iA (dM N) nA)) N jB3 Tryz.f121
def f79 (N:Nat) (a0:zT1) (h:Heap):Option (Bool×Heap):=let h1:=h.push (.row (yRG a0) .own);(dA (.val zM2) (h1.cell (h.next,1)) fun (x2:zQ2)=>(mA (f119 N x2 h1) fun (x3:Bool) h4=>(bif x3 then(dA (.val zL2) (h4.cell (h.next,2)) fun (x5:SL)=>(mA (f120 N x5 h4) fun (x6:Bool) h7=>(bif x6 then(dA (.val zL2) (h7.cell (h.next,3)) fun (x8:SL)=>(mA (f121 N x8 false h7) fun (x9:Bool) h10=>some (x9,h10)))else some (false,h7))))else some (false,h4))))
def bBa:Ann:=.n
theorem kB3 (N:Nat):jC Tryz.prog 79 [zK] (.val zN2) (fun x h=>f79 N x.1 h):=cD (iA (aAn N) (iA (tAb N) (iA (dM N) nA))) N bBa Tryz.f79
def nQ (N:Nat) (go:zJ2->Bool->SL->Int->Int->Heap->Option (Out×zY×Heap)) (v1:zJ2) (v2:Bool) (v6:SL) (v7 v8:Int) (h:Heap):Option (Out×zY×Heap):=let x3:=ltInt v8 v7;(bif x3 then(ixK v6.a v6.len v8 1 fun q4=>(dA (.val zM2) (h.cell q4) fun (x5:zQ2)=>let x6:=!fB x5 [42];(bif x6 then(mA (f119 N x5 h) fun (x7:Bool) h8=>let x9:=!x7;(bif x9 then some (Out.ret,(v1,false,()),h8)else let x10:=jB .i64 (v8+1);go v1 v2 v6 v7 x10 h8))else let x11:=jB .i64 (v8+1);go v1 v2 v6 v7 x11 h)))else some ((Out.exit 0),(v1,v2,()),h))
def eM (N M:Nat) (v1:zJ2) (v2:Bool) (v6:SL) (v7 v8:Int) (h:Heap):Option (Out×zY×Heap):=iter (fun go s h=>nQ N (fun v1 v2 v6 v7 v8 h=>go (v1,v2,v6,v7,v8,()) h) s.1 s.2.1 s.2.2.1 s.2.2.2.1 s.2.2.2.2.1 h) M (v1,v2,v6,v7,v8,()) h
theorem bT (N M v1 v2 v6 v7 v8 h):eM N (M+1) v1 v2 v6 v7 v8 h=nQ N (eM N M) v1 v2 v6 v7 v8 h:=rfl
def f198 (N:Nat) (a0:zB1) (h:Heap):Option (Bool×Heap):=let h1:=h.push (.row (yRF a0) .own);(dA (.val zL2) (h1.cell (h.next,1)) fun (x2:SL)=>(pC (eM N N (some (h.next,0)) false x2 (Int.ofNat x2.len) 0 h1) fun o12 (j13:zY) h14=>(bif jD o12 (.exit 0) then(bB j13.1 fun q15=>(dA (.val zM2) (h14.cell (q15.1,q15.2+0)) fun (x16:zQ2)=>(mA (f119 N x16 h14) fun (x17:Bool) h18=>(bif x17 then(bB j13.1 fun q19=>(dA (.val zL2) (h18.cell (q19.1,q19.2+1)) fun (x20:SL)=>let x21:Bool:=wB (Int.ofNat x20.len) 64;some (x21,h18)))else some (false,h18)))))else some (j13.2.1,h14))))
def lB3:Ann:=(.two .n (.two (.two .n (.two (.loop [(1,zK2),(2,zN2),(6,zL2),(7,zO2),(8,zO2)] [(.exit 0),.ret] [(1,zK2),(2,zN2)] .n) .n)) .n))
theorem vAb (N:Nat):jC Tryz.prog 198 [zG] (.val zN2) (fun x h=>f198 N x.1 h):=cD (iA (dM N) nA) N lB3 Tryz.f198
def f200 (N:Nat) (a0:zX) (h:Heap):Option (Bool×Heap):=let h1:=h.push (.row (yRC a0) .own);(dA (.val zG) (h1.cells (h.next,2) 2) fun (x2:zB1)=>(mA (f164 N x2 ([],⟨none,0,0,0⟩,()) h1) fun (x3:Bool) h4=>(dA (.val zO2) (h4.cell (h.next,0)) fun (x5:Int)=>let x6:=eA x5 1;(bif x6 then(bif x3 then(dA (.val zO2) (h4.cell (h.next,1)) fun (x7:Int)=>let x8:Bool:=wB 0 x7;(bif x8 then(dA (.val zO2) (h4.cell (h.next,1)) fun (x9:Int)=>let x10:Bool:=wB x9 2147483647;some (x10,h4))else some (false,h4)))else some (false,h4))else let x11:=eA x5 2;(bif x11 then(bif x3 then(dA (.val zO2) (h4.cell (h.next,1)) fun (x12:Int)=>let x13:=eA x12 0;(bif x13 then some (true,h4)else(dA (.val zO2) (h4.cell (h.next,1)) fun (x14:Int)=>let x15:=eA x14 1;some (x15,h4))))else some (false,h4))else let x16:=eA x5 3;(bif x16 then(dA (.val zO2) (h4.cell (h.next,1)) fun (x17:Int)=>let x18:=eA x17 0;(bif x18 then(dA (.val zG) (h4.cells (h.next,2) 2) fun (x19:zB1)=>(mA (f198 N x19 h4) fun (x20:Bool) h21=>some (x20,h21)))else some (false,h4)))else some (false,h4)))))))
def mB3:Ann:=.n
theorem wAb (N:Nat):jC Tryz.prog 200 [zD] (.val zN2) (fun x h=>f200 N x.1 h):=cD (iA (vAb N) (iA (aA3 N) nA)) N mB3 Tryz.f200
def f229 (N:Nat) (a0:zX) (h:Heap):Option (Bool×Heap):=let h1:=h.push (.row (yRC a0) .own);(dA (.val zD) (h1.cells (h.next,0) 4) fun (x2:zX)=>(mA (f200 N x2 h1) fun (x3:Bool) h4=>let x5:=!x3;some (x5,h4)))
def nB3:Ann:=.n
theorem eAx (N:Nat):jC Tryz.prog 229 [zD] (.val zN2) (fun x h=>f229 N x.1 h):=cD (iA (wAb N) nA) N nB3 Tryz.f229
def nH (N:Nat) (go:SL->(Unit)->Int->Int->Int->Heap->Option (Out×zN1×Heap)) (v0:SL) (v1:(Unit)) (v4 v7 v8:Int) (h:Heap):Option (Out×zN1×Heap):=let x1:=ltInt v8 v7;(bif x1 then(ixK v0.a v0.len v8 4 fun q2=>(dA (.val zD) (h.cells q2 4) fun (x3:zX)=>(mA (f229 N x3 h) fun (x4:Bool) h5=>(bif x4 then some (Out.ret,(v8,()),h5)else let x6:=jB .i64 (v8+1);go v0 (()) v4 v7 x6 h5))))else some ((Out.exit 0),(v4,()),h))
def kI (N M:Nat) (v0:SL) (v1:(Unit)) (v4 v7 v8:Int) (h:Heap):Option (Out×zN1×Heap):=iter (fun go s h=>nH N (fun v0 v1 v4 v7 v8 h=>go (v0,v1,v4,v7,v8,()) h) s.1 s.2.1 s.2.2.1 s.2.2.2.1 s.2.2.2.2.1 h) M (v0,v1,v4,v7,v8,()) h
theorem mL (N M v0 v1 v4 v7 v8 h):kI N (M+1) v0 v1 v4 v7 v8 h=nH N (kI N M) v0 v1 v4 v7 v8 h:=rfl
def mU (N:Nat) (a0:SL) (a1:(Unit)) (h:Heap):Option (Int×Heap):=(pC (kI N N a0 (()) 0 (Int.ofNat a0.len) 0 h) fun o7 (j8:zN1) h9=>(bif jD o7 (.exit 0) then some ((-1),h9)else some (j8.1,h9)))
def tAi:Ann:=(.two .n (.two (.two .n (.two (.loop [(0,zL2),(1,(.clo 229 [])),(4,zO2),(7,zO2),(8,zO2)] [(.exit 0),.ret] [(4,zO2)] .n) .n)) .n))
theorem yAb (N:Nat):jC Tryz.prog 239 [zL2,(.clo 229 [])] (.val zO2) (fun x h=>mU N x.1 x.2.1 h):=cD (iA (eAx N) nA) N tAi Tryz.f239
def nU (N:Nat) (a0:SL) (a1:(Unit)) (h:Heap):Option (Bool×Heap):=(mA (mU N a0 (()) h) fun (x1:Int) h2=>let x3:Bool:=wB 0 x1;some (x3,h2))
def uAi:Ann:=.n
theorem aAc (N:Nat):jC Tryz.prog 228 [zL2,(.clo 229 [])] (.val zN2) (fun x h=>nU N x.1 x.2.1 h):=cD (pE (sel:=fun a=>fA7 1 229 a) (yAb N) nA) N uAi Tryz.f228
def f216 (N:Nat) (a0:SL) (h:Heap):Option (Bool×Heap):=let x1:Bool:=wB (Int.ofNat a0.len) 64;(bif x1 then(mA (nU N a0 (()) h) fun (x2:Bool) h3=>let x4:=!x2;some (x4,h3))else some (false,h))
def oB3:Ann:=.n
theorem fAx (N:Nat):jC Tryz.prog 216 [zL2] (.val zN2) (fun x h=>f216 N x.1 h):=cD (pE (sel:=fun a=>fA7 1 229 a) (aAc N) nA) N oB3 Tryz.f216
def pQ (N:Nat) (go:zJ2->Bool->zJ2->SL->Int->Int->Heap->Option (Out×zU×Heap)) (v1:zJ2) (v3:Bool) (v4:zJ2) (v28:SL) (v29 v30:Int) (h:Heap):Option (Out×zU×Heap):=let x51:=ltInt v30 v29;(bif x51 then(mA (α:=zA2) ((ixK v28.a v28.len v30 1 fun q52=>(dA (.val zM2) (h.cell q52) fun (x53:zQ2)=>(bif v3 then(mA (f119 N x53 h) fun (x54:Bool) h55=>some ((v1,x54,v4,v28,v29,v30,()),h55))else some ((v1,false,v4,v28,v29,v30,()),h))))) fun (j56:zA2) h57=>let x58:=jB .i64 (j56.2.2.2.2.2.1+1);go j56.1 j56.2.1 j56.2.2.1 j56.2.2.2.1 j56.2.2.2.2.1 x58 h57)else some ((Out.exit 7),(v1,v3,v4,()),h))
def tO (N M:Nat) (v1:zJ2) (v3:Bool) (v4:zJ2) (v28:SL) (v29 v30:Int) (h:Heap):Option (Out×zU×Heap):=iter (fun go s h=>pQ N (fun v1 v3 v4 v28 v29 v30 h=>go (v1,v3,v4,v28,v29,v30,()) h) s.1 s.2.1 s.2.2.1 s.2.2.2.1 s.2.2.2.2.1 s.2.2.2.2.2.1 h) M (v1,v3,v4,v28,v29,v30,()) h
theorem eT (N M v1 v3 v4 v28 v29 v30 h):tO N (M+1) v1 v3 v4 v28 v29 v30 h=pQ N (tO N M) v1 v3 v4 v28 v29 v30 h:=rfl
def f199 (N:Nat) (a0:zQ) (h:Heap):Option (Bool×Heap):=let h1:=h.push (.row (yRB a0) .own);(dA (.val zC) (h1.cells (h.next,0) 15) fun (x2:zQ)=>let h3:=h1.push (.row yZB .own);(bB (h3.store (h1.next,0) (yRB x2)) fun h4=>(bB (α:=Sum (zI1×Heap) (Sum (zC1×Heap) (Empty))) ((dA (.val zO2) (h4.cell (h.next,0)) fun (x5:Int)=>(bB (α:=Sum (zU×Heap) (Sum (zI1×Heap) (Sum ((Unit)×Heap) (Empty)))) ((bB (α:=Sum (zZ×Heap) (Sum (zI1×Heap) (Sum (zU×Heap) (Sum ((Unit)×Heap) (Empty))))) ((bB (α:=Sum (zU×Heap) (Sum (zI1×Heap) (Sum (zZ×Heap) (Sum (zU×Heap) (Sum ((Unit)×Heap) (Empty)))))) ((bB (α:=Sum (zU×Heap) (Sum (zI1×Heap) (Sum (zU×Heap) (Sum (zZ×Heap) (Sum (zU×Heap) (Sum ((Unit)×Heap) (Empty))))))) ((bB (α:=Sum (zZ×Heap) (Sum (zU×Heap) (Sum (zU×Heap) (Sum (zZ×Heap) (Sum (zU×Heap) (Sum ((Unit)×Heap) (Empty))))))) ((bB (α:=Sum (zS1×Heap) (Sum (zZ×Heap) (Empty))) ( let x6:=eA x5 2;(bif x6 then(bif x6 then some (Sum.inr (Sum.inl (((some (h.next,0)),(some (h1.next,0)),()),h4)))else some (Sum.inl (((some (h.next,0)),true,(some (h1.next,0)),x5,()),h4)))else let x7:=eA x5 3;(bif x7 then some (Sum.inr (Sum.inl (((some (h.next,0)),(some (h1.next,0)),()),h4)))else some (Sum.inl (((some (h.next,0)),true,(some (h1.next,0)),x5,()),h4))))) fun j8=>(kC j8 (fun (j9:zS1) h10=>let x12:=eA j9.2.2.2.1 7;(bif x12 then some (Sum.inr (Sum.inl ((j9.1,j9.2.1,j9.2.2.1,()),h10)))else let x13:=eA j9.2.2.2.1 6;(bif x13 then some (Sum.inr (Sum.inr (Sum.inl ((j9.1,j9.2.1,j9.2.2.1,()),h10))))
 else let x14:=eA j9.2.2.2.1 5;(bif x14 then some (Sum.inr (Sum.inr (Sum.inr (Sum.inl ((j9.1,j9.2.2.1,()),h10)))))else let x15:=eA j9.2.2.2.1 1;(bif x15 then(bif x15 then some (Sum.inr (Sum.inr (Sum.inr (Sum.inr (Sum.inl ((j9.1,j9.2.1,j9.2.2.1,()),h10))))))else some (Sum.inr (Sum.inr (Sum.inr (Sum.inr (Sum.inr (Sum.inl ((()),h10))))))))else let x16:=eA j9.2.2.2.1 4;(bif x16 then some (Sum.inr (Sum.inr (Sum.inr (Sum.inr (Sum.inl ((j9.1,j9.2.1,j9.2.2.1,()),h10))))))else some (Sum.inr (Sum.inr (Sum.inr (Sum.inr (Sum.inr (Sum.inl ((()),h10))))))))))))) fun j11=>(kC j11 (fun (j17:zZ) h18=>some (Sum.inl (j17,h18))) fun _=>none)))) fun j20=>(kC j20 (fun (j21:zZ) h22=>(bB j21.1 fun q24=>(dA (.val zG) (h22.cells (q24.1,q24.2+10) 2) fun (x25:zB1)=>(mA (f198 N x25 h22) fun (x26:Bool) h27=>(bB j21.2.1 fun q28=>(bB (h27.store (q28.1,q28.2+10) yZG) fun h29=>some (Sum.inr (Sum.inl ((x26,j21.2.1,()),h29))))))))) fun j23=>(kC j23 (fun (j30:zU) h31=>some (Sum.inl (j30,h31))) fun j32=>(kC j32 (fun (j33:zU) h34=>some (Sum.inr (Sum.inr (Sum.inl (j33,h34))))) fun j35=>(kC j35 (fun (j36:zZ) h37=>some (Sum.inr (Sum.inr (Sum.inr (Sum.inl (j36,h37)))))) fun j38=>(kC j38 (fun (j39:zU) h40=>some (Sum.inr (Sum.inr (Sum.inr (Sum.inr (Sum.inl (j39,h40))))))) fun j41=>(kC j41 (fun (j42:(Unit)) h43=>some (Sum.inr (Sum.inr (Sum.inr (Sum.inr (Sum.inr (Sum.inl ((()),h43)))))))) fun _=>
 none)))))))) fun j45=>(kC j45 (fun (j46:zU) h47=>(bB j46.1 fun q49=>(dA (.val zL2) (h47.cell (q49.1,q49.2+13)) fun (x50:SL)=>(pC (tO N N j46.1 j46.2.1 j46.2.2.1 x50 (Int.ofNat x50.len) 0 h47) fun _ (j60:zU) h61=>(mA (α:=zU) ((bif j60.2.1 then(bB j60.1 fun q62=>(dA (.val zL2) (h61.cell (q62.1,q62.2+13)) fun (x63:SL)=>(bB j60.1 fun q64=>(dA (.val zL2) (h61.cell (q64.1,q64.2+14)) fun (x65:SL)=>let x66:=eA (Int.ofNat x63.len) (Int.ofNat x65.len);some ((j60.1,x66,j60.2.2.1,()),h61)))))else some ((j60.1,false,j60.2.2.1,()),h61))) fun (j67:zU) h68=>(bB j67.2.2.1 fun q69=>(bB (h68.store (q69.1,q69.2+13) yZI) fun h70=>some (Sum.inl (j67,h70))))))))) fun j48=>(kC j48 (fun (j71:zI1) h72=>some (Sum.inr (Sum.inl (j71,h72)))) fun j73=>(kC j73 (fun (j74:zU) h75=>some (Sum.inl (j74,h75))) fun j76=>(kC j76 (fun (j77:zZ) h78=>some (Sum.inr (Sum.inr (Sum.inl (j77,h78))))) fun j79=>(kC j79 (fun (j80:zU) h81=>some (Sum.inr (Sum.inr (Sum.inr (Sum.inl (j80,h81)))))) fun j82=>(kC j82 (fun (j83:(Unit)) h84=>some (Sum.inr (Sum.inr (Sum.inr (Sum.inr (Sum.inl ((()),h84))))))) fun _=>none)))))))) fun j86=>(kC j86 (fun (j87:zU) h88=>(mA (α:=zI1) ((bif j87.2.1 then(bB j87.1 fun q90=>(dA (.val zM2) (h88.cell (q90.1,q90.2+12)) fun (x91:zQ2)=>(mA (f173 N x91 h88) fun (x92:Bool) h93=>(bif x92 then(bB j87.1 fun q94=>(dA (.val zL2) (h93.cell (q94.1,q94.2+14)) fun (x95:SL)=>
 (mA (f216 N x95 h93) fun (x96:Bool) h97=>some ((x96,j87.2.2.1,()),h97))))else some ((false,j87.2.2.1,()),h93)))))else some ((false,j87.2.2.1,()),h88))) fun (j98:zI1) h99=>(bB j98.2.1 fun q100=>(bB (h99.store (q100.1,q100.2+12) [(.str [])]) fun h101=>(bB j98.2.1 fun q102=>(bB (h101.store (q102.1,q102.2+14) yZI) fun h103=>some (Sum.inr (Sum.inl (j98,h103))))))))) fun j89=>(kC j89 (fun (j104:zI1) h105=>some (Sum.inr (Sum.inl (j104,h105)))) fun j106=>(kC j106 (fun (j107:zZ) h108=>some (Sum.inl (j107,h108))) fun j109=>(kC j109 (fun (j110:zU) h111=>some (Sum.inr (Sum.inr (Sum.inl (j110,h111))))) fun j112=>(kC j112 (fun (j113:(Unit)) h114=>some (Sum.inr (Sum.inr (Sum.inr (Sum.inl ((()),h114)))))) fun _=>none))))))) fun j116=>(kC j116 (fun (j117:zZ) h118=>(mA (α:=zU) ((bB j117.1 fun q120=>(dA (.val zO2) (h118.cell (q120.1,q120.2+9)) fun (x121:Int)=>let x122:Bool:=wB 1 x121;(bif x122 then(bB j117.1 fun q123=>(dA (.val zO2) (h118.cell (q123.1,q123.2+9)) fun (x124:Int)=>let x125:Bool:=wB x124 4;(bif x125 then(bB j117.1 fun q126=>(dA (.val zD) (h118.cells (q126.1,q126.2+5) 4) fun (x127:zX)=>(mA (f200 N x127 h118) fun (x128:Bool) h129=>some ((j117.1,x128,j117.2.1,()),h129))))else some ((j117.1,false,j117.2.1,()),h118))))else some ((j117.1,false,j117.2.1,()),h118))))) fun (j130:zU) h131=>(bB j130.2.2.1 fun q132=>(bB (h131.store (q132.1,q132.2+9) yZJ) fun h133=>
 (bB j130.2.2.1 fun q134=>(bB (h133.store (q134.1,q134.2+5) yZC) fun h135=>some (Sum.inl (j130,h135)))))))) fun j119=>(kC j119 (fun (j136:zI1) h137=>some (Sum.inr (Sum.inl (j136,h137)))) fun j138=>(kC j138 (fun (j139:zU) h140=>some (Sum.inl (j139,h140))) fun j141=>(kC j141 (fun (j142:(Unit)) h143=>some (Sum.inr (Sum.inr (Sum.inl ((()),h143))))) fun _=>none)))))) fun j145=>(kC j145 (fun (j146:zU) h147=>(mA (α:=zI1) ((bif j146.2.1 then(bB j146.1 fun q149=>(dA (.val zD) (h147.cells (q149.1,q149.2+1) 4) fun (x150:zX)=>(mA (f200 N x150 h147) fun (x151:Bool) h152=>some ((x151,j146.2.2.1,()),h152))))else some ((false,j146.2.2.1,()),h147))) fun (j153:zI1) h154=>(bB j153.2.1 fun q155=>(bB (h154.store (q155.1,q155.2+1) yZC) fun h156=>some (Sum.inl (j153,h156)))))) fun j148=>(kC j148 (fun (j157:zI1) h158=>some (Sum.inl (j157,h158))) fun j159=>(kC j159 (fun (j160:(Unit)) h161=>some (Sum.inr (Sum.inl ((false,()),h161)))) fun _=>none)))))) fun j163=>(kC j163 (fun (j164:zI1) h165=>(bB j164.2.1 fun q167=>(bB (h165.store (q167.1,q167.2+0) yZJ) fun h168=>(bif j164.1 then(bB j164.2.1 fun q169=>(dA (.val zC) (h168.cells q169 15) fun (x170:zQ)=>(mA (f165 N x170 (0,0,0,[],⟨none,0,0,0⟩,0,0,[],⟨none,0,0,0⟩,0,[],⟨none,0,0,0⟩,[],⟨none,0,0,0⟩,⟨none,0,0,0⟩,()) h168) fun (x171:Bool) h172=>
 some (x171,h172))))else some (false,h168))))) fun j166=>(kC j166 (fun (j173:zC1) h174=>some (j173.1,h174)) fun _=>none)))))
def pB3:Ann:=(.two .n (.two .n (.two .n (.two (.joinO [(.norm,[(3,zN2),(4,zK2)]),(.ret,[(2,zN2)])] (.two .n (.two (.two (.two (.two (.joinO [(.norm,[(1,zK2),(3,zN2),(4,zK2)]),((.exit 0),[(3,zN2),(4,zK2)]),((.exit 6),[])] (.two (.two (.joinO [(.norm,[(1,zK2),(4,zK2)]),((.exit 0),[(3,zN2),(4,zK2)]),((.exit 5),[(1,zK2),(3,zN2),(4,zK2)]),((.exit 6),[])] (.two (.two (.joinO [(.norm,[(1,zK2),(3,zN2),(4,zK2)]),((.exit 0),[(3,zN2),(4,zK2)]),((.exit 4),[(1,zK2),(4,zK2)]),((.exit 5),[(1,zK2),(3,zN2),(4,zK2)]),((.exit 6),[])] (.two (.two (.joinO [(.norm,[(1,zK2),(3,zN2),(4,zK2)]),((.exit 0),[(3,zN2),(4,zK2)]),((.exit 3),[(1,zK2),(3,zN2),(4,zK2)]),((.exit 4),[(1,zK2),(4,zK2)]),((.exit 5),[(1,zK2),(3,zN2),(4,zK2)]),((.exit 6),[])] (.two (.two (.joinO [(.norm,[(1,zK2),(4,zK2)]),((.exit 2),[(1,zK2),(3,zN2),(4,zK2)]),((.exit 3),[(1,zK2),(3,zN2),(4,zK2)]),((.exit 4),[(1,zK2),(4,zK2)]),((.exit 5),[(1,zK2),(3,zN2),(4,zK2)]),((.exit 6),[])] (.two (.two (.two (.joinO [(.norm,[(1,zK2),(3,zN2),(4,zK2),(9,zO2)]),((.exit 1),[(1,zK2),(4,zK2)])] .n) .n) .n) .n)) .n) .n)) (.two (.two .n (.two (.loop [(1,zK2),(3,zN2),(4,zK2),(28,zL2),(29,zO2),(30,zO2)] [(.exit 7)] [(1,zK2),(3,zN2),(4,zK2)] (.two .n (.two .n (.two (.join [(1,zK2),(3,zN2),(4,zK2),(28,zL2),(29,zO2),(30,zO2)] .n) .n)))) .n)) (.two (.join [(1,zK2),(3,zN2),(4,zK2)] .n) .n))) .n)) (.two (.two (.join [(3,zN2),(4,zK2)] .n) .n) .n)) .n)) (.two (.join [(1,zK2),(3,zN2),(4,zK2)] .n) .n)) .n)) (.two (.two (.join [(3,zN2),(4,zK2)] .n) .n) .n)) .n) .n) .n))) .n))))
theorem bAn (N:Nat):jC Tryz.prog 199 [zC] (.val zN2) (fun x h=>f199 N x.1 h):=cD (iA (fAx N) (iA (wAb N) (iA (vAb N) (iA (wAm N) (iA (mAm N) (iA (dM N) nA)))))) N pB3 Tryz.f199
def f197 (N:Nat) (a0:zP) (h:Heap):Option (Bool×Heap):=let h1:=h.push (.row (yRA a0) .own);(dA (.val zN2) (h1.cell (h.next,8)) fun (x2:Bool)=>(bif x2 then(dA (.val zC) (h1.cells (h.next,11) 15) fun (x3:zQ)=>(mA (f199 N x3 h1) fun (x4:Bool) h5=>(bif x4 then some (true,h5)else(dA (.val zN2) (h5.cell (h.next,8)) fun (x6:Bool)=>let x7:=!x6;some (x7,h5)))))else(dA (.val zN2) (h1.cell (h.next,8)) fun (x8:Bool)=>let x9:=!x8;some (x9,h1))))
def qB3:Ann:=.n
theorem gAx (N:Nat):jC Tryz.prog 197 [zA] (.val zN2) (fun x h=>f197 N x.1 h):=cD (iA (bAn N) nA) N qB3 Tryz.f197
noncomputable def f201 (N:Nat) (a0 a1:zP) (h:Heap):Option (zP×Heap):=let h1:=h.push (.row (yRA a0) .own);let h2:=h1.push (.row (yRA a1) .own);let h3:=h2.push (.row yZA .own);(dA (.val zN2) (h3.cell (h.next,8)) fun (x4:Bool)=>let x5:=!x4;(bif x5 then(dA (.val zA) (h3.cells (h1.next,0) 32) fun (x6:zP)=>(bB (h3.store (h2.next,0) (yRA x6)) fun h7=>(dA (.val zA) (h7.cells (h2.next,0) 32) fun (x8:zP)=>some (x8,h7))))
 else(mA (α:=zZ) ((dA (.val zO2) (h3.cell (h.next,0)) fun (x9:Int)=>(mA (α:=zM1) ( let x10:=eA x9 1;(bif x10 then some (((some (h1.next,0)),(some (h2.next,0)),x9,x10,()),h3)else let x11:=eA x9 10;some (((some (h1.next,0)),(some (h2.next,0)),x9,x11,()),h3))) fun (j12:zM1) h13=>(bif j12.2.2.2.1 then(bB j12.1 fun q14=>(bB (h13.store (q14.1,q14.2+8) yZK) fun h15=>(bB j12.1 fun q16=>(bB (h15.store (q16.1,q16.2+11) yZB) fun h17=>some ((j12.1,j12.2.1,()),h17)))))else let x18:=eA j12.2.2.1 4;(bif x18 then(bB j12.1 fun q19=>(bB (h13.store (q19.1,q19.2+8) yZK) fun h20=>(bB j12.1 fun q21=>(bB (h20.store (q21.1,q21.2+31) yZI) fun h22=>some ((j12.1,j12.2.1,()),h22)))))else some ((j12.1,j12.2.1,()),h13)))))) fun (j23:zZ) h24=>(bB j23.1 fun q25=>(dA (.val zA) (h24.cells q25 32) fun (x26:zP)=>(bB j23.2.1 fun q28=>(bB (h24.store q28 (yRA x26)) fun h27=>(bB j23.2.1 fun q29=>(dA (.val zA) (h27.cells q29 32) fun (x30:zP)=>some (x30,h27))))))))))
def rB3:Ann:=(.two .n (.two .n (.two (.join [(3,zK2),(4,zK2)] (.two .n (.two (.two (.join [(3,zK2),(4,zK2),(10,zO2),(11,zN2)] .n) .n) .n))) .n)))
theorem iAx (N:Nat):jC Tryz.prog 201 [zA,zA] (.val zA) (fun x h=>f201 N x.1 x.2.1 h):=cD nA N rB3 Tryz.f201
noncomputable def qQ (N:Nat) (rec125:SL->Int->Heap->Option (Bool×Heap)) (rec174:zP->Int->Heap->Option (Bool×Heap)) (go:Int->Bool->SL->Int->Int->Heap->Option (Out×zC1×Heap)) (v1:Int) (v4:Bool) (v9:SL) (v10 v11:Int) (h:Heap):Option (Out×zC1×Heap):=let x2:=ltInt v11 v10;(bif x2 then(ixK v9.a v9.len v11 32 fun q3=>(dA (.val zA) (h.cells q3 32) fun (x4:zP)=>let h5:=h.push (.row yZA .own);(bB (h5.store (h.next,0) (yRA x4)) fun h6=>(dA (.val zA) (h6.cells (h.next,0) 32) fun (x7:zP)=>(mA (rec174 x7 v1 h6) fun (x8:Bool) h9=>
 let x10:=!x8;(bif x10 then some (Out.ret,(false,()),h9)else let x11:=jB .i64 (v11+1);go v1 v4 v9 v10 x11 h9))))))else some ((Out.exit 0),(v4,()),h))
def qX (N:Nat) (rec125:SL->Int->Heap->Option (Bool×Heap)) (rec174:zP->Int->Heap->Option (Bool×Heap)) (M:Nat) (v1:Int) (v4:Bool) (v9:SL) (v10 v11:Int) (h:Heap):Option (Out×zC1×Heap):=iter (fun go s h=>qQ N rec125 rec174 (fun v1 v4 v9 v10 v11 h=>go (v1,v4,v9,v10,v11,()) h) s.1 s.2.1 s.2.2.1 s.2.2.2.1 s.2.2.2.2.1 h) M (v1,v4,v9,v10,v11,()) h
theorem fT (N rec125 rec174 M v1 v4 v9 v10 v11 h):qX N rec125 rec174 (M+1) v1 v4 v9 v10 v11 h=qQ N rec125 rec174 (qX N rec125 rec174 M) v1 v4 v9 v10 v11 h:=rfl
def eA8 (N:Nat) (rec125:SL->Int->Heap->Option (Bool×Heap)) (rec174:zP->Int->Heap->Option (Bool×Heap)) (a0:SL) (a1:Int) (h:Heap):Option (Bool×Heap):=let x1:=ltInt 64 a1;(bif x1 then some (false,h)else(pC (qX N rec125 rec174 N a1 false a0 (Int.ofNat a0.len) 0 h) fun o12 (j13:zC1) h14=>(bif jD o12 (.exit 0) then some (true,h14)else some (j13.1,h14))))
def tB3:Ann:=(.two .n (.two .n (.two (.two .n (.two (.loop [(1,zO2),(4,zN2),(9,zL2),(10,zO2),(11,zO2)] [(.exit 0),.ret] [(4,zN2)] .n) .n)) .n)))
def uA0 (N:Nat) (rec125:SL->Int->Heap->Option (Bool×Heap)) (rec174:zP->Int->Heap->Option (Bool×Heap)) (a0:zP) (a1:Int) (h:Heap):Option (Bool×Heap):=let h1:=h.push (.row (yRA a0) .own);(dA (.val zA) (h1.cells (h.next,0) 32) fun (x2:zP)=>let h3:=h1.push (.row yZA .own);(bB (h3.store (h1.next,0) (yRA x2)) fun h4=>(bB (α:=Sum (zU×Heap) (Sum (zC1×Heap) (Empty))) ((dA (.val zO2) (h4.cell (h.next,0)) fun (x5:Int)=>(bB (α:=Sum (zZ×Heap) (Sum (zU×Heap) (Sum ((Unit)×Heap) (Sum (zU×Heap) (Empty))))) ((bB (α:=Sum (zZ×Heap) (Sum (zU×Heap) (Sum ((Unit)×Heap) (Sum (zZ×Heap) (Sum (zU×Heap) (Empty)))))) ((bB (α:=Sum (zF1×Heap) (Sum (zU×Heap) (Sum ((Unit)×Heap) (Sum (zZ×Heap) (Sum (zZ×Heap) (Sum (zU×Heap) (Empty))))))) ((bB (α:=Sum (zF1×Heap) (Sum (zU×Heap) (Sum ((Unit)×Heap) (Sum (zF1×Heap) (Sum (zZ×Heap) (Sum (zZ×Heap) (Sum (zU×Heap) (Empty)))))))) ( let x6:=eA x5 1;(bif x6 then(mA (α:=zU) ((dA (.val zM2) (h4.cell (h.next,3)) fun (x7:zQ2)=>(mA (f119 N x7 h4) fun (x8:Bool) h9=>(bif x8 then(dA (.val zE) (h9.cells (h.next,4) 4) fun (x10:zR)=>(mA (f124 N N x10 1 h9) fun (x11:Bool) h12=>(bif x11 then(dA (.val zA) (h12.cells (h.next,0) 32) fun (x13:zP)=>(mA (f197 N x13 h12) fun (x14:Bool) h15=>
 some (((some (h.next,0)),x14,(some (h1.next,0)),()),h15)))else some (((some (h.next,0)),false,(some (h1.next,0)),()),h12))))else some (((some (h.next,0)),false,(some (h1.next,0)),()),h9))))) fun (j16:zU) h17=>(bB j16.2.2.1 fun q18=>(bB (h17.store (q18.1,q18.2+2) yZK) fun h19=>(bB j16.2.2.1 fun q20=>(bB (h19.store (q20.1,q20.2+3) [(.str [])]) fun h21=>(bB j16.2.2.1 fun q22=>(bB (h21.store (q22.1,q22.2+4) yZF) fun h23=>some (Sum.inr (Sum.inl (j16,h23))))))))))else let x24:=eA x5 2;(bif x24 then(mA (α:=zU) ((dA (.val zG) (h4.cells (h.next,9) 2) fun (x25:zB1)=>(mA (f198 N x25 h4) fun (x26:Bool) h27=>(bif x26 then(dA (.val zC) (h27.cells (h.next,11) 15) fun (x28:zQ)=>(mA (f199 N x28 h27) fun (x29:Bool) h30=>some (((some (h.next,0)),x29,(some (h1.next,0)),()),h30)))else some (((some (h.next,0)),false,(some (h1.next,0)),()),h27))))) fun (j31:zU) h32=>(bB j31.2.2.1 fun q33=>(bB (h32.store (q33.1,q33.2+9) yZG) fun h34=>(bB j31.2.2.1 fun q35=>(bB (h34.store (q35.1,q35.2+11) yZB) fun h36=>some (Sum.inr (Sum.inl (j31,h36))))))))else let x37:=eA x5 3;(bif x37 then
 (mA (α:=zU) ((dA (.val zO2) (h4.cell (h.next,11)) fun (x38:Int)=>let x39:=eA x38 6;(bif x39 then(dA (.val zC) (h4.cells (h.next,11) 15) fun (x40:zQ)=>(mA (f199 N x40 h4) fun (x41:Bool) h42=>some (((some (h.next,0)),x41,(some (h1.next,0)),()),h42)))else some (((some (h.next,0)),false,(some (h1.next,0)),()),h4)))) fun (j43:zU) h44=>(bB j43.2.2.1 fun q45=>(bB (h44.store (q45.1,q45.2+11) yZB) fun h46=>some (Sum.inr (Sum.inl (j43,h46))))))else let x47:=eA x5 4;(bif x47 then(dA (.val zN2) (h4.cell (h.next,8)) fun (x48:Bool)=>let x49:=!x48;(bif x49 then some (Sum.inl ((a1,(some (h.next,0)),true,(some (h1.next,0)),()),h4))else(dA (.val zL2) (h4.cell (h.next,31)) fun (x50:SL)=>let x51:=jB .i64 (a1+1);(mA (rec125 x50 x51 h4) fun (x52:Bool) h53=>some (Sum.inl ((a1,(some (h.next,0)),x52,(some (h1.next,0)),()),h53))))))else let x54:=eA x5 5;(bif x54 then some (Sum.inl ((a1,(some (h.next,0)),true,(some (h1.next,0)),()),h4))else(bB (α:=Sum (zS1×Heap) (Sum (zF1×Heap) (Empty))) ( let x55:=eA x5 6;(bif x55 then(bif x55 then
 some (Sum.inr (Sum.inl ((a1,(some (h.next,0)),true,(some (h1.next,0)),()),h4)))else some (Sum.inl (((some (h.next,0)),true,(some (h1.next,0)),x5,()),h4)))else let x56:=eA x5 7;(bif x56 then some (Sum.inr (Sum.inl ((a1,(some (h.next,0)),true,(some (h1.next,0)),()),h4)))else some (Sum.inl (((some (h.next,0)),true,(some (h1.next,0)),x5,()),h4))))) fun j57=>(kC j57 (fun (j58:zS1) h59=>let x61:=eA j58.2.2.2.1 10;(bif x61 then some (Sum.inr (Sum.inr (Sum.inr (Sum.inr (Sum.inl ((j58.1,j58.2.2.1,()),h59))))))else let x62:=eA j58.2.2.2.1 11;(bif x62 then some (Sum.inr (Sum.inr (Sum.inr (Sum.inr (Sum.inr (Sum.inl ((j58.1,j58.2.2.1,()),h59)))))))else let x63:=eA j58.2.2.2.1 8;(bif x63 then(bif x63 then some (Sum.inr (Sum.inr (Sum.inr (Sum.inr (Sum.inr (Sum.inr (Sum.inl ((j58.1,j58.2.1,j58.2.2.1,()),h59))))))))else some (Sum.inr (Sum.inr (Sum.inl ((()),h59)))))else let x64:=eA j58.2.2.2.1 9;(bif x64 then some (Sum.inr (Sum.inr (Sum.inr (Sum.inr (Sum.inr (Sum.inr (Sum.inl ((j58.1,j58.2.1,j58.2.2.1,()),h59))))))))else some (Sum.inr (Sum.inr (Sum.inl ((()),h59))))))))) fun j60=>(kC j60 (fun (j65:zF1) h66=>some (Sum.inr (Sum.inr (Sum.inr (Sum.inl (j65,h66)))))) fun _=>none))))))))) fun j68=>(kC j68 (fun (j69:zF1) h70=>(mA (α:=zF1) ((bif j69.2.2.1 then(bB j69.2.1 fun q72=>(dA (.val zD) (h70.cells (q72.1,q72.2+26) 4) fun (x73:zX)=>(mA (f200 N x73 h70) fun (x74:Bool) h75=>some ((j69.1,j69.2.1,x74,j69.2.2.2.1,()),h75))))
 else some ((j69.1,j69.2.1,false,j69.2.2.2.1,()),h70))) fun (j76:zF1) h77=>(bB j76.2.2.2.1 fun q78=>(bB (h77.store (q78.1,q78.2+26) yZC) fun h79=>some (Sum.inl (j76,h79)))))) fun j71=>(kC j71 (fun (j80:zU) h81=>some (Sum.inr (Sum.inl (j80,h81)))) fun j82=>(kC j82 (fun (j83:(Unit)) h84=>some (Sum.inr (Sum.inr (Sum.inl ((()),h84))))) fun j85=>(kC j85 (fun (j86:zF1) h87=>some (Sum.inl (j86,h87))) fun j88=>(kC j88 (fun (j89:zZ) h90=>some (Sum.inr (Sum.inr (Sum.inr (Sum.inl (j89,h90)))))) fun j91=>(kC j91 (fun (j92:zZ) h93=>some (Sum.inr (Sum.inr (Sum.inr (Sum.inr (Sum.inl (j92,h93))))))) fun j94=>(kC j94 (fun (j95:zU) h96=>some (Sum.inr (Sum.inr (Sum.inr (Sum.inr (Sum.inr (Sum.inl (j95,h96)))))))) fun _=>none))))))))) fun j98=>(kC j98 (fun (j99:zF1) h100=>(mA (α:=zU) ((bif j99.2.2.1 then(bB j99.2.1 fun q102=>(dA (.val zL2) (h100.cell (q102.1,q102.2+30)) fun (x103:SL)=>let x104:=jB .i64 (j99.1+1);(mA (rec125 x103 x104 h100) fun (x105:Bool) h106=>some ((j99.2.1,x105,j99.2.2.2.1,()),h106))))else some ((j99.2.1,false,j99.2.2.2.1,()),h100))) fun (j107:zU) h108=>(bB j107.2.2.1 fun q109=>(bB (h108.store (q109.1,q109.2+30) yZI) fun h110=>some (Sum.inr (Sum.inl (j107,h110))))))) fun j101=>(kC j101 (fun (j111:zU) h112=>some (Sum.inr (Sum.inl (j111,h112)))) fun j113=>
 (kC j113 (fun (j114:(Unit)) h115=>some (Sum.inr (Sum.inr (Sum.inl ((()),h115))))) fun j116=>(kC j116 (fun (j117:zZ) h118=>some (Sum.inl (j117,h118))) fun j119=>(kC j119 (fun (j120:zZ) h121=>some (Sum.inr (Sum.inr (Sum.inr (Sum.inl (j120,h121)))))) fun j122=>(kC j122 (fun (j123:zU) h124=>some (Sum.inr (Sum.inr (Sum.inr (Sum.inr (Sum.inl (j123,h124))))))) fun _=>none)))))))) fun j126=>(kC j126 (fun (j127:zZ) h128=>(bB j127.1 fun q130=>(dA (.val zA) (h128.cells q130 32) fun (x131:zP)=>(mA (f197 N x131 h128) fun (x132:Bool) h133=>
 some (Sum.inr (Sum.inl ((j127.1,x132,j127.2.1,()),h133))))))) fun j129=>(kC j129 (fun (j134:zU) h135=>some (Sum.inr (Sum.inl (j134,h135)))) fun j136=>(kC j136 (fun (j137:(Unit)) h138=>some (Sum.inr (Sum.inr (Sum.inl ((()),h138))))) fun j139=>(kC j139 (fun (j140:zZ) h141=>some (Sum.inl (j140,h141))) fun j142=>(kC j142 (fun (j143:zU) h144=>some (Sum.inr (Sum.inr (Sum.inr (Sum.inl (j143,h144)))))) fun _=>none))))))) fun j146=>(kC j146 (fun (j147:zZ) h148=>(bB j147.1 fun q150=>(dA (.val zG) (h148.cells (q150.1,q150.2+9) 2) fun (x151:zB1)=>(mA (f198 N x151 h148) fun (x152:Bool) h153=>(bB j147.2.1 fun q154=>(bB (h153.store (q154.1,q154.2+9) yZG) fun h155=>some (Sum.inl ((j147.1,x152,j147.2.1,()),h155)))))))) fun j149=>(kC j149 (fun (j156:zU) h157=>some (Sum.inl (j156,h157))) fun j158=>(kC j158 (fun (j159:(Unit)) h160=>some (Sum.inr (Sum.inl ((false,()),h160)))) fun j161=>(kC j161 (fun (j162:zU) h163=>some (Sum.inl (j162,h163))) fun _=>none))))))) fun j165=>(kC j165 (fun (j166:zU) h167=>(bB j166.2.2.1 fun q169=>(bB (h167.store (q169.1,q169.2+0) yZJ) fun h170=>(bB j166.2.2.1 fun q171=>(bB (h170.store (q171.1,q171.2+1) yZJ) fun h172=>(bif j166.2.1 then(bB j166.1 fun q173=>(dA (.val zA) (h172.cells q173 32) fun (x174:zP)=>(bB j166.2.2.1 fun q175=>(dA (.val zA) (h172.cells q175 32) fun (x176:zP)=>
 (mA (f201 N x174 x176 h172) fun (x177:zP) h178=>
 (mA (f114 N N x177 (0,0,false,[],0,[],⟨none,0,0,0⟩,⟨none,0,0,0⟩,false,[],⟨none,0,0,0⟩,0,0,0,[],⟨none,0,0,0⟩,0,0,[],⟨none,0,0,0⟩,0,[],⟨none,0,0,0⟩,[],⟨none,0,0,0⟩,⟨none,0,0,0⟩,0,0,[],⟨none,0,0,0⟩,⟨none,0,0,0⟩,⟨none,0,0,0⟩,()) h178) fun (x179:Bool) h180=>some (x179,h180)))))))else some (false,h172))))))) fun j168=>
 (kC j168 (fun (j181:zC1) h182=>some (j181.1,h182)) fun _=>none)))))
def uB3:Ann:=(.two .n (.two .n (.two .n (.two (.joinO [(.norm,[(2,zK2),(5,zN2),(6,zK2)]),(.ret,[(4,zN2)])] (.two .n (.two (.two (.two (.two (.two (.two (.joinO [(.norm,[(2,zK2),(6,zK2)]),((.exit 0),[(2,zK2),(5,zN2),(6,zK2)]),((.exit 10),[]),((.exit 9),[(2,zK2),(5,zN2),(6,zK2)])] (.two (.two (.joinO [(.norm,[(2,zK2),(6,zK2)]),((.exit 0),[(2,zK2),(5,zN2),(6,zK2)]),((.exit 10),[]),((.exit 8),[(2,zK2),(6,zK2)]),((.exit 9),[(2,zK2),(5,zN2),(6,zK2)])] (.two (.two (.joinO [(.norm,[(1,zO2),(2,zK2),(5,zN2),(6,zK2)]),((.exit 0),[(2,zK2),(5,zN2),(6,zK2)]),((.exit 10),[]),((.exit 7),[(2,zK2),(6,zK2)]),((.exit 8),[(2,zK2),(6,zK2)]),((.exit 9),[(2,zK2),(5,zN2),(6,zK2)])] (.two (.two (.joinO [(.norm,[(1,zO2),(2,zK2),(5,zN2),(6,zK2)]),((.exit 0),[(2,zK2),(5,zN2),(6,zK2)]),((.exit 10),[]),((.exit 6),[(1,zO2),(2,zK2),(5,zN2),(6,zK2)]),((.exit 7),[(2,zK2),(6,zK2)]),((.exit 8),[(2,zK2),(6,zK2)]),((.exit 9),[(2,zK2),(5,zN2),(6,zK2)])] (.two (.two (.two (.two (.two (.two (.two (.two (.two (.two (.two .n (.two .n (.two .n (.two .n (.two .n (.two (.joinO [(.norm,[(2,zK2),(5,zN2),(6,zK2),(9,zO2)]),((.exit 6),[(1,zO2),(2,zK2),(5,zN2),(6,zK2)])] .n) .n)))))) .n) .n) (.two (.two (.join [(2,zK2),(5,zN2),(6,zK2)] .n) .n) .n)) .n) (.two (.two (.join [(2,zK2),(5,zN2),(6,zK2)] .n) .n) .n)) .n) (.two (.two (.join [(2,zK2),(5,zN2),(6,zK2)] .n) .n) .n)) .n) .n) .n)) (.two (.join [(1,zO2),(2,zK2),(5,zN2),(6,zK2)] .n) .n)) .n)) (.two (.two (.join [(2,zK2),(5,zN2),(6,zK2)] .n) .n) .n)) .n)) .n) .n)) .n) .n) .n) .n) .n) .n))) .n))))
def cAn (N M:Nat):((SL->Int->Heap->Option (Bool×Heap))×(zP->Int->Heap->Option (Bool×Heap))×Unit):=Nat.rec (fun _ _ _=>none,fun _ _ _=>none,()) (fun _ r=>(eA8 N r.1 r.2.1,uA0 N r.1 r.2.1,())) M
def f125 (N M:Nat):SL->Int->Heap->Option (Bool×Heap):=(cAn N M).1
def f174 (N M:Nat):zP->Int->Heap->Option (Bool×Heap):=(cAn N M).2.1
theorem rX (N M a0 a1 h):f125 N (M+1) a0 a1 h=eA8 N (f125 N M) (f174 N M) a0 a1 h:=rfl
theorem fA8 (N M a0 a1 h):f174 N (M+1) a0 a1 h=uA0 N (f125 N M) (f174 N M) a0 a1 h:=rfl
theorem uO (N:Nat):∀ M:Nat,(jC Tryz.prog 125 [zL2,zO2] (.val zN2) (fun x h=>f125 N M x.1 x.2.1 h))/\(jC Tryz.prog 174 [zA,zO2] (.val zN2) (fun x h=>f174 N M x.1 x.2.1 h))/\True
 | 0=>⟨(fun xs h r h' hx=>by cases hx),(fun xs h r h' hx=>by cases hx),trivial⟩
 | M+1=>⟨cD (iA (uO N M).2.1 nA) N tB3 Tryz.f125,cD (iA (iAx N) (iA (wAb N) (iA (bAn N) (iA (vAb N) (iA (gAx N) (iA (uO N M).1 (iA (uAb N) (iA (dM N) (iA (tAw N) nA))))))))) N uB3 Tryz.f174,trivial⟩
theorem jAx (N:Nat):jC Tryz.prog 125 [zL2,zO2] (.val zN2) (fun x h=>f125 N N x.1 x.2.1 h):=(uO N N).1
noncomputable def rQ (N:Nat) (rec126:SL->Heap->Option (Int×Heap)) (go:Int->SL->Int->Int->Heap->Option (Out×zN1×Heap)) (v3:Int) (v8:SL) (v9 v10:Int) (h:Heap):Option (Out×zN1×Heap):=let x1:=ltInt v10 v9;(bif x1 then(ixK v8.a v8.len v10 32 fun q2=>(dA (.val zA) (h.cells q2 32) fun (x3:zP)=>let h4:=h.push (.row yZA .own);(bB (h4.store (h.next,0) (yRA x3)) fun h5=>(dA (.val zL2) (h5.cell (h.next,30)) fun (x6:SL)=>(mA (rec126 x6 h5) fun (x7:Int) h8=>let x9:=jB .i64 (v3+x7);(dA (.val zL2) (h8.cell (h.next,31)) fun (x10:SL)=>(mA (rec126 x10 h8) fun (x11:Int) h12=>let x13:=jB .i64 (x9+x11);(rC (bif (mB (h8.cell (h.next,31)) (yL x10)) then (bif (mB (h5.cell (h.next,31)) (yL x10)) then (bif (mB (h5.cell (h.next,30)) (yL x6)) then true else false) else false) else false) ( let x14:=jB .i64 (v10+1);go x13 v8 v9 x14 h12)))))))))else some ((Out.exit 0),(v3,()),h))
def tX (N:Nat) (rec126:SL->Heap->Option (Int×Heap)) (M:Nat) (v3:Int) (v8:SL) (v9 v10:Int) (h:Heap):Option (Out×zN1×Heap):=iter (fun go s h=>rQ N rec126 (fun v3 v8 v9 v10 h=>go (v3,v8,v9,v10,()) h) s.1 s.2.1 s.2.2.1 s.2.2.2.1 h) M (v3,v8,v9,v10,()) h
theorem gT (N rec126 M v3 v8 v9 v10 h):tX N rec126 (M+1) v3 v8 v9 v10 h=rQ N rec126 (tX N rec126 M) v3 v8 v9 v10 h:=rfl
def vA0 (N:Nat) (rec126:SL->Heap->Option (Int×Heap)) (a0:SL) (h:Heap):Option (Int×Heap):=(pC (tX N rec126 N (Int.ofNat a0.len) a0 (Int.ofNat a0.len) 0 h) fun _ (j16:zN1) h17=>some (j16.1,h17))
def vB3:Ann:=(.two .n (.two .n (.two (.two .n (.two (.loop [(3,zO2),(8,zL2),(9,zO2),(10,zO2)] [(.exit 0)] [(3,zO2)] .n) .n)) .n)))
def kAx (N M:Nat):((SL->Heap->Option (Int×Heap))×Unit):=Nat.rec (fun _ _=>none,()) (fun _ r=>(vA0 N r.1,())) M
def f126 (N M:Nat):SL->Heap->Option (Int×Heap):=(kAx N M).1
theorem tQ (N M a0 h):f126 N (M+1) a0 h=vA0 N (f126 N M) a0 h:=rfl
theorem uX (N:Nat):∀ M:Nat,(jC Tryz.prog 126 [zL2] (.val zO2) (fun x h=>f126 N M x.1 h))/\True
 | 0=>⟨(fun xs h r h' hx=>by cases hx),trivial⟩
 | M+1=>⟨cD (iA (uX N M).1 nA) N vB3 Tryz.f126,trivial⟩
theorem lAx (N:Nat):jC Tryz.prog 126 [zL2] (.val zO2) (fun x h=>f126 N N x.1 h):=(uX N N).1
def oU (N:Nat) (go:zJ2->Bool->SL->Int->Int->Heap->Option (Out×zY×Heap)) (v1:zJ2) (v2:Bool) (v7:SL) (v8 v9:Int) (h:Heap):Option (Out×zY×Heap):=let x3:=ltInt v9 v8;(bif x3 then(ixK v7.a v7.len v9 2 fun q4=>(dA (.val zG) (h.cells q4 2) fun (x5:zB1)=>let h6:=h.push (.row yZG .own);(bB (h6.store (h.next,0) (yRF x5)) fun h7=>(dA (.val zM2) (h7.cell (h.next,0)) fun (x8:zQ2)=>(mA (f122 N x8 h7) fun (x9:Bool) h10=>let x11:=!x9;(bif x11 then some (Out.ret,(v1,false,()),h10)else(dA (.val zL2) (h10.cell (h.next,1)) fun (x12:SL)=>(mA (f120 N x12 h10) fun (x13:Bool) h14=>let x15:=!x13;(bif x15 then some (Out.ret,(v1,false,()),h14)else let x16:=jB .i64 (v9+1);go v1 v2 v7 v8 x16 h14)))))))))else some ((Out.exit 0),(v1,v2,()),h))
def vX (N M:Nat) (v1:zJ2) (v2:Bool) (v7:SL) (v8 v9:Int) (h:Heap):Option (Out×zY×Heap):=iter (fun go s h=>oU N (fun v1 v2 v7 v8 v9 h=>go (v1,v2,v7,v8,v9,()) h) s.1 s.2.1 s.2.2.1 s.2.2.2.1 s.2.2.2.2.1 h) M (v1,v2,v7,v8,v9,()) h
theorem wX (N M v1 v2 v7 v8 v9 h):vX N (M+1) v1 v2 v7 v8 v9 h=oU N (vX N M) v1 v2 v7 v8 v9 h:=rfl
def f80 (N:Nat) (a0:zE1) (h:Heap):Option (Bool×Heap):=let h1:=h.push (.row (yRD a0) .own);(dA (.val zL2) (h1.cell (h.next,2)) fun (x2:SL)=>(pC (vX N N (some (h.next,0)) false x2 (Int.ofNat x2.len) 0 h1) fun o17 (j18:zY) h19=>(bif jD o17 (.exit 0) then(mA (α:=zY) ((bB j18.1 fun q20=>(dA (.val zO2) (h19.cell ((q20.1,q20.2+4).1,(q20.1,q20.2+4).2+0)) fun (x21:Int)=>let x22:=eA x21 0;(bif x22 then(bB j18.1 fun q23=>(dA (.val zE) (h19.cells (q23.1,q23.2+4) 4) fun (x24:zR)=>(mA (f123 N x24 h19) fun (x25:Bool) h26=>(bif x25 then some ((j18.1,true,()),h26)else(bB j18.1 fun q27=>(dA (.val zE) (h26.cells (q27.1,q27.2+4) 4) fun (x28:zR)=>(mA (f124 N N x28 1 h26) fun (x29:Bool) h30=>some ((j18.1,x29,()),h30))))))))else(bB j18.1 fun q31=>(dA (.val zE) (h19.cells (q31.1,q31.2+4) 4) fun (x32:zR)=>(mA (f124 N N x32 1 h19) fun (x33:Bool) h34=>some ((j18.1,x33,()),h34)))))))) fun (j35:zY) h36=>(bB j35.1 fun q37=>(dA (.val zM2) (h36.cell (q37.1,q37.2+1)) fun (x38:zQ2)=>(mA (f119 N x38 h36) fun (x39:Bool) h40=>(bif x39 then(bB j35.1 fun q41=>(dA (.val zL2) (h40.cell (q41.1,q41.2+2)) fun (x42:SL)=>let x43:Bool:=wB (Int.ofNat x42.len) 64;(bif x43 then(bB j35.1 fun q44=>(dA (.val zL2) (h40.cell (q44.1,q44.2+3)) fun (x45:SL)=>(mA (f121 N x45 true h40) fun (x46:Bool) h47=>(bif x46 then(bif j35.2.1 then(bB j35.1 fun q48=>
 (dA (.val zL2) (h47.cell (q48.1,q48.2+8)) fun (x49:SL)=>(mA (f125 N N x49 1 h47) fun (x50:Bool) h51=>(bif x50 then(bB j35.1 fun q52=>(dA (.val zL2) (h51.cell (q52.1,q52.2+8)) fun (x53:SL)=>(mA (f126 N N x53 h51) fun (x54:Int) h55=>let x56:Bool:=wB x54 2000;some (x56,h55))))else some (false,h51)))))else some (false,h47))else some (false,h47)))))else some (false,h40))))else some (false,h40))))))else some (j18.2.1,h19))))
def cBa:Ann:=(.two .n (.two (.two .n (.two (.loop [(1,zK2),(2,zN2),(7,zL2),(8,zO2),(9,zO2)] [(.exit 0),.ret] [(1,zK2),(2,zN2)] .n) .n)) (.two (.join [(1,zK2),(5,zN2)] .n) .n)))
theorem wB3 (N:Nat):jC Tryz.prog 80 [zH] (.val zN2) (fun x h=>f80 N x.1 h):=cD (iA (lAx N) (iA (jAx N) (iA (uAb N) (iA (yAm N) (iA (vAm N) (iA (aAn N) (iA (tAb N) (iA (dM N) nA)))))))) N cBa Tryz.f80
def pU (N:Nat) (go:Bool->SL->Int->Int->Heap->Option (Out×zC1×Heap)) (v2:Bool) (v27:SL) (v28 v29:Int) (h:Heap):Option (Out×zC1×Heap):=let x22:=ltInt v29 v28;(bif x22 then(ixK v27.a v27.len v29 10 fun q23=>(dA (.val zH) (h.cells q23 10) fun (x24:zE1)=>let h25:=h.push (.row yZD .own);(bB (h25.store (h.next,0) (yRD x24)) fun h26=>(dA (.val zH) (h26.cells (h.next,0) 10) fun (x27:zE1)=>(mA (f80 N x27 h26) fun (x28:Bool) h29=>let x30:=!x28;(bif x30 then some (Out.ret,(false,()),h29)else let x31:=jB .i64 (v29+1);go v2 v27 v28 x31 h29))))))else some ((Out.exit 2),(v2,()),h))
def yX (N M:Nat) (v2:Bool) (v27:SL) (v28 v29:Int) (h:Heap):Option (Out×zC1×Heap):=iter (fun go s h=>pU N (fun v2 v27 v28 v29 h=>go (v2,v27,v28,v29,()) h) s.1 s.2.1 s.2.2.1 s.2.2.2.1 h) M (v2,v27,v28,v29,()) h
theorem aY (N M v2 v27 v28 v29 h):yX N (M+1) v2 v27 v28 v29 h=pU N (yX N M) v2 v27 v28 v29 h:=rfl
def qU (N:Nat) (go:zJ2->Bool->SL->Int->Int->Heap->Option (Out×zY×Heap)) (v1:zJ2) (v2:Bool) (v16:SL) (v17 v18:Int) (h:Heap):Option (Out×zY×Heap):=let x7:=ltInt v18 v17;(bif x7 then(ixK v16.a v16.len v18 5 fun q8=>(dA (.val zK) (h.cells q8 5) fun (x9:zT1)=>let h10:=h.push (.row yZE .own);(bB (h10.store (h.next,0) (yRG x9)) fun h11=>(dA (.val zK) (h11.cells (h.next,0) 5) fun (x12:zT1)=>(mA (f79 N x12 h11) fun (x13:Bool) h14=>let x15:=!x13;(bif x15 then some (Out.ret,(v1,false,()),h14)else let x16:=jB .i64 (v18+1);go v1 v2 v16 v17 x16 h14))))))else some ((Out.exit 0),(v1,v2,()),h))
def bY (N M:Nat) (v1:zJ2) (v2:Bool) (v16:SL) (v17 v18:Int) (h:Heap):Option (Out×zY×Heap):=iter (fun go s h=>qU N (fun v1 v2 v16 v17 v18 h=>go (v1,v2,v16,v17,v18,()) h) s.1 s.2.1 s.2.2.1 s.2.2.2.1 s.2.2.2.2.1 h) M (v1,v2,v16,v17,v18,()) h
theorem cY (N M v1 v2 v16 v17 v18 h):bY N (M+1) v1 v2 v16 v17 v18 h=qU N (bY N M) v1 v2 v16 v17 v18 h:=rfl
def f33 (N:Nat) (a0:zO1) (h:Heap):Option (Bool×Heap):=let h1:=h.push (.row (yRH a0) .own);(dA (.val zL2) (h1.cell (h.next,0)) fun (x2:SL)=>(dA (.val zL2) (h1.cell (h.next,1)) fun (x3:SL)=>let x4:=jB .i64 ((Int.ofNat x2.len)+(Int.ofNat x3.len));let x5:=ltInt 256 x4;(bif x5 then some (false,h1)else(dA (.val zL2) (h1.cell (h.next,0)) fun (x6:SL)=>(pC (bY N N (some (h.next,0)) false x6 (Int.ofNat x6.len) 0 h1) fun o17 (j18:zY) h19=>(bif jD o17 (.exit 0) then(bB j18.1 fun q20=>(dA (.val zL2) (h19.cell (q20.1,q20.2+1)) fun (x21:SL)=>(pC (yX N N j18.2.1 x21 (Int.ofNat x21.len) 0 h19) fun o32 (j33:zC1) h34=>(bif jD o32 (.exit 2) then some (true,h34)else some (j33.1,h34)))))else some (j18.2.1,h19)))))))
def dBa:Ann:=(.two .n (.two .n (.two (.two .n (.two (.loop [(1,zK2),(2,zN2),(16,zL2),(17,zO2),(18,zO2)] [(.exit 0),.ret] [(1,zK2),(2,zN2)] .n) .n)) (.two (.two .n (.two (.loop [(2,zN2),(27,zL2),(28,zO2),(29,zO2)] [(.exit 2),.ret] [(2,zN2)] .n) .n)) .n))))
theorem yB3 (N:Nat):jC Tryz.prog 33 [zJ] (.val zN2) (fun x h=>f33 N x.1 h):=cD (iA (wB3 N) (iA (kB3 N) nA)) N dBa Tryz.f33
end
end Qp
end Go.Proofs.YtkcjphhjmlienaaGreatDoor
