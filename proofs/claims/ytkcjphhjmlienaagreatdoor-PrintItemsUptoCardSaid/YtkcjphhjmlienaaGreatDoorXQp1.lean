import Derived.Test.YtkcjphhjmlienaaGreatDoorProg
import Derived.WalkKit
import Derived.LaidEql
import Derived.Stop.Asserts
import Derived.RowKitTokens
import Derived.Test.YtkcjphhjmlienaaGreatDoorAi2
import Derived.Laws.Externs
import Derived.Deep.RegionWith
import Derived.Test.YtkcjphhjmlienaaGreatDoorRows
import Derived.Shelf.Strings.Cut
import Derived.WalkSmall
import Derived.Shelf.Strings.OnBuilder
import Derived.Shelf.LaysM
import Derived.Shelf.Strconv.Itoa3
import Derived.Shelf.Strings.Repeat
import Derived.Lib.AppendIntMem
/- Functions of the program as plain functions, and what they come to; part 1. -/
namespace Go.Proofs.YtkcjphhjmlienaaGreatDoor
set_option linter.unusedVariables false
set_option linter.unusedSimpArgs false
open Go Go.Proofs
namespace Qa
open Go.RowKit Go.Extern.Stop Go.Stop Go.Extern
end Qa
open Go Ai Go.Proofs
open Go.RowKit (Below)
namespace Qa
def hdl:AV:=.iface 232 (.agg [.ptr (some (1,0))])
def wAu:Ai.Loc:=⟨1,0,1,false⟩
def yAu:Ai.Loc:=⟨7,29,30,false⟩
def fAq (a b:Ai.Loc):Bool:=Nat.beq a.b b.b&&Nat.beq a.sh b.sh&&Nat.beq a.tot b.tot&&(bif a.ex then b.ex else !b.ex)
def iZ (A:Nat) (l:Ai.Loc):List (Nat×Ai.Loc)→Bool
 | []=>false
 | x::r=>(Nat.beq x.1 A&&fAq x.2 l)||iZ A l r
def yAd (b:Option Blk) (cs:List AV):Bool:=match b with
 | some (.row cs' .ro)=>eqV (.agg cs') (.agg cs)
 | _=>false
theorem yAl {a b:Ai.Loc} (h:fAq a b=true):a=b:=by
 obtain ⟨a1,a2,a3,a4⟩:=a;obtain ⟨b1,b2,b3,b4⟩:=b;simp only [fAq,Bool.and_eq_true] at h;obtain ⟨⟨⟨h1,h2⟩,h3⟩,h4⟩:=h;obtain rfl:=Nat.eq_of_beq_eq_true h1;obtain rfl:=Nat.eq_of_beq_eq_true h2;obtain rfl:=Nat.eq_of_beq_eq_true h3
 have:a4=b4:=by cases a4 <;> cases b4 <;> simp_all
 rw [this]
theorem fA4 {A:Nat} {l:Ai.Loc}:∀ {p:List (Nat×Ai.Loc)},iZ A l p=true→(A,l)∈p
 | [],h=>by cases h
 | x::r,h=>by
  simp only [iZ,Bool.or_eq_true,Bool.and_eq_true] at h;rcases h with ⟨h1,h2⟩ | h
  ·have e1:=Nat.eq_of_beq_eq_true h1
   have e2:=yAl h2;obtain ⟨x1,x2⟩:=x;simp only at e1 e2;rw [e1,e2];exact List.mem_cons_self
  ·exact List.mem_cons_of_mem _ (fA4 h)
def vB1 (h:Heap) (A:Nat):Option (List AV×BState):=match h.t.get A with
 | some (.row cs st)=>match st with
  | .own=>some (cs,st)
  | .grown=>some (cs,st)
  | _=>none
 | _=>none
def asN:List AV→Heap→Option (AV×Heap)
 | [.iface t (.ptr (some p)),.iface t' (.ptr (some (A,off)))],h=>
  bif Nat.beq t 127&&Nat.beq t' 214&&iZ 0 wAu h.pins&&iZ 1 yAu h.pins&&yAd (h.t.get 0) [hdl] then
   match vB1 h A with
   | some (cs,st)=>match over off cs [.ptr (some p)] with
    | some cs'=>some (.bool true,h.put A (.row cs' st))
    | none=>none
   | none=>none
  else none
 | _,_=>none
theorem cB1:EnvOK (qAp Tryz.prog [] wAa) Tryz.prog:=vAa (by kernel_rfl) (by kernel_rfl)
def iB5 (c:UInt8):List UInt8→Nat→Int
 | [],_=>-1
 | x::r,k=>bif Nat.beq x.toNat c.toNat then .ofNat k else iB5 c r (k+1)
def eB6:List AV→Heap→Option (AV×Heap)
 | [.str s,.int .u8 c],h=>some (.int .i64 (iB5 c.toNat.toUInt8 s 0),h)
 | _,_=>none
def nat:FuncId→Option (List AV→Heap→Option (AV×Heap)):=fun f=>bif Nat.beq f 192 then some asN else bif Nat.beq f 206 then some eB6 else none
end Qa
set_option maxRecDepth 100000
namespace Qx
open Qa
theorem jB5:Tryz.prog.follows .mixedOrders=true:=by kernel_rfl
def h0:Heap:={ t:=Tr.set .nil 0 (.row [hdl] .ro),next:=2,pins:=[(0,wAu),(1,yAu)] }
def mu0:Mu:=fun A=>if A=0 then some wAu else if A=1 then some yAu else none
theorem mu0_inv {A:Nat} {l:Ai.Loc} (h:mu0 A=some l):(A=0∧l=wAu)∨(A=1∧l=yAu):=by
 unfold mu0 at h
 split at h
 ·cases h;exact .inl ⟨by assumption,rfl⟩
 ·split at h
  ·cases h;exact .inr ⟨by assumption,rfl⟩
  ·cases h
theorem vT {A:Nat} {b:Blk} (h:h0.t.get A=some b):A=0∧b=.row [hdl] .ro:=by
 rcases Tr.get_set h with h | ⟨_,h⟩
 ·exact h
 ·simp [Tr.get_nil] at h
theorem h0_rof:Rof h0:=by
 refine ⟨fun A b hA=>?_,fun A hA=>?_⟩
 ·obtain ⟨_,rfl⟩:=vT hA;exact ⟨_,rfl⟩
 ·cases hb:h0.t.get A with
  | none=>rfl
  | some b=>
   have:=(vT hb).1
   have h1:(2:Nat)≤A:=hA;omega
def pinned (h:Heap):Bool:=iZ 0 wAu h.pins&&iZ 1 yAu h.pins&&yAd (h.t.get 0) [hdl]
end Qx
namespace Qp
noncomputable section
abbrev zA:VTy:=.agg [(.int .i64),(.int .i64),.bool,.str,(.int .i64),.str,.slice,.slice,.bool,.str,.slice,(.int .i64),(.int .i64),(.int .i64),.str,.slice,(.int .i64),(.int .i64),.str,.slice,(.int .i64),.str,.slice,.str,.slice,.slice,(.int .i64),(.int .i64),.str,.slice,.slice,.slice]
abbrev zC:VTy:=.agg [(.int .i64),(.int .i64),(.int .i64),.str,.slice,(.int .i64),(.int .i64),.str,.slice,(.int .i64),.str,.slice,.str,.slice,.slice]
abbrev zD:VTy:=.agg [(.int .i64),(.int .i64),.str,.slice]
abbrev zE:VTy:=.agg [(.int .i64),.str,.slice,.slice]
abbrev zG:VTy:=.agg [.str,.slice]
abbrev zH:VTy:=.agg [.bool,.str,.slice,.slice,(.int .i64),.str,.slice,.slice,.slice,(.int .i64)]
abbrev zJ:VTy:=.agg [.slice,.slice]
abbrev zK:VTy:=.agg [.bool,.str,.slice,.slice,(.int .i64)]
abbrev zM:VTy:=.agg [.bool,.str,(.int .i64),.str,.slice,.slice]
abbrev zP:Type:=Int×Int×Bool×List UInt8×Int×List UInt8×SL×SL×Bool×List UInt8×SL×Int×Int×Int×List UInt8×SL×Int×Int×List UInt8×SL×Int×List UInt8×SL×List UInt8×SL×SL×Int×Int×List UInt8×SL×SL×SL×Unit
abbrev zQ:Type:=Int×Int×Int×List UInt8×SL×Int×Int×List UInt8×SL×Int×List UInt8×SL×List UInt8×SL×SL×Unit
abbrev zR:Type:=Option (Nat×Nat)×Bool×Option (Nat×Nat)×Unit
abbrev zU:Type:=Int×List UInt8×SL×SL×Unit
abbrev zW:Type:=SL×Int×Bool×Int×Option (Nat×Nat)×Option (Nat×Nat)×Bool×Bool×Bool×Unit
abbrev zX:Type:=Int×Int×List UInt8×SL×Unit
abbrev zY:Type:=Option (Nat×Nat)×Option (Nat×Nat)×Unit
abbrev zZ:Type:=Option (Nat×Nat)×Bool×Unit
abbrev zA1:Type:=Bool×Unit
abbrev zB1:Type:=List UInt8×SL×Unit
abbrev zC1:Type:=SL×Int×Bool×Int×Option (Nat×Nat)×Option (Nat×Nat)×Bool×Bool×Bool×Int×Bool×Unit
abbrev zD1:Type:=Bool×List UInt8×SL×SL×Int×List UInt8×SL×SL×SL×Int×Unit
abbrev zE1:Type:=Int×Option (Nat×Nat)×Bool×Option (Nat×Nat)×Unit
abbrev zF1:Type:=Option (Nat×Nat)×Option (Nat×Nat)×Bool×Unit
abbrev zG1:Type:=Bool×Option (Nat×Nat)×Unit
abbrev zH1:Type:=Option (Nat×Nat)×List UInt8×Unit
abbrev zI1:Type:=SL×Int×Bool×Int×Option (Nat×Nat)×Option (Nat×Nat)×Bool×Bool×Bool×Bool×Unit
abbrev zJ1:Type:=Option (Nat×Nat)×Option (Nat×Nat)×Int×Bool×Unit
abbrev zK1:Type:=Int×Option (Nat×Nat)×Int×Bool×Unit
abbrev zL1:Type:=Int×Unit
abbrev zM1:Type:=SL×Bool×Unit
abbrev zN1:Type:=Option (Nat×Nat)×Bool×List UInt8×AV×List UInt8×Unit
abbrev zO1:Type:=Option (Nat×Nat)×SL×Unit
abbrev zP1:Type:=Option (Nat×Nat)×Bool×Option (Nat×Nat)×Int×Unit
abbrev zQ1:Type:=Bool×List UInt8×SL×SL×Int×Unit
abbrev zR1:Type:=Option (Nat×Nat)×List UInt8×Bool×Unit
abbrev zS1:Type:=Bool×List UInt8×AV×List UInt8×Unit
abbrev zT1:Type:=SL×SL×Unit
abbrev zU1:Type:=Int×Option (Nat×Nat)×Bool×Unit
abbrev zV1:Type:=Option (Nat×Nat)×Bool×Option (Nat×Nat)×SL×Int×Int×Unit
abbrev zW1:Type:=SL×Int×Bool×Int×Unit
abbrev zX1:Type:=Option (Nat×Nat)×Int×Unit
abbrev zY1:Type:=List UInt8×AV×Unit
abbrev zZ1:Type:=Option (Nat×Nat)×Unit
abbrev zA2:Type:=List UInt8×Bool×Unit
abbrev zB2:Type:=Bool×List UInt8×Int×List UInt8×SL×SL×Unit
abbrev zC2:Type:=Int×Int×Unit
abbrev zD2:Type:=List UInt8×List UInt8×Bool×Unit
abbrev zE2:Type:=Option (Nat×Nat)
abbrev zF2:VTy:=.one .ptr
abbrev zG2:VTy:=.one .slice
abbrev zH2:VTy:=.one .str
abbrev zI2:VTy:=.one .bool
abbrev zJ2:VTy:=.one (.int .i64)
abbrev zK2:VTy:=.one .any
abbrev zL2:Type:=List UInt8
noncomputable def E:Env:=qAp Tryz.prog [1000085] wAa
theorem wB1:EnvOK E Tryz.prog:=vAa (by kernel_rfl) (by kernel_rfl)
theorem jB5:Tryz.prog.follows .mixedOrders=true:=by kernel_rfl
abbrev yRA {β:Type} (v:Int×Int×Bool×List UInt8×Int×List UInt8×SL×SL×Bool×List UInt8×SL×Int×Int×Int×List UInt8×SL×Int×Int×List UInt8×SL×Int×List UInt8×SL×List UInt8×SL×SL×Int×Int×List UInt8×SL×SL×SL×β):List AV:=[(.int .i64 v.1),(.int .i64 v.2.1),(.bool v.2.2.1),(.str v.2.2.2.1),(.int .i64 v.2.2.2.2.1),(.str v.2.2.2.2.2.1),(.slice v.2.2.2.2.2.2.1.a v.2.2.2.2.2.2.1.len v.2.2.2.2.2.2.1.cap v.2.2.2.2.2.2.1.sz),(.slice v.2.2.2.2.2.2.2.1.a v.2.2.2.2.2.2.2.1.len v.2.2.2.2.2.2.2.1.cap v.2.2.2.2.2.2.2.1.sz),(.bool v.2.2.2.2.2.2.2.2.1),(.str v.2.2.2.2.2.2.2.2.2.1),(.slice v.2.2.2.2.2.2.2.2.2.2.1.a v.2.2.2.2.2.2.2.2.2.2.1.len v.2.2.2.2.2.2.2.2.2.2.1.cap v.2.2.2.2.2.2.2.2.2.2.1.sz),(.int .i64 v.2.2.2.2.2.2.2.2.2.2.2.1),(.int .i64 v.2.2.2.2.2.2.2.2.2.2.2.2.1),(.int .i64 v.2.2.2.2.2.2.2.2.2.2.2.2.2.1),(.str v.2.2.2.2.2.2.2.2.2.2.2.2.2.2.1),(.slice v.2.2.2.2.2.2.2.2.2.2.2.2.2.2.2.1.a v.2.2.2.2.2.2.2.2.2.2.2.2.2.2.2.1.len v.2.2.2.2.2.2.2.2.2.2.2.2.2.2.2.1.cap v.2.2.2.2.2.2.2.2.2.2.2.2.2.2.2.1.sz),(.int .i64 v.2.2.2.2.2.2.2.2.2.2.2.2.2.2.2.2.1),(.int .i64 v.2.2.2.2.2.2.2.2.2.2.2.2.2.2.2.2.2.1),(.str v.2.2.2.2.2.2.2.2.2.2.2.2.2.2.2.2.2.2.1),(.slice v.2.2.2.2.2.2.2.2.2.2.2.2.2.2.2.2.2.2.2.1.a v.2.2.2.2.2.2.2.2.2.2.2.2.2.2.2.2.2.2.2.1.len v.2.2.2.2.2.2.2.2.2.2.2.2.2.2.2.2.2.2.2.1.cap v.2.2.2.2.2.2.2.2.2.2.2.2.2.2.2.2.2.2.2.1.sz),(.int .i64 v.2.2.2.2.2.2.2.2.2.2.2.2.2.2.2.2.2.2.2.2.1),(.str v.2.2.2.2.2.2.2.2.2.2.2.2.2.2.2.2.2.2.2.2.2.1),(.slice v.2.2.2.2.2.2.2.2.2.2.2.2.2.2.2.2.2.2.2.2.2.2.1.a v.2.2.2.2.2.2.2.2.2.2.2.2.2.2.2.2.2.2.2.2.2.2.1.len v.2.2.2.2.2.2.2.2.2.2.2.2.2.2.2.2.2.2.2.2.2.2.1.cap v.2.2.2.2.2.2.2.2.2.2.2.2.2.2.2.2.2.2.2.2.2.2.1.sz),(.str v.2.2.2.2.2.2.2.2.2.2.2.2.2.2.2.2.2.2.2.2.2.2.2.1),(.slice v.2.2.2.2.2.2.2.2.2.2.2.2.2.2.2.2.2.2.2.2.2.2.2.2.1.a v.2.2.2.2.2.2.2.2.2.2.2.2.2.2.2.2.2.2.2.2.2.2.2.2.1.len v.2.2.2.2.2.2.2.2.2.2.2.2.2.2.2.2.2.2.2.2.2.2.2.2.1.cap v.2.2.2.2.2.2.2.2.2.2.2.2.2.2.2.2.2.2.2.2.2.2.2.2.1.sz),(.slice v.2.2.2.2.2.2.2.2.2.2.2.2.2.2.2.2.2.2.2.2.2.2.2.2.2.1.a v.2.2.2.2.2.2.2.2.2.2.2.2.2.2.2.2.2.2.2.2.2.2.2.2.2.1.len v.2.2.2.2.2.2.2.2.2.2.2.2.2.2.2.2.2.2.2.2.2.2.2.2.2.1.cap v.2.2.2.2.2.2.2.2.2.2.2.2.2.2.2.2.2.2.2.2.2.2.2.2.2.1.sz),(.int .i64 v.2.2.2.2.2.2.2.2.2.2.2.2.2.2.2.2.2.2.2.2.2.2.2.2.2.2.1),(.int .i64 v.2.2.2.2.2.2.2.2.2.2.2.2.2.2.2.2.2.2.2.2.2.2.2.2.2.2.2.1),(.str v.2.2.2.2.2.2.2.2.2.2.2.2.2.2.2.2.2.2.2.2.2.2.2.2.2.2.2.2.1),(.slice v.2.2.2.2.2.2.2.2.2.2.2.2.2.2.2.2.2.2.2.2.2.2.2.2.2.2.2.2.2.1.a v.2.2.2.2.2.2.2.2.2.2.2.2.2.2.2.2.2.2.2.2.2.2.2.2.2.2.2.2.2.1.len v.2.2.2.2.2.2.2.2.2.2.2.2.2.2.2.2.2.2.2.2.2.2.2.2.2.2.2.2.2.1.cap v.2.2.2.2.2.2.2.2.2.2.2.2.2.2.2.2.2.2.2.2.2.2.2.2.2.2.2.2.2.1.sz),(.slice v.2.2.2.2.2.2.2.2.2.2.2.2.2.2.2.2.2.2.2.2.2.2.2.2.2.2.2.2.2.2.1.a v.2.2.2.2.2.2.2.2.2.2.2.2.2.2.2.2.2.2.2.2.2.2.2.2.2.2.2.2.2.2.1.len v.2.2.2.2.2.2.2.2.2.2.2.2.2.2.2.2.2.2.2.2.2.2.2.2.2.2.2.2.2.2.1.cap v.2.2.2.2.2.2.2.2.2.2.2.2.2.2.2.2.2.2.2.2.2.2.2.2.2.2.2.2.2.2.1.sz),(.slice v.2.2.2.2.2.2.2.2.2.2.2.2.2.2.2.2.2.2.2.2.2.2.2.2.2.2.2.2.2.2.2.1.a v.2.2.2.2.2.2.2.2.2.2.2.2.2.2.2.2.2.2.2.2.2.2.2.2.2.2.2.2.2.2.2.1.len v.2.2.2.2.2.2.2.2.2.2.2.2.2.2.2.2.2.2.2.2.2.2.2.2.2.2.2.2.2.2.2.1.cap v.2.2.2.2.2.2.2.2.2.2.2.2.2.2.2.2.2.2.2.2.2.2.2.2.2.2.2.2.2.2.2.1.sz)]
abbrev yRB {β:Type} (v:Int×Int×Int×List UInt8×SL×Int×Int×List UInt8×SL×Int×List UInt8×SL×List UInt8×SL×SL×β):List AV:=[(.int .i64 v.1),(.int .i64 v.2.1),(.int .i64 v.2.2.1),(.str v.2.2.2.1),(.slice v.2.2.2.2.1.a v.2.2.2.2.1.len v.2.2.2.2.1.cap v.2.2.2.2.1.sz),(.int .i64 v.2.2.2.2.2.1),(.int .i64 v.2.2.2.2.2.2.1),(.str v.2.2.2.2.2.2.2.1),(.slice v.2.2.2.2.2.2.2.2.1.a v.2.2.2.2.2.2.2.2.1.len v.2.2.2.2.2.2.2.2.1.cap v.2.2.2.2.2.2.2.2.1.sz),(.int .i64 v.2.2.2.2.2.2.2.2.2.1),(.str v.2.2.2.2.2.2.2.2.2.2.1),(.slice v.2.2.2.2.2.2.2.2.2.2.2.1.a v.2.2.2.2.2.2.2.2.2.2.2.1.len v.2.2.2.2.2.2.2.2.2.2.2.1.cap v.2.2.2.2.2.2.2.2.2.2.2.1.sz),(.str v.2.2.2.2.2.2.2.2.2.2.2.2.1),(.slice v.2.2.2.2.2.2.2.2.2.2.2.2.2.1.a v.2.2.2.2.2.2.2.2.2.2.2.2.2.1.len v.2.2.2.2.2.2.2.2.2.2.2.2.2.1.cap v.2.2.2.2.2.2.2.2.2.2.2.2.2.1.sz),(.slice v.2.2.2.2.2.2.2.2.2.2.2.2.2.2.1.a v.2.2.2.2.2.2.2.2.2.2.2.2.2.2.1.len v.2.2.2.2.2.2.2.2.2.2.2.2.2.2.1.cap v.2.2.2.2.2.2.2.2.2.2.2.2.2.2.1.sz)]
abbrev yRC {β:Type} (v:Int×Int×List UInt8×SL×β):List AV:=[(.int .i64 v.1),(.int .i64 v.2.1),(.str v.2.2.1),(.slice v.2.2.2.1.a v.2.2.2.1.len v.2.2.2.1.cap v.2.2.2.1.sz)]
abbrev yRD {β:Type} (v:Bool×List UInt8×SL×SL×Int×List UInt8×SL×SL×SL×Int×β):List AV:=[(.bool v.1),(.str v.2.1),(.slice v.2.2.1.a v.2.2.1.len v.2.2.1.cap v.2.2.1.sz),(.slice v.2.2.2.1.a v.2.2.2.1.len v.2.2.2.1.cap v.2.2.2.1.sz),(.int .i64 v.2.2.2.2.1),(.str v.2.2.2.2.2.1),(.slice v.2.2.2.2.2.2.1.a v.2.2.2.2.2.2.1.len v.2.2.2.2.2.2.1.cap v.2.2.2.2.2.2.1.sz),(.slice v.2.2.2.2.2.2.2.1.a v.2.2.2.2.2.2.2.1.len v.2.2.2.2.2.2.2.1.cap v.2.2.2.2.2.2.2.1.sz),(.slice v.2.2.2.2.2.2.2.2.1.a v.2.2.2.2.2.2.2.2.1.len v.2.2.2.2.2.2.2.2.1.cap v.2.2.2.2.2.2.2.2.1.sz),(.int .i64 v.2.2.2.2.2.2.2.2.2.1)]
abbrev yRE {β:Type} (v:Int×List UInt8×SL×SL×β):List AV:=[(.int .i64 v.1),(.str v.2.1),(.slice v.2.2.1.a v.2.2.1.len v.2.2.1.cap v.2.2.1.sz),(.slice v.2.2.2.1.a v.2.2.2.1.len v.2.2.2.1.cap v.2.2.2.1.sz)]
abbrev yRF {β:Type} (v:List UInt8×SL×β):List AV:=[(.str v.1),(.slice v.2.1.a v.2.1.len v.2.1.cap v.2.1.sz)]
abbrev yRG {β:Type} (v:Bool×List UInt8×SL×SL×Int×β):List AV:=[(.bool v.1),(.str v.2.1),(.slice v.2.2.1.a v.2.2.1.len v.2.2.1.cap v.2.2.1.sz),(.slice v.2.2.2.1.a v.2.2.2.1.len v.2.2.2.1.cap v.2.2.2.1.sz),(.int .i64 v.2.2.2.2.1)]
abbrev yRH {β:Type} (v:Bool×List UInt8×Int×List UInt8×SL×SL×β):List AV:=[(.bool v.1),(.str v.2.1),(.int .i64 v.2.2.1),(.str v.2.2.2.1),(.slice v.2.2.2.2.1.a v.2.2.2.2.1.len v.2.2.2.2.1.cap v.2.2.2.2.1.sz),(.slice v.2.2.2.2.2.1.a v.2.2.2.2.2.1.len v.2.2.2.2.2.1.cap v.2.2.2.2.2.1.sz)]
abbrev yRI {β:Type} (v:SL×SL×β):List AV:=[(.slice v.1.a v.1.len v.1.cap v.1.sz),(.slice v.2.1.a v.2.1.len v.2.1.cap v.2.1.sz)]
abbrev yZA:List AV:=[(.int .i64 0),(.int .i64 0),(.bool false),(.str []),(.int .i64 0),(.str []),(.slice none 0 0 0),(.slice none 0 0 0),(.bool false),(.str []),(.slice none 0 0 0),(.int .i64 0),(.int .i64 0),(.int .i64 0),(.str []),(.slice none 0 0 0),(.int .i64 0),(.int .i64 0),(.str []),(.slice none 0 0 0),(.int .i64 0),(.str []),(.slice none 0 0 0),(.str []),(.slice none 0 0 0),(.slice none 0 0 0),(.int .i64 0),(.int .i64 0),(.str []),(.slice none 0 0 0),(.slice none 0 0 0),(.slice none 0 0 0)]
abbrev yZB:List AV:=[(.int .i64 0),(.int .i64 0),(.int .i64 0),(.str []),(.slice none 0 0 0),(.int .i64 0),(.int .i64 0),(.str []),(.slice none 0 0 0),(.int .i64 0),(.str []),(.slice none 0 0 0),(.str []),(.slice none 0 0 0),(.slice none 0 0 0)]
abbrev yZC:List AV:=[(.int .i64 0),(.int .i64 0),(.str []),(.slice none 0 0 0)]
abbrev yZD:List AV:=[(.bool false),(.str []),(.slice none 0 0 0),(.slice none 0 0 0),(.int .i64 0),(.str []),(.slice none 0 0 0),(.slice none 0 0 0),(.slice none 0 0 0),(.int .i64 0)]
abbrev yZE:List AV:=[(.int .i64 0),(.str []),(.slice none 0 0 0),(.slice none 0 0 0)]
abbrev yZF:List AV:=[(.str []),(.slice none 0 0 0)]
abbrev yZG:List AV:=[(.bool false),(.str []),(.slice none 0 0 0),(.slice none 0 0 0),(.int .i64 0)]
abbrev yZH:List AV:=[(.bool false),(.str []),(.int .i64 0),(.str []),(.slice none 0 0 0),(.slice none 0 0 0)]
abbrev yZI:List AV:=[(.slice none 0 0 0)]
abbrev yZJ:List AV:=[(.int .i64 0)]
abbrev yZK:List AV:=[(.bool false)]
theorem fD {C:CallK} (hC:CallKOK Tryz.prog C) (N:Nat) (x:Ann) (fn:Func) {f:FuncId} {l:List VTy} {t:Ty} {F:wE l→Heap→Option (t.den×Heap)} (h1:E.fn f=some fn:=by kernel_rfl) (h2:fn.body=some (fn.body.getD .skip):=by kernel_rfl) (h3:Nat.ble fn.ntmps 1073741824=true:=by kernel_rfl) (h4:Nat.beq fn.results.size fn.resultTypes.size=true:=by kernel_rfl) (h5:∀ xs h,F xs h=runK E C N x fn (fn.body.getD .skip) t (VTy.tos l xs) h:=by intro _ _;kernel_rfl):kC Tryz.prog f l t F:=cAq wB1 jB5 hC h1 h2 h3 h4 h5
def f37 (N:Nat) (a0 a1:Int) (h:Heap):Option (AV×Heap):=let x1:=iA a0 0;(bif x1 then some (AV.nilIface,h)else let h2:=h.push (.row [(.int .i64 a0),(.int .i64 a1),(AV.iface 78 (.int .i64 a0))] .own);some ((AV.iface 127 (.ptr (some (h.next,0)))),h2))
def yB1:Ann:=.n
theorem aAv (N:Nat):kC Tryz.prog 37 [zJ2,zJ2] (.val zK2) (fun x h=>f37 N x.1 x.2.1 h):=fD nA N yB1 Tryz.f37
def f170 (N:Nat) (a0:Int) (h:Heap):Option (Bool×Heap):=let x1:Bool:=wB 97 a0;(bif x1 then let x2:Bool:=wB a0 122;(bif x2 then some (true,h)else let x3:Bool:=wB 65 a0;(bif x3 then let x4:Bool:=wB a0 90;(bif x4 then some (true,h)else let x5:=iA a0 95;(bif x5 then some (true,h)else some (false,h)))else let x6:=iA a0 95;(bif x6 then some (true,h)else some (false,h))))else let x7:Bool:=wB 65 a0;(bif x7 then let x8:Bool:=wB a0 90;(bif x8 then some (true,h)else let x9:=iA a0 95;(bif x9 then some (true,h)else some (false,h)))else let x10:=iA a0 95;(bif x10 then some (true,h)else some (false,h))))
def bAv:Ann:=.n
theorem bAh (N:Nat):kC Tryz.prog 170 [(.one (.int .u8))] (.val zI2) (fun x h=>f170 N x.1 h):=fD nA N bAv Tryz.f170
def f195 (N:Nat) (a0:Int) (h:Heap):Option (Bool×Heap):=(kA (f170 N a0 h) fun (x1:Bool) h2=>(bif x1 then some (true,h2)else let x3:Bool:=wB 48 a0;(bif x3 then let x4:Bool:=wB a0 57;some (x4,h2)else some (false,h2))))
def cAv:Ann:=.n
theorem gAq (N:Nat):kC Tryz.prog 195 [(.one (.int .u8))] (.val zI2) (fun x h=>f195 N x.1 h):=fD (eA (bAh N) nA) N cAv Tryz.f195
def wT (N:Nat) (go:zL2→Int→Heap→Option (Out×zL1×Heap)) (v0:zL2) (v1:Int) (h:Heap):Option (Out×zL1×Heap):=let x1:=ltInt v1 (Int.ofNat v0.length);(bif x1 then(pAk v0 v1 fun x2=>(kA (f195 N x2 h) fun (x3:Bool) h4=>(bif x3 then let x5:=bB .i64 (v1+1);go v0 x5 h4 else some ((Out.exit 0),(v1,()),h4))))else some ((Out.exit 0),(v1,()),h))
def jZ (N M:Nat) (v0:zL2) (v1:Int) (h:Heap):Option (Out×zL1×Heap):=iter (fun go s h=>wT N (fun v0 v1 h=>go (v0,v1,()) h) s.1 s.2.1 h) M (v0,v1,()) h
theorem gA4 (N M v0 v1 h):jZ N (M+1) v0 v1 h=wT N (jZ N M) v0 v1 h:=rfl
def f171 (N:Nat) (a0:zL2) (a1:Int) (h:Heap):Option (Int×Heap):=(wC (jZ N N a0 a1 h) fun _ (j7:zL1) h8=>some (j7.1,h8))
def dAv:Ann:=(.two .n (.two (.two (.loop [(0,zH2),(1,zJ2)] [(.exit 0)] [(1,zJ2)] .n) .n) .n))
theorem iAq (N:Nat):kC Tryz.prog 171 [zH2,zJ2] (.val zJ2) (fun x h=>f171 N x.1 x.2.1 h):=fD (eA (gAq N) nA) N dAv Tryz.f171
def f172 (N:Nat) (a0:zL2) (h:Heap):Option (Bool×Heap):=let x1:=aB a0 [102,110];(bif x1 then(bif x1 then some (true,h)else some (false,h))else let x2:=aB a0 [115,116,114,117,99,116];(bif x2 then(bif x2 then some (true,h)else some (false,h))else let x3:=aB a0 [112,117,98];(bif x3 then(bif x3 then some (true,h)else some (false,h))else let x4:=aB a0 [108,101,116];(bif x4 then(bif x4 then some (true,h)else some (false,h))else let x5:=aB a0 [109,117,116];(bif x5 then(bif x5 then some (true,h)else some (false,h))else let x6:=aB a0 [105,102];(bif x6 then(bif x6 then some (true,h)else some (false,h))else let x7:=aB a0 [101,108,115,101];(bif x7 then(bif x7 then some (true,h)else some (false,h))else let x8:=aB a0 [119,104,105,108,101];(bif x8 then(bif x8 then some (true,h)else some (false,h))else let x9:=aB a0 [108,111,111,112];(bif x9 then(bif x9 then some (true,h)else some (false,h))else let x10:=aB a0 [98,114,101,97,107];(bif x10 then(bif x10 then some (true,h)else some (false,h))else let x11:=aB a0 [99,111,110,116,105,110,117,101];(bif x11 then(bif x11 then some (true,h)else some (false,h))else let x12:=aB a0 [114,101,116,117,114,110];(bif x12 then(bif x12 then some (true,h)else some (false,h))else let x13:=aB a0 [100,114,111,112];(bif x13 then(bif x13 then some (true,h)else some (false,h))else let x14:=aB a0 [116,114,117,101];(bif x14 then(bif x14 then some (true,h)else some (false,h))else let x15:=aB a0 [102,97,108,115,101]
 (bif x15 then(bif x15 then some (true,h)else some (false,h))else let x16:=aB a0 [105,110,116];(bif x16 then(bif x16 then some (true,h)else some (false,h))else let x17:=aB a0 [98,111,111,108];(bif x17 then some (true,h)else some (false,h))))))))))))))))))
def eAv:Ann:=.n
theorem cAh (N:Nat):kC Tryz.prog 172 [zH2] (.val zI2) (fun x h=>f172 N x.1 h):=fD nA N eAv Tryz.f172
def f65 (N:Nat) (a0:Int) (h:Heap):Option (Bool×Heap):=let x1:Bool:=wB 97 a0;(bif x1 then let x2:Bool:=wB a0 122;(bif x2 then some (true,h)else let x3:Bool:=wB 65 a0;(bif x3 then let x4:Bool:=wB a0 90;(bif x4 then some (true,h)else let x5:=iA a0 95;some (x5,h))else let x6:=iA a0 95;some (x6,h)))else let x7:Bool:=wB 65 a0;(bif x7 then let x8:Bool:=wB a0 90;(bif x8 then some (true,h)else let x9:=iA a0 95;some (x9,h))else let x10:=iA a0 95;some (x10,h)))
def aB2:Ann:=.n
theorem jAo (N:Nat):kC Tryz.prog 65 [(.one (.int .u8))] (.val zI2) (fun x h=>f65 N x.1 h):=fD nA N aB2 Tryz.f65
def f69 (N:Nat) (a0:Int) (h:Heap):Option (Bool×Heap):=let x1:Bool:=wB 48 a0;(bif x1 then let x2:Bool:=wB a0 57;some (x2,h)else some (false,h))
def bB2:Ann:=.n
theorem fAv (N:Nat):kC Tryz.prog 69 [(.one (.int .u8))] (.val zI2) (fun x h=>f69 N x.1 h):=fD nA N bB2 Tryz.f69
def kZ (N:Nat) (go:zL2→Int→Heap→Option (Out×zL1×Heap)) (v0:zL2) (v1:Int) (h:Heap):Option (Out×zL1×Heap):=let x1:=ltInt v1 (Int.ofNat v0.length);(bif x1 then(pAk v0 v1 fun x2=>(kA (f65 N x2 h) fun (x3:Bool) h4=>(bif x3 then let x5:=bB .i64 (v1+1);go v0 x5 h4 else(pAk v0 v1 fun x6=>(kA (f69 N x6 h4) fun (x7:Bool) h8=>(bif x7 then let x9:=bB .i64 (v1+1);go v0 x9 h8 else some ((Out.exit 0),(v1,()),h8)))))))else some ((Out.exit 0),(v1,()),h))
def fAb (N M:Nat) (v0:zL2) (v1:Int) (h:Heap):Option (Out×zL1×Heap):=iter (fun go s h=>kZ N (fun v0 v1 h=>go (v0,v1,()) h) s.1 s.2.1 h) M (v0,v1,()) h
theorem eA7 (N M v0 v1 h):fAb N (M+1) v0 v1 h=kZ N (fAb N M) v0 v1 h:=rfl
def f66 (N:Nat) (a0:zL2) (a1:Int) (h:Heap):Option (Int×Heap):=(wC (fAb N N a0 a1 h) fun _ (j11:zL1) h12=>some (j11.1,h12))
def cB2:Ann:=(.two .n (.two (.two (.loop [(0,zH2),(1,zJ2)] [(.exit 0)] [(1,zJ2)] .n) .n) .n))
theorem gAv (N:Nat):kC Tryz.prog 66 [zH2,zJ2] (.val zJ2) (fun x h=>f66 N x.1 x.2.1 h):=fD (eA (fAv N) (eA (jAo N) nA)) N cB2 Tryz.f66
def lZ (N:Nat) (go:zL2→Bool→SL→Int→Heap→Option (Out×zA1×Heap)) (v0:zL2) (v2:Bool) (v3:SL) (v4:Int) (h:Heap):Option (Out×zA1×Heap):=let x2:=ltInt v4 (Int.ofNat v3.len);(bif x2 then(ixK v3.a v3.len v4 1 fun q3=>(dA (.val zH2) (h.cell q3) fun (x4:zL2)=>let x5:=aB x4 v0;(bif x5 then some (Out.ret,(true,()),h)else let x6:=bB .i64 (v4+1);go v0 v2 v3 x6 h)))else some ((Out.exit 0),(v2,()),h))
def gAb (N M:Nat) (v0:zL2) (v2:Bool) (v3:SL) (v4:Int) (h:Heap):Option (Out×zA1×Heap):=iter (fun go s h=>lZ N (fun v0 v2 v3 v4 h=>go (v0,v2,v3,v4,()) h) s.1 s.2.1 s.2.2.1 s.2.2.2.1 h) M (v0,v2,v3,v4,()) h
theorem fA7 (N M v0 v2 v3 v4 h):gAb N (M+1) v0 v2 v3 v4 h=lZ N (gAb N M) v0 v2 v3 v4 h:=rfl
def f67 (N:Nat) (a0:zL2) (h:Heap):Option (Bool×Heap):=let h1:=h.push (.row [(.str [102,110]),(.str [115,116,114,117,99,116]),(.str [112,117,98]),(.str [108,101,116]),(.str [109,117,116]),(.str [105,102]),(.str [101,108,115,101]),(.str [119,104,105,108,101]),(.str [108,111,111,112]),(.str [98,114,101,97,107]),(.str [99,111,110,116,105,110,117,101]),(.str [114,101,116,117,114,110]),(.str [100,114,111,112]),(.str [116,114,117,101]),(.str [102,97,108,115,101]),(.str [105,110,116]),(.str [98,111,111,108])] .own);(wC (gAb N N a0 false ⟨(some (h.next,0)),17,17,1⟩ 0 h1) fun o7 (j8:zA1) h9=>(bif bD o7 (.exit 0) then some (false,h9)else some (j8.1,h9)))
def dB2:Ann:=(.two .n (.two .n (.two (.two .n (.two (.loop [(0,zH2),(2,zI2),(3,zG2),(4,zJ2)] [(.exit 0),.ret] [(2,zI2)] .n) .n)) .n)))
theorem iAv (N:Nat):kC Tryz.prog 67 [zH2] (.val zI2) (fun x h=>f67 N x.1 h):=fD nA N dB2 Tryz.f67
def f68 (N:Nat) (a0:zL2) (h:Heap):Option (Bool×Heap):=let x1:Bool:=wB 1 (Int.ofNat a0.length);(bif x1 then let x2:Bool:=wB (Int.ofNat a0.length) 32;(bif x2 then(pAk a0 0 fun x3=>(kA (f65 N x3 h) fun (x4:Bool) h5=>(bif x4 then(kA (f66 N a0 0 h5) fun (x6:Int) h7=>let x8:=iA x6 (Int.ofNat a0.length);some (x8,h7))else some (false,h5))))else some (false,h))else some (false,h))
def eB2:Ann:=.n
theorem dAh (N:Nat):kC Tryz.prog 68 [zH2] (.val zI2) (fun x h=>f68 N x.1 h):=fD (eA (gAv N) (eA (jAo N) nA)) N eB2 Tryz.f68
def f46 (N:Nat) (a0:zL2) (h:Heap):Option (Bool×Heap):=(kA (f68 N a0 h) fun (x1:Bool) h2=>(bif x1 then(kA (f67 N a0 h2) fun (x3:Bool) h4=>let x5:=!x3;some (x5,h4))else some (false,h2)))
def fB2:Ann:=.n
theorem yT (N:Nat):kC Tryz.prog 46 [zH2] (.val zI2) (fun x h=>f46 N x.1 h):=fD (eA (dAh N) (eA (iAv N) nA)) N fB2 Tryz.f46
def mZ (N:Nat) (go:SL→SL→Bool→Int→Heap→Option (Out×zA1×Heap)) (v0 v1:SL) (v4:Bool) (v5:Int) (h:Heap):Option (Out×zA1×Heap):=let x2:=ltInt v5 (Int.ofNat v0.len);(bif x2 then(ixK v0.a v0.len v5 1 fun q3=>(dA (.val zH2) (h.cell q3) fun (x4:zL2)=>(ixK v1.a v1.len v5 1 fun q5=>(dA (.val zH2) (h.cell q5) fun (x6:zL2)=>let x7:=!aB x4 x6;(bif x7 then some (Out.ret,(false,()),h)else let x8:=bB .i64 (v5+1);go v0 v1 v4 x8 h)))))else some ((Out.exit 0),(v4,()),h))
def eAh (N M:Nat) (v0 v1:SL) (v4:Bool) (v5:Int) (h:Heap):Option (Out×zA1×Heap):=iter (fun go s h=>mZ N (fun v0 v1 v4 v5 h=>go (v0,v1,v4,v5,()) h) s.1 s.2.1 s.2.2.1 s.2.2.2.1 h) M (v0,v1,v4,v5,()) h
theorem gA7 (N M v0 v1 v4 v5 h):eAh N (M+1) v0 v1 v4 v5 h=mZ N (eAh N M) v0 v1 v4 v5 h:=rfl
def f59 (N:Nat) (a0 a1:SL) (h:Heap):Option (Bool×Heap):=let x1:=!iA (Int.ofNat a0.len) (Int.ofNat a1.len);(bif x1 then some (false,h)else(wC (eAh N N a0 a1 false 0 h) fun o9 (j10:zA1) h11=>(bif bD o9 (.exit 0) then some (true,h11)else some (j10.1,h11))))
def gB2:Ann:=(.two .n (.two .n (.two (.two .n (.two (.loop [(0,zG2),(1,zG2),(4,zI2),(5,zJ2)] [(.exit 0),.ret] [(4,zI2)] .n) .n)) .n)))
theorem fAh (N:Nat):kC Tryz.prog 59 [zG2,zG2] (.val zI2) (fun x h=>f59 N x.1 x.2.1 h):=fD nA N gB2 Tryz.f59
def nZ (N:Nat) (rec25:zU→zU→Heap→Option (Bool×Heap)) (go:zE2→zE2→Bool→Int→Heap→Option (Out×zA1×Heap)) (v2 v3:zE2) (v4:Bool) (v5:Int) (h:Heap):Option (Out×zA1×Heap):=(tA v2 fun q17=>(dA (.val zG2) (h.cell (q17.1,q17.2+3)) fun (x18:SL)=>let x19:=ltInt v5 (Int.ofNat x18.len);(bif x19 then(tA v2 fun q20=>(dA (.val zG2) (h.cell (q20.1,q20.2+3)) fun (x21:SL)=>(ixK x21.a x21.len v5 4 fun q22=>(dA (.val zE) (h.cells q22 4) fun (x23:zU)=>(tA v3 fun q24=>(dA (.val zG2) (h.cell (q24.1,q24.2+3)) fun (x25:SL)=>(ixK x25.a x25.len v5 4 fun q26=>(dA (.val zE) (h.cells q26 4) fun (x27:zU)=>(kA (rec25 (x23.1,x23.2.1,x23.2.2.1,x23.2.2.2.1,()) (x27.1,x27.2.1,x27.2.2.1,x27.2.2.2.1,()) h) fun (x28:Bool) h29=>let x30:=!x28;(bif x30 then some (Out.ret,(false,()),h29)else let x31:=bB .i64 (v5+1);go v2 v3 v4 x31 h29))))))))))else some ((Out.exit 0),(v4,()),h))))
def gAh (N:Nat) (rec25:zU→zU→Heap→Option (Bool×Heap)) (M:Nat) (v2 v3:zE2) (v4:Bool) (v5:Int) (h:Heap):Option (Out×zA1×Heap):=iter (fun go s h=>nZ N rec25 (fun v2 v3 v4 v5 h=>go (v2,v3,v4,v5,()) h) s.1 s.2.1 s.2.2.1 s.2.2.2.1 h) M (v2,v3,v4,v5,()) h
theorem iA7 (N rec25 M v2 v3 v4 v5 h):gAh N rec25 (M+1) v2 v3 v4 v5 h=nZ N rec25 (gAh N rec25 M) v2 v3 v4 v5 h:=rfl
def jAq (N:Nat) (rec25:zU→zU→Heap→Option (Bool×Heap)) (a0 a1:zU) (h:Heap):Option (Bool×Heap):=let h1:=h.push (.row (yRE a0) .own);let h2:=h1.push (.row (yRE a1) .own);(dA (.val zJ2) (h2.cell ((h.next,0).1,(h.next,0).2+0)) fun (x3:Int)=>(dA (.val zJ2) (h2.cell ((h1.next,0).1,(h1.next,0).2+0)) fun (x4:Int)=>let x5:=!iA x3 x4;(bif x5 then some (false,h2)else(dA (.val zH2) (h2.cell ((h.next,0).1,(h.next,0).2+1)) fun (x6:zL2)=>(dA (.val zH2) (h2.cell ((h1.next,0).1,(h1.next,0).2+1)) fun (x7:zL2)=>let x8:=!aB x6 x7;(bif x8 then some (false,h2)else(dA (.val zG2) (h2.cell ((h.next,0).1,(h.next,0).2+2)) fun (x9:SL)=>(dA (.val zG2) (h2.cell ((h1.next,0).1,(h1.next,0).2+2)) fun (x10:SL)=>(kA (f59 N x9 x10 h2) fun (x11:Bool) h12=>let x13:=!x11;(bif x13 then some (false,h12)else(dA (.val zG2) (h12.cell ((h.next,0).1,(h.next,0).2+3)) fun (x14:SL)=>(dA (.val zG2) (h12.cell ((h1.next,0).1,(h1.next,0).2+3)) fun (x15:SL)=>let x16:=!iA (Int.ofNat x14.len) (Int.ofNat x15.len);(bif x16 then some (false,h12)else(wC (gAh N rec25 N (some (h.next,0)) (some (h1.next,0)) false 0 h12) fun o32 (j33:zA1) h34=>(bif bD o32 (.exit 0) then some (true,h34)else some (j33.1,h34))))))))))))))))
def iB2:Ann:=(.two .n (.two .n (.two (.two .n (.two (.loop [(2,zF2),(3,zF2),(4,zI2),(5,zJ2)] [(.exit 0),.ret] [(4,zI2)] .n) .n)) .n)))
def jAv (N M:Nat):((zU→zU→Heap→Option (Bool×Heap))×Unit):=Nat.rec (fun _ _ _=>none,()) (fun _ r=>(jAq N r.1,())) M
def f25 (N M:Nat):zU→zU→Heap→Option (Bool×Heap):=(jAv N M).1
theorem aAm (N M a0 a1 h):f25 N (M+1) a0 a1 h=jAq N (f25 N M) a0 a1 h:=rfl
theorem eX (N:Nat):∀ M:Nat,(kC Tryz.prog 25 [zE,zE] (.val zI2) (fun x h=>f25 N M x.1 x.2.1 h))∧True
 | 0=>⟨(fun xs h r h' hx=>by cases hx),trivial⟩
 | M+1=>⟨fD (eA (fAh N) (eA (eX N M).1 nA)) N iB2 Tryz.f25,trivial⟩
theorem kAo (N:Nat):kC Tryz.prog 25 [zE,zE] (.val zI2) (fun x h=>f25 N N x.1 x.2.1 h):=(eX N N).1
def oZ (N:Nat) (go:zE2→Int→Int→Int→Heap→Option (Out×zC2×Heap)) (v4:zE2) (v6 v7 v8:Int) (h:Heap):Option (Out×zC2×Heap):=let x8:=ltInt v8 200;(bif x8 then(tA v4 fun q9=>(dA (.val zK2) (h.cell (q9.1,q9.2+2)) fun (x10:AV)=>(dA (.tup [zF2,zI2]) (vH E x10 127 true) fun (x11:zZ)=>let x12:=!x11.2.1;(bif x12 then some ((Out.exit 0),(v6,v7,()),h)else(bif x11.1.isNone then some ((Out.exit 0),(v6,v7,()),h)else(tA x11.1 fun q13=>(dA (.val zJ2) (h.cell (q13.1,q13.2+1)) fun (x14:Int)=>let x15:=bB .i64 (v8+1);go x11.1 v6 x14 x15 h)))))))else some ((Out.exit 0),(v6,v7,()),h))
def iAh (N M:Nat) (v4:zE2) (v6 v7 v8:Int) (h:Heap):Option (Out×zC2×Heap):=iter (fun go s h=>oZ N (fun v4 v6 v7 v8 h=>go (v4,v6,v7,v8,()) h) s.1 s.2.1 s.2.2.1 s.2.2.2.1 h) M (v4,v6,v7,v8,()) h
theorem jA7 (N M v4 v6 v7 v8 h):iAh N (M+1) v4 v6 v7 v8 h=oZ N (iAh N M) v4 v6 v7 v8 h:=rfl
def f29 (N:Nat) (a0:AV) (h:Heap):Option (zC2×Heap):=(dA (.val zI2) (kY E .eql 29 (.tmp 11) (.const .nilIface) a0 AV.nilIface) fun (x1:Bool)=>(bif x1 then some ((0,0,()),h)else(dA (.tup [zF2,zI2]) (vH E a0 127 true) fun (x2:zZ)=>let x3:=!x2.2.1;(bif x3 then some (((-1),0,()),h)else(bif x2.1.isNone then some (((-1),0,()),h)else(tA x2.1 fun q4=>(dA (.val zJ2) (h.cell (q4.1,q4.2+0)) fun (x5:Int)=>(tA x2.1 fun q6=>(dA (.val zJ2) (h.cell (q6.1,q6.2+1)) fun (x7:Int)=>(wC (iAh N N x2.1 x5 x7 0 h) fun _ (j17:zC2) h18=>some ((j17.1,j17.2.1,()),h18)))))))))))
def jB2:Ann:=(.two .n (.two .n (.two .n (.two .n (.two .n (.two (.two .n (.two (.loop [(4,zF2),(6,zJ2),(7,zJ2),(8,zJ2)] [(.exit 0)] [(6,zJ2),(7,zJ2)] .n) .n)) .n))))))
theorem kAv (N:Nat):kC Tryz.prog 29 [zK2] (.tup [zJ2,zJ2]) (fun x h=>f29 N x.1 h):=fD nA N jB2 Tryz.f29
def f18 (N:Nat) (a0:AV) (a1 a2:Int) (h:Heap):Option (Bool×Heap):=(kA (f29 N a0 h) fun (x1:zC2) h2=>let x3:=iA x1.1 a1;(bif x3 then let x4:=iA x1.2.1 a2;some (x4,h2)else some (false,h2)))
def kB2:Ann:=.n
theorem lAv (N:Nat):kC Tryz.prog 18 [zK2,zJ2,zJ2] (.val zI2) (fun x h=>f18 N x.1 x.2.1 x.2.2.1 h):=fD (eA (kAv N) nA) N kB2 Tryz.f18
def pZ (N:Nat) (go:zL2→Bool→Int→Heap→Option (Out×zA2×Heap)) (v0:zL2) (v2:Bool) (v3:Int) (h:Heap):Option (Out×zA2×Heap):=let x1:=bB .i64 (v3+1);let x2:=ltInt x1 (Int.ofNat v0.length);(bif x2 then let x3:=bB .i64 (v3+2);(dA (.val zH2) (rD E h 9 (.str v0) (some (.int .i64 v3)) (some (.int .i64 x3))) fun (x4:zL2)=>let x5:=aB x4 [58,58];(bif x5 then(dA (.val zH2) (rD E h 9 (.str v0) none (some (.int .i64 v3))) fun (x6:zL2)=>(kA (f46 N x6 h) fun (x7:Bool) h8=>(bif x7 then let x9:=bB .i64 (v3+2);(dA (.val zH2) (rD E h8 9 (.str v0) (some (.int .i64 x9)) none) fun (x10:zL2)=>(kA (f46 N x10 h8) fun (x11:Bool) h12=>some (Out.ret,(v0,x11,()),h12)))else some (Out.ret,(v0,false,()),h8))))else let x13:=bB .i64 (v3+1);go v0 v2 x13 h))else some ((Out.exit 0),(v0,v2,()),h))
def iAb (N M:Nat) (v0:zL2) (v2:Bool) (v3:Int) (h:Heap):Option (Out×zA2×Heap):=iter (fun go s h=>pZ N (fun v0 v2 v3 h=>go (v0,v2,v3,()) h) s.1 s.2.1 s.2.2.1 h) M (v0,v2,v3,()) h
theorem kA7 (N M v0 v2 v3 h):iAb N (M+1) v0 v2 v3 h=pZ N (iAb N M) v0 v2 v3 h:=rfl
def f51 (N:Nat) (a0:zL2) (h:Heap):Option (Bool×Heap):=(wC (iAb N N a0 false 0 h) fun o14 (j15:zA2) h16=>(bif bD o14 (.exit 0) then(kA (f46 N j15.1 h16) fun (x17:Bool) h18=>some (x17,h18))else some (j15.2.1,h16)))
def lB2:Ann:=(.two .n (.two (.two .n (.two (.loop [(0,zH2),(2,zI2),(3,zJ2)] [(.exit 0),.ret] [(0,zH2),(2,zI2)] .n) .n)) .n))
theorem lAo (N:Nat):kC Tryz.prog 51 [zH2] (.val zI2) (fun x h=>f51 N x.1 h):=fD (eA (yT N) nA) N lB2 Tryz.f51
def qZ (N:Nat) (go:SL→Bool→Int→Heap→Option (Out×zM1×Heap)) (v0:SL) (v2:Bool) (v3:Int) (h:Heap):Option (Out×zM1×Heap):=let x1:=ltInt v3 (Int.ofNat v0.len);(bif x1 then let x2:=ltInt v3 65;(bif x2 then(ixK v0.a v0.len v3 1 fun q3=>(dA (.val zH2) (h.cell q3) fun (x4:zL2)=>(kA (f68 N x4 h) fun (x5:Bool) h6=>let x7:=!x5;(bif x7 then some (Out.ret,(v0,false,()),h6)else let x8:=bB .i64 (v3+1);go v0 v2 x8 h6))))else some ((Out.exit 0),(v0,v2,()),h))else some ((Out.exit 0),(v0,v2,()),h))
def jAb (N M:Nat) (v0:SL) (v2:Bool) (v3:Int) (h:Heap):Option (Out×zM1×Heap):=iter (fun go s h=>qZ N (fun v0 v2 v3 h=>go (v0,v2,v3,()) h) s.1 s.2.1 s.2.2.1 h) M (v0,v2,v3,()) h
theorem lA7 (N M v0 v2 v3 h):jAb N (M+1) v0 v2 v3 h=qZ N (jAb N M) v0 v2 v3 h:=rfl
def f47 (N:Nat) (a0:SL) (h:Heap):Option (Bool×Heap):=(wC (jAb N N a0 false 0 h) fun o9 (j10:zM1) h11=>(bif bD o9 (.exit 0) then let x12:Bool:=wB (Int.ofNat j10.1.len) 64;some (x12,h11)else some (j10.2.1,h11)))
def mB2:Ann:=(.two .n (.two (.two .n (.two (.loop [(0,zG2),(2,zI2),(3,zJ2)] [(.exit 0),.ret] [(0,zG2),(2,zI2)] .n) .n)) .n))
theorem jAh (N:Nat):kC Tryz.prog 47 [zG2] (.val zI2) (fun x h=>f47 N x.1 h):=fD (eA (dAh N) nA) N mB2 Tryz.f47
def bAm (N:Nat) (rec21:zU→Int→Heap→Option (Bool×Heap)) (a0:zU) (a1:Int) (h:Heap):Option (Bool×Heap):=let h1:=h.push (.row (yRE a0) .own);let x2:=ltInt 64 a1;(bif x2 then some (false,h1)else(dA (.val zJ2) (h1.cell ((h.next,0).1,(h.next,0).2+0)) fun (x3:Int)=>(kA (α:=zK1) ( let x4:=iA x3 1;(bif x4 then some ((a1,(some (h.next,0)),x3,x4,()),h1)else let x5:=iA x3 2;some ((a1,(some (h.next,0)),x3,x5,()),h1))) fun (j6:zK1) h7=>(bif j6.2.2.2.1 then(tA j6.2.1 fun q8=>(dA (.val zH2) (h7.cell (q8.1,q8.2+1)) fun (x9:zL2)=>let x10:=aB x9 [];(bif x10 then(tA j6.2.1 fun q11=>(dA (.val zG2) (h7.cell (q11.1,q11.2+2)) fun (x12:SL)=>let x13:=iA (Int.ofNat x12.len) 0;(bif x13 then(tA j6.2.1 fun q14=>(dA (.val zG2) (h7.cell (q14.1,q14.2+3)) fun (x15:SL)=>let x16:=iA (Int.ofNat x15.len) 0;some (x16,h7)))else some (false,h7))))else some (false,h7))))else let x17:=iA j6.2.2.1 3;(bif x17 then(tA j6.2.1 fun q18=>(dA (.val zH2) (h7.cell (q18.1,q18.2+1)) fun (x19:zL2)=>(kA (f51 N x19 h7) fun (x20:Bool) h21=>(bif x20 then(tA j6.2.1 fun q22=>(dA (.val zG2) (h21.cell (q22.1,q22.2+2)) fun (x23:SL)=>(kA (f47 N x23 h21) fun (x24:Bool) h25=>(bif x24 then(tA j6.2.1 fun q26=>(dA (.val zG2) (h25.cell (q26.1,q26.2+3)) fun (x27:SL)=>let x28:=iA (Int.ofNat x27.len) 0;some (x28,h25)))else some (false,h25)))))else some (false,h21)))))else(kA (α:=zU1) ( let x29:=iA j6.2.2.1 4;(bif x29 then some ((j6.1,j6.2.1,x29,()),h7)else let x30:=iA j6.2.2.1 5
 some ((j6.1,j6.2.1,x30,()),h7))) fun (j31:zU1) h32=>(bif j31.2.2.1 then(tA j31.2.1 fun q33=>(dA (.val zH2) (h32.cell (q33.1,q33.2+1)) fun (x34:zL2)=>let x35:=aB x34 [];(bif x35 then(tA j31.2.1 fun q36=>(dA (.val zG2) (h32.cell (q36.1,q36.2+2)) fun (x37:SL)=>let x38:Bool:=wB (Int.ofNat x37.len) 1;(bif x38 then(tA j31.2.1 fun q39=>(dA (.val zG2) (h32.cell (q39.1,q39.2+2)) fun (x40:SL)=>(kA (f47 N x40 h32) fun (x41:Bool) h42=>(bif x41 then(tA j31.2.1 fun q43=>(dA (.val zG2) (h42.cell (q43.1,q43.2+3)) fun (x44:SL)=>let x45:=iA (Int.ofNat x44.len) 1;(bif x45 then(tA j31.2.1 fun q46=>(dA (.val zG2) (h42.cell (q46.1,q46.2+3)) fun (x47:SL)=>(ixK x47.a x47.len 0 4 fun q48=>(dA (.val zE) (h42.cells q48 4) fun (x49:zU)=>let x50:=bB .i64 (j31.1+1);(kA (rec21 (x49.1,x49.2.1,x49.2.2.1,x49.2.2.2.1,()) x50 h42) fun (x51:Bool) h52=>some (x51,h52))))))else some (false,h42))))else some (false,h42)))))else some (false,h32))))else some (false,h32))))else some (false,h32))))))))
def nB2:Ann:=(.two .n (.two .n (.two (.two .n (.two (.two (.join [(1,zJ2),(2,zF2),(8,zJ2),(9,zI2)] .n) (.two .n (.two .n (.two .n (.two (.join [(1,zJ2),(2,zF2),(43,zI2)] .n) .n))))) .n)) .n)))
def mAv (N M:Nat):((zU→Int→Heap→Option (Bool×Heap))×Unit):=Nat.rec (fun _ _ _=>none,()) (fun _ r=>(bAm N r.1,())) M
def f21 (N M:Nat):zU→Int→Heap→Option (Bool×Heap):=(mAv N M).1
theorem kAb (N M a0 a1 h):f21 N (M+1) a0 a1 h=bAm N (f21 N M) a0 a1 h:=rfl
theorem fX (N:Nat):∀ M:Nat,(kC Tryz.prog 21 [zE,zJ2] (.val zI2) (fun x h=>f21 N M x.1 x.2.1 h))∧True
 | 0=>⟨(fun xs h r h' hx=>by cases hx),trivial⟩
 | M+1=>⟨fD (eA (lAo N) (eA (jAh N) (eA (fX N M).1 nA))) N nB2 Tryz.f21,trivial⟩
theorem kAh (N:Nat):kC Tryz.prog 21 [zE,zJ2] (.val zI2) (fun x h=>f21 N N x.1 x.2.1 h):=(fX N N).1
end
end Qp
namespace Qp
abbrev Bs:=zL2
theorem jC {β:Type} (k:Option β):wD true k=k:=rfl
theorem oB2:E.und 9=some .string:=by kernel_rfl
theorem aU {β:Type} {s:Bs} {i:Nat} (hi:i<s.length) (K:Int→Option β):pAk s (i:Int) K=K ((s[i]).toNat:Int):=by
 show (match (Int.ofNat i) with | .ofNat j=>(match s[j]? with | some b=>K b.toNat | none=>none) | .negSucc _=>none)=_;simp only [List.getElem?_eq_getElem hi]
theorem tG {i hi d:Nat} (h:i≤hi):qD (some (.int .i64 (i:Int))) hi d=some i:=by
 have:Nat.ble i hi=true:=by simpa using h
 have e:eM (.int .i64 (i:Int))=some i:=rfl;simp only [qD,e,this,cond_true]
theorem lAb {h:Heap} {s:Bs} {i j:Nat} (h1:i≤j) (h2:j≤s.length):rD E h 9 (.str s) (some (.int .i64 (i:Int))) (some (.int .i64 (j:Int)))=some (.str ((s.take j).drop i)):=by
 simp only [rD,oB2,tG h2,tG h1]
theorem aAe {h:Heap} {s:Bs} {i:Nat} (h1:i≤s.length):rD E h 9 (.str s) (some (.int .i64 (i:Int))) none=some (.str (s.drop i)):=by
 have e:qD none s.length s.length=some s.length:=rfl;simp only [rD,oB2,e,tG h1,List.take_length]
theorem gX {h:Heap} {s:Bs} {j:Nat} (h2:j≤s.length):rD E h 9 (.str s) none (some (.int .i64 (j:Int)))=some (.str (s.take j)):=by
 have e:qD none j 0=some 0:=rfl;simp only [rD,oB2,tG h2,e,List.drop_zero]
theorem vF (a b:Nat):ltInt (a:Int) (Int.ofNat b)=decide (a<b):=by
 rw [cA4];by_cases h:a<b <;> simp [h] <;> omega
theorem aC (a b:Nat):ltInt (a:Int) (b:Int)=decide (a<b):=vF a b
theorem eB {i:Nat} (h:i≤4000000000):bB .i64 ((i:Int)+1)=((i+1:Nat):Int):=by rw [lD (by omega) (by omega)];rfl
theorem eqI (a b:Int):iA a b=decide (a=b):=pAg a b
theorem leI (a b:Int):wB a b=decide (a≤b):=oAg a b
theorem ltI (a b:Int):ltInt a b=decide (a<b):=cA4 a b
def yE (c:UInt8):Bool:=decide (97≤c.toNat∧c.toNat≤122)||decide (65≤c.toNat∧c.toNat≤90)||decide (c.toNat=95)
def bU (c:UInt8):Bool:=decide (48≤c.toNat∧c.toNat≤57)
def mA7 (c:UInt8):Bool:=yE c||bU c
theorem lAh (N:Nat) (c:UInt8) (h:Heap):f170 N (c.toNat:Int) h=some (yE c,h):=by
 unfold f170 yE;simp only [leI,eqI];have a1:decide ((97:Int)≤(c.toNat:Int))=decide (97≤c.toNat):=by by_cases q:97≤c.toNat <;> simp [q] <;> omega
 have a2:decide ((c.toNat:Int)≤122)=decide (c.toNat≤122):=by by_cases q:c.toNat≤122 <;> simp [q] <;> omega
 have a3:decide ((65:Int)≤(c.toNat:Int))=decide (65≤c.toNat):=by by_cases q:65≤c.toNat <;> simp [q] <;> omega
 have a4:decide ((c.toNat:Int)≤90)=decide (c.toNat≤90):=by by_cases q:c.toNat≤90 <;> simp [q] <;> omega
 have a5:decide ((c.toNat:Int)=95)=decide (c.toNat=95):=by by_cases q:c.toNat=95 <;> simp [q] <;> omega
 rw [a1,a2,a3,a4,a5]
 by_cases q1:97≤c.toNat <;> by_cases q2:c.toNat≤122 <;> by_cases q3:65≤c.toNat <;> by_cases q4:c.toNat≤90 <;> by_cases q5:c.toNat=95 <;> simp [q1,q2,q3,q4,q5]
theorem mAo (N:Nat) (c:UInt8) (h:Heap):f65 N (c.toNat:Int) h=some (yE c,h):=by
 unfold f65 yE;simp only [leI,eqI];have a1:decide ((97:Int)≤(c.toNat:Int))=decide (97≤c.toNat):=by by_cases q:97≤c.toNat <;> simp [q] <;> omega
 have a2:decide ((c.toNat:Int)≤122)=decide (c.toNat≤122):=by by_cases q:c.toNat≤122 <;> simp [q] <;> omega
 have a3:decide ((65:Int)≤(c.toNat:Int))=decide (65≤c.toNat):=by by_cases q:65≤c.toNat <;> simp [q] <;> omega
 have a4:decide ((c.toNat:Int)≤90)=decide (c.toNat≤90):=by by_cases q:c.toNat≤90 <;> simp [q] <;> omega
 have a5:decide ((c.toNat:Int)=95)=decide (c.toNat=95):=by by_cases q:c.toNat=95 <;> simp [q] <;> omega
 rw [a1,a2,a3,a4,a5]
 by_cases q1:97≤c.toNat <;> by_cases q2:c.toNat≤122 <;> by_cases q3:65≤c.toNat <;> by_cases q4:c.toNat≤90 <;> by_cases q5:c.toNat=95 <;> simp [q1,q2,q3,q4,q5]
theorem nAv (N:Nat) (c:UInt8) (h:Heap):f69 N (c.toNat:Int) h=some (bU c,h):=by
 unfold f69 bU;simp only [leI];have a1:decide ((48:Int)≤(c.toNat:Int))=decide (48≤c.toNat):=by by_cases q:48≤c.toNat <;> simp [q] <;> omega
 have a2:decide ((c.toNat:Int)≤57)=decide (c.toNat≤57):=by by_cases q:c.toNat≤57 <;> simp [q] <;> omega
 rw [a1,a2]
 by_cases q1:48≤c.toNat <;> by_cases q2:c.toNat≤57 <;> simp [q1,q2]
theorem kAq (N:Nat) (c:UInt8) (h:Heap):f195 N (c.toNat:Int) h=some (mA7 c,h):=by
 unfold f195;rw [lAh,aA];unfold mA7 bU;simp only [leI];have a1:decide ((48:Int)≤(c.toNat:Int))=decide (48≤c.toNat):=by by_cases q:48≤c.toNat <;> simp [q] <;> omega
 have a2:decide ((c.toNat:Int)≤57)=decide (c.toNat≤57):=by by_cases q:c.toNat≤57 <;> simp [q] <;> omega
 rw [a1,a2];cases yE c <;> by_cases q1:48≤c.toNat <;> by_cases q2:c.toNat≤57 <;> simp [q1,q2]
def runN:Bs→Nat
 | []=>0
 | c::r=>if mA7 c then runN r+1 else 0
theorem drop_cons {s:Bs} {i:Nat} (h:i<s.length):s.drop i=s[i]::s.drop (i+1):=List.drop_eq_getElem_cons h
theorem cAm {N:Nat} {s:Bs} (hs:s.length≤3000000) (h:Heap):∀ (M i:Nat),i≤s.length→s.length-i<M→jZ N M s (i:Int) h=some (.exit 0,(((i+runN (s.drop i):Nat):Int),()),h):=by
 intro M
 induction M with
 | zero=>intro i _ h;omega
 | succ M ih=>
  intro i hi hM;rw [gA4];unfold wT;simp only [vF]
  by_cases q:i<s.length
  ·simp only [q,decide_true,cond_true]
   rw [aU q,kAq,aA,eB (by omega),drop_cons q];simp only [runN]
   cases hg:mA7 s[i] with
   | true=>
    simp only [cond_true,if_true];rw [ih (i+1) q (by omega)];simp only [Nat.add_assoc,Nat.add_comm 1]
   | false=>simp
  ·simp only [q,decide_false,cond_false]
   rw [List.drop_of_length_le (by omega)];rfl
theorem lAq {N:Nat} {s:Bs} (hs:s.length≤3000000) (hN:s.length<N) {i:Nat} (hi:i≤s.length) (h:Heap):f171 N s (i:Int) h=some (((i+runN (s.drop i):Nat):Int),h):=by
 unfold f171;rw [cAm hs h N i hi (by omega)];rfl
theorem mAh {N:Nat} {s:Bs} (hs:s.length≤3000000) (h:Heap):∀ (M i:Nat),i≤s.length→s.length-i<M→fAb N M s (i:Int) h=some (.exit 0,(((i+runN (s.drop i):Nat):Int),()),h):=by
 intro M
 induction M with
 | zero=>intro i _ h;omega
 | succ M ih=>
  intro i hi hM;rw [eA7];unfold kZ;simp only [vF]
  by_cases q:i<s.length
  ·simp only [q,decide_true,cond_true]
   rw [aU q,mAo,aA,eB (by omega),aU q,nAv,aA,drop_cons q];have hI:=ih (i+1) q (by omega);have hgo:mA7 s[i]=(yE s[i]||bU s[i]):=rfl
   cases hg:yE s[i] with
   | true=>
    rw [hg,Bool.true_or] at hgo;simp only [runN,hgo,cond_true,if_true];rw [hI];simp only [Nat.add_assoc,Nat.add_comm 1]
   | false=>
    cases hd:bU s[i] with
    | true=>
     rw [hd,Bool.or_true] at hgo;simp only [runN,hgo,cond_true,cond_false,if_true];rw [hI];simp only [Nat.add_assoc,Nat.add_comm 1]
    | false=>
     rw [hg,hd] at hgo;simp only [runN,hgo,cond_false];simp
  ·simp only [q,decide_false,cond_false]
   rw [List.drop_of_length_le (by omega)];rfl
theorem oAv {N:Nat} {s:Bs} (hs:s.length≤3000000) (hN:s.length<N) {i:Nat} (hi:i≤s.length) (h:Heap):f66 N s (i:Int) h=some (((i+runN (s.drop i):Nat):Int),h):=by
 unfold f66;rw [mAh hs h N i hi (by omega)];rfl
def iA4:List Bs:=[[102,110],[115,116,114,117,99,116],[112,117,98],[108,101,116],[109,117,116],[105,102],[101,108,115,101],[119,104,105,108,101],[108,111,111,112],[98,114,101,97,107],[99,111,110,116,105,110,117,101],[114,101,116,117,114,110],[100,114,111,112],[116,114,117,101],[102,97,108,115,101],[105,110,116],[98,111,111,108]]
def nA7 (t:Bs):List Bs→Bool
 | []=>false
 | w::r=>bif aB t w then true else nA7 t r
def isWord (t:Bs):Bool:=nA7 t iA4
theorem nAh (N:Nat) (t:Bs) (h:Heap):f172 N t h=some (isWord t,h):=by
 unfold f172 isWord iA4;simp only [nA7]
 repeat' (first | rfl | (generalize aB t _=b;cases b <;> simp only [cond_true,cond_false]))
theorem jA4 (a b:Bs):aB a b=aB b a:=by
 rw [fE,fE]
 by_cases q:a=b
 ·subst q;rfl
 ·have q':¬ b=a:=fun e=>q e.symm
  rw [beq_eq_false_iff_ne.2 q,beq_eq_false_iff_ne.2 q']
theorem bAe {N:Nat} {t:Bs} {h:Heap} {A:Nat} {l:List Bs} (hg:h.is A (l.map AV.str)) (hl:l.length≤1000):∀ (M i:Nat),i≤l.length→l.length-i<M→
  gAb N M t false ⟨some (A,0),l.length,l.length,1⟩ (i:Int) h=bif nA7 t (l.drop i) then some (.ret,(true,()),h) else some (.exit 0,(false,()),h):=by
 intro M
 induction M with
 | zero=>intro i _ h;omega
 | succ M ih=>
  intro i hi hM;rw [fA7];unfold lZ;simp only [vF]
  by_cases q:i<l.length
  ·simp only [q,decide_true,cond_true]
   have e:=iAo (β:=Out×zA1×Heap) (A,0) l.length i 1;rw [show ((i:Nat):Int)=Int.ofNat i from rfl,iAo _ _ _ _ _ q];simp only [Nat.zero_add,Nat.mul_one];have hc:=hg.cell i;rw [List.drop_eq_getElem_cons (by simpa using q)] at hc;simp only [List.head?_cons,List.getElem_map] at hc;rw [hc];simp only [bA,qA];rw [List.drop_eq_getElem_cons q];simp only [nA7,jA4 t]
   cases hq:aB l[i] t with
   | true=>simp
   | false=>
    simp only [cond_false];rw [show Int.ofNat i=(i:Int) from rfl,eB (by omega)];exact ih (i+1) q (by omega)
  ·simp only [q,decide_false,cond_false]
   rw [List.drop_of_length_le (by omega)];rfl
theorem pAv {N:Nat} (hN:20≤N) (t:Bs) (h:Heap):f67 N t h=some (isWord t,h.push (.row (iA4.map AV.str) .own)):=by
 unfold f67
 have:=bAe (N:=N) (t:=t) (Heap.is_push h (iA4.map AV.str)) (by decide) N 0 (Nat.zero_le _) (by show 17-0<N;omega)
 have e:(h.push (.row (iA4.map AV.str) .own))=h.push (.row [(.str [102,110]),(.str [115,116,114,117,99,116]),(.str [112,117,98]),(.str [108,101,116]),(.str [109,117,116]),(.str [105,102]),(.str [101,108,115,101]),(.str [119,104,105,108,101]),(.str [108,111,111,112]),(.str [98,114,101,97,107]),(.str [99,111,110,116,105,110,117,101]),(.str [114,101,116,117,114,110]),(.str [100,114,111,112]),(.str [116,114,117,101]),(.str [102,97,108,115,101]),(.str [105,110,116]),(.str [98,111,111,108])] .own):=rfl;rw [← e];dsimp only;rw [show (⟨some (h.next,0),17,17,1⟩:SL)=⟨some (h.next,0),iA4.length,iA4.length,1⟩ from rfl,show (0:Int)=((0:Nat):Int) from rfl,this,List.drop_zero];unfold isWord;cases nA7 t iA4 <;> rfl
end Qp
namespace Qp
end Qp
namespace Qp
theorem sub_eq (s:Bs) (i n:Nat):(s.take (i+n)).drop i=(s.drop i).take n:=by rw [List.drop_take];congr 1;omega
def dAm (p:UInt8→Bool):Bs→Bool
 | []=>false
 | c::_=>p c
def qE (t:Bs):Bool:=decide (1≤t.length)&&decide (t.length≤32)&&dAm yE t&&decide (runN t=t.length)
def yC (t:Bs):Bool:=qE t&&!isWord t
theorem qAv {N:Nat} {t:Bs} (ht:t.length≤3000000) (hN:t.length<N) (h:Heap):f68 N t h=some (qE t,h):=by
 unfold f68;have e1:wB 1 (Int.ofNat t.length)=decide (1≤t.length):=by
  rw [leI];by_cases q:1≤t.length <;> simp [q] <;> omega
 have e2:wB (Int.ofNat t.length) 32=decide (t.length≤32):=by
  rw [leI];by_cases q:t.length≤32 <;> simp [q] <;> omega
 simp only [e1,e2]
 by_cases q1:1≤t.length
 ·by_cases q2:t.length≤32
  ·simp only [q1,q2,decide_true,cond_true]
   have h0:0<t.length:=q1;rw [show (0:Int)=((0:Nat):Int) from rfl,aU h0,mAo,aA]
   cases t with
   | nil=>simp at h0
   | cons c r=>
    simp only [List.getElem_cons_zero]
    cases hl:yE c with
    | false=>simp [qE,dAm,hl]
    | true=>
     simp only [cond_true];rw [oAv ht hN (Nat.zero_le _),aA];simp only [Nat.zero_add,List.drop_zero];have e3:iA ((runN (c::r):Nat):Int) (Int.ofNat (c::r).length)=decide (runN (c::r)=(c::r).length):=by
      rw [eqI];by_cases q:runN (c::r)=(c::r).length
      ·simp only [q,decide_true];simp
      ·simp only [q,decide_false];simp;simp at q;omega
     rw [e3];simp only [qE,dAm,hl,q1,q2,decide_true,Bool.true_and]
  ·simp only [q1,q2,decide_true,decide_false,cond_true,cond_false,qE,Bool.true_and,Bool.false_and]
 ·simp only [q1,decide_false,cond_false,qE,Bool.false_and]
def kB5:Bs→Nat→Nat
 | [],v=>v
 | c::r,v=>kB5 r (v * 10+(c.toNat-48))
def pB2 (t:Bs):Bool:=t.all bU&&Nat.ble (kB5 t 0) 2147483647&&!(decide (1<t.length)&&dAm (fun c=>decide (c.toNat=48)) t)
section
variable {N:Nat} {s:Bs} (hs:s.length≤3000000) (hN:s.length<N) {i:Nat}
include hs hN
end
end Qp
namespace Qp
def two:List Bs:=[[58,58],[45,62],[61,61]]
def fB6:Bs:=[40,41,123,125,60,62,44,59,58,46,42,38,43,45,61,33]
def lB5 (c:UInt8):Bs→Bool
 | []=>false
 | x::r=>bif Nat.beq x.toNat c.toNat then true else lB5 c r
section
variable {N:Nat} {s:Bs}
end
end Qp
namespace Qp
theorem kA4 (a b:Nat):wB (a:Int) (b:Int)=decide (a≤b):=by
 rw [leI];by_cases q:a≤b <;> simp [q] <;> omega
section
variable {N:Nat} {s:Bs}
end
end Qp
namespace Qp
abbrev Tok:=Int×Bs×Nat
def mB5 (q:Tok):D:=.t [.i q.1,.s q.2.1,.i (q.2.2:Int)]
def FaultAt (h:Heap) (v:AV) (c a:Int):Prop:=∃ A,v=AV.iface 127 (.ptr (some (A,0)))∧h.own A [.int .i64 c,.int .i64 a,AV.iface 78 (.int .i64 c)]
theorem FaultAt.chg {h h':Heap} {v:AV} {c a:Int} (x:FaultAt h v c a) (y:Chg [] h h'):FaultAt h' v c a:=by
 obtain ⟨A,h1,h2⟩:=x;exact ⟨A,h1,h2.chg y (by simp)⟩
theorem mAq (N:Nat) {c:Int} (hc:c≠0) (a:Int) (h:Heap):∃ v h',f37 N c a h=some (v,h')∧Chg [] h h'∧FaultAt h' v c a:=by
 unfold f37
 have:iA c 0=false:=by rw [eqI];simpa using hc
 simp only [this,cond_false];exact ⟨_,_,rfl,uA _ _,h.next,rfl,vA h _⟩
section
variable {N:Nat} {s:Bs}
end
end Qp
namespace Qp
section
variable {s:Bs} {i:Nat}
end
end Qp
namespace Qp
section
variable {N:Nat} {s:Bs}
end
end Qp
namespace Qp
def rAv (x:Bs):Bool:=(match x with | [c]=>lB5 c fB6 | _=>false)||nA7 x two
structure TokOK (q:Tok):Prop where
 word:q.1=2→isWord q.2.1=true
 sign:q.1=5→rAv q.2.1=true
 len:q.2.1.length≤3000000
 num:q.1=4→pB2 q.2.1=true∧0<q.2.1.length
 name:q.1=1→yC q.2.1=true
 life:q.1=3→qE q.2.1=true
structure Toks (T:List Tok):Prop where
 ok:∀ q∈T,TokOK q
 ends:∀ (i:Nat) (hi:i<T.length),(T[i]).1≠0→i+1<T.length
 len:T.length≤2000000
def tk (T:List Tok) (i:Nat):Tok:=T.getD i (0,[],0)
abbrev Er:=Option (Int×Int)
abbrev St:=Nat×Er
def isS (T:List Tok) (w:Bs) (i:Nat):Bool:=decide ((tk T i).1=2∨(tk T i).1=5)&&aB (tk T i).2.1 w
def gB6 (h:Heap) (P:Nat) (X:List Nat) (v:AV):Er→Prop
 | none=>v=AV.nilIface
 | some (c,a)=>∃ A,v=AV.iface 127 (.ptr (some (A,0)))∧(A≠P∧A ∉ X)∧h.own A [.int .i64 c,.int .i64 a,AV.iface 78 (.int .i64 c)]
structure PA (T:List Tok) (P:Nat) (X:List Nat) (h:Heap) (σ:St) (st:Int):Prop where
 ex:∃ s v,h.own P [SL.av s,.int .i64 (σ.1:Int),.int .i64 st,v]∧Sl h (fun C=>C<P) s (T.map mB5)∧(s.sz=3)∧gB6 h P X v σ.2
 lt:σ.1<T.length
 xl:∀ A∈X,P<A∧A<h.next
section
variable {T:List Tok} {P:Nat} {X:List Nat} {h h':Heap} {σ:St} {st:Int}
end
theorem eq_nil (k:Nat):kY E .eql 29 (.tmp k) (.const .nilIface) AV.nilIface AV.nilIface=some (.bool true):=by kernel_rfl
theorem eAm (k:Nat) (v:AV):kY E .eql 29 (.tmp k) (.const .nilIface) (AV.iface 127 v) AV.nilIface=some (.bool false):=by kernel_rfl
theorem ne_nil (k:Nat):kY E .neq 29 (.tmp k) (.const .nilIface) AV.nilIface AV.nilIface=some (.bool false):=by kernel_rfl
theorem rZ (k:Nat) (v:AV):kY E .neq 29 (.tmp k) (.const .nilIface) (AV.iface 127 v) AV.nilIface=some (.bool true):=by kernel_rfl
section
variable {N:Nat} {T:List Tok} {P:Nat} {X:List Nat} {h:Heap} {σ:St} {st:Int}
end
end Qp
namespace Qp
theorem eqB {a b:Bs}:aB a b=true↔a=b:=by rw [fE,beq_iff_eq]
section
variable {N:Nat} {T:List Tok} {P:Nat} {X:List Nat} {h:Heap} {σ:St} {st:Int}
theorem tB {a b:Bs} (h:a.length+b.length≤1099511627776):nB .add a b=some (.str (a++b)):=by
 have:Nat.ble (a.length+b.length) 1099511627776=true:=by rw [Nat.ble_eq];exact h
 simp only [nB,this,cond_true]
end
end Qp
namespace Qp
theorem tAv:AppN E 38 9 1 100:=AppN.of (by kernel_rfl)
theorem mAb (h:Heap) (V:Nat→Prop) (x:Bs):Dt h V (.s x) [.str x]:=by simp only [Dt]
section
variable {N:Nat} {T:List Tok} {P:Nat} {X:List Nat} {st:Int}
end
end Qp
namespace Qp
abbrev TyV:=Int×zL2×SL×SL×Unit
abbrev sl0:SL:=⟨none,0,0,0⟩
def tyc (r:TyV):List AV:=[.int .i64 r.1,.str r.2.1,SL.av r.2.2.1,SL.av r.2.2.2.1]
def tyD (k:Int) (x:Bs) (lv:List Bs) (el:List D):D:=.t [.i k,.s x,.l (lv.map D.s),.l el]
theorem jG {h:Heap} {V:Nat→Prop} {k:Int} {x:Bs} {lv:List Bs} {el:List D} {cs:List AV}:Dt h V (tyD k x lv el) cs↔∃ s1 s2,cs=tyc (k,x,s1,s2,())∧Sl h V s1 (lv.map D.s)∧Sl h V s2 el:=by
 simp only [tyD,Dt,Dp];constructor
 ·rintro ⟨a,b,rfl,rfl,a2,b2,rfl,rfl,a3,b3,rfl,⟨s1,v1,rfl,p1,p2,p3,p4,p5⟩,a4,b4,rfl,⟨s2,v2,rfl,q1,q2,q3,q4,q5⟩,rfl⟩
  exact ⟨s1,s2,rfl,⟨p1,p2,p3,v1,p4,p5⟩,⟨q1,q2,q3,v2,q4,q5⟩⟩
 ·rintro ⟨s1,s2,rfl,⟨p1,p2,p3,v1,p4,p5⟩,⟨q1,q2,q3,v2,q4,q5⟩⟩
  exact ⟨[_],_,rfl,rfl,[_],_,rfl,rfl,[_],_,rfl,⟨s1,v1,rfl,p1,p2,p3,p4,p5⟩,[_],[],rfl,⟨s2,v2,rfl,q1,q2,q3,q4,q5⟩,rfl⟩
theorem oAh (h:Heap) (V:Nat→Prop) (k:Int) (x:Bs):Dt h V (tyD k x [] []) (tyc (k,x,sl0,sl0,())):=jG.2 ⟨sl0,sl0,rfl,Sl.nil _ _ _,Sl.nil _ _ _⟩
theorem yR {β:Type} (r:TyV) (K:TyV→Option β):dA (.val zE) (some (.agg (tyc r))) K=K r:=by
 obtain ⟨k,x,s1,s2,_⟩:=r;simp [tyc,SL.av]
section
variable {N:Nat} {T:List Tok} {P:Nat} {X:List Nat} {st:Int} {h:Heap} {σ:St}
end
end Qp
namespace Qp
abbrev zt:List AV:=tyc (0,[],sl0,sl0,())
section
variable {N:Nat} {T:List Tok} {P:Nat} {st:Int}
end
end Qp
namespace Qp
structure PB (T:List Tok) (P:Nat) (h:Heap) (σ:St) (it st:Int):Prop where
 ex:∃ s c a,h.own P [SL.av s,.int .i64 (σ.1:Int),.int .i64 c,.int .i64 a,.int .i64 it,.int .i64 st]∧Sl h (fun C=>C<P) s (T.map mB5)∧(s.sz=3)∧(match σ.2 with
  | none=>c=0
  | some (c',a')=>c=c'∧a=a'∧c'≠0)
 lt:σ.1<T.length
section
variable {N:Nat} {T:List Tok} {P:Nat} {h h':Heap} {σ:St} {it st:Int}
end
end Qp
namespace Qp
section
variable {N:Nat} {T:List Tok} {P:Nat} {h h':Heap} {σ:St} {it st:Int}
end
end Qp
namespace Qp
section
variable {N:Nat} {T:List Tok} {P:Nat} {it st:Int} {h:Heap} {σ:St}
end
end Qp
namespace Qp
def iB6 (h:Heap) (v:AV):Er→Prop
 | none=>v=AV.nilIface
 | some (c,a)=>FaultAt h v c a
section
variable {N:Nat} {s:Bs}
end
end Qp
namespace Qp
def jB6 (r:Int×Int×Unit):Er→Prop
 | none=>r.1=0∧r.2.1=0
 | some (c,a)=>r.1=c∧r.2.1=a
section
variable {N:Nat} {s:Bs}
end
end Qp
namespace Qp
def isTy:Nat→D→Prop
 | 0,_=>False
 | m+1,d=>∃ k x lv el,d=tyD k x lv el∧lv.length≤1000∧el.length≤1000∧∀ e∈el,isTy m e
theorem isTy.up:∀ {m:Nat} {d:D},isTy m d→∀ {m':Nat},m≤m'→isTy m' d
 | m+1,d,⟨k,x,lv,el,h1,h2,h3,h4⟩,m'+1,hm=>⟨k,x,lv,el,h1,h2,h3,fun e he=>(h4 e he).up (Nat.le_of_succ_le_succ hm)⟩
section
variable {N:Nat} {h h':Heap} {V W:Nat→Prop}
theorem gK {s:SL} {xs:List Bs} (x:Sl h V s (xs.map D.s)) {i:Nat} (hi:i<xs.length):h.cell (s.at i 1)=some (.str xs[i]):=by
 obtain ⟨cs,e⟩:=x.elt (i:=i) (by rw [List.length_map];exact hi);have hd:=e.dt;rw [List.getElem_map] at hd;simp only [Dt] at hd;have hl:=e.len;rw [hd] at hl;have hz:s.sz=1:=by simpa using hl.symm
 have:=e.cell 0 (by omega)
 rw [hz,hd] at this;simpa using this
theorem fAm {β:Type} (p:zE2) (K:zZ→Option β):dA (.tup [zF2,zI2]) (vH E (.iface 127 (.ptr p)) 127 true) K=K (p,true,()):=by
 have:vH E (.iface 127 (.ptr p)) 127 true=some (oA2 true (.ptr p)):=by kernel_rfl
 rw [this];rfl
theorem gAm {β:Type} (c:Int) (K:zZ→Option β):dA (.tup [zF2,zI2]) (vH E (.iface 78 (.int .i64 c)) 127 true) K=K (none,false,()):=by
 have:vH E (.iface 78 (.int .i64 c)) 127 true=vP E 127 true:=by kernel_rfl
 rw [this]
 have:vP E 127 true=some (.tuple [.ptr none,.bool false]):=by kernel_rfl
 rw [this];rfl
theorem uAv {v:AV} {e:Er} (x:iB6 h v e) {r:Int×Int×Unit} (y:jB6 r e) (hN:10≤N):f18 N v r.1 r.2.1 h=some (true,h):=by
 unfold f18 f29
 cases e with
 | none=>
  rw [show v=AV.nilIface from x,eq_nil,y.1,y.2];rfl
 | some q=>
  obtain ⟨c,a⟩:=q;obtain ⟨F,f1,f2⟩:=x;obtain ⟨y1,y2⟩:=y;rw [f1,eAm];simp only [bA,kB,cond_false];rw [fAm];have k0:h.cell (F,0)=some (.int .i64 c):=f2.cell 0;have k1:h.cell (F,1)=some (.int .i64 a):=f2.cell 1;have k2:h.cell (F,2)=some (AV.iface 78 (.int .i64 c)):=f2.cell 2;simp only [Bool.not_true,cond_false,Option.isNone_some,fA,Nat.add_zero,Nat.zero_add,k0,k1,bA,fB];obtain ⟨N,rfl⟩:∃ m,N=m+1:=⟨N-1,by omega⟩;rw [jA7];unfold oZ;rw [show ltInt 0 200=true from rfl];simp only [cond_true,fA,Nat.zero_add,k2,bA,vAl];rw [gAm];simp only [Bool.not_false,cond_true,mB,aA];have z1:iA c r.1=true:=by rw [y1,eqI];simp
  have z2:iA a r.2.1=true:=by rw [y2,eqI];simp
  simp only [z1,z2,cond_true]
end
end Qp
namespace Qp
end Qp
namespace Qz
open Qa
end Qz
namespace Qw
open Go.RowKit Go.Stop
open Ai Qa
def kB6:Ai.Loc:=⟨3,0,1,false⟩
def sen:AV:=.iface 275 (.ptr (some (3,0)))
def pinned (h:Heap):Bool:=Qx.pinned h&&iZ 2 kB6 h.pins&&yAd (h.t.get 2) [sen]
end Qw
namespace Qp
end Qp
namespace Qp
end Qp
namespace Qp
structure PC (T:List Tok) (P:Nat) (X:List Nat) (h:Heap) (σ:St) (st:Int):Prop where
 pa:PA T P X h σ st
 pin:Qw.pinned h=true
 p4:4≤P
section
variable {N:Nat} {T:List Tok} {P:Nat} {X X':List Nat} {h h':Heap} {σ σ':St} {st st':Int}
end
end Qp
namespace Qp
abbrev FdV:=Bool×zL2×Int×zL2×SL×SL×Unit
def fdc (x:FdV):List AV:=[.bool x.1,.str x.2.1,.int .i64 x.2.2.1,.str x.2.2.2.1,SL.av x.2.2.2.2.1,SL.av x.2.2.2.2.2.1]
abbrev fd0:FdV:=(false,[],0,[],sl0,sl0,())
def nB5 (m:Bool) (nm:Bs) (r:TyV):FdV:=(m,nm,r.1,r.2.1,r.2.2.1,r.2.2.2.1,())
theorem qB2 {β:Type} (r:FdV) (K:FdV→Option β):dA (.val zM) (some (.agg (fdc r))) K=K r:=by
 obtain ⟨m,n,k,x,s1,s2,_⟩:=r;simp [fdc,SL.av]
def fdD (m:Bool) (nm:Bs) (ty:D):D:=.t [.b m,.s nm,ty]
theorem rB2 (h:Heap) (V:Nat→Prop) (x:Bool):Dt h V (.b x) [.bool x]:=by simp only [Dt]
theorem nAq (h:Heap) (V:Nat→Prop) (x:Int):Dt h V (.i x) [.int .i64 x]:=by simp only [Dt]
theorem pAh (h:Heap) (V:Nat→Prop):Dp h V [] []:=by simp only [Dp]
theorem pF {h:Heap} {V:Nat→Prop} {d:D} {r:List D} {a b:List AV} (x:Dt h V d a) (y:Dp h V r b):Dp h V (d::r) (a++b):=by
 simp only [Dp];exact ⟨a,b,rfl,x,y⟩
theorem vAv {h:Heap} {V:Nat→Prop} {ds:List D} {cs:List AV} (x:Dp h V ds cs):Dt h V (.t ds) cs:=by simp only [Dt];exact x
section
variable {N:Nat} {T:List Tok} {P:Nat} {X:List Nat} {st:Int} {h:Heap} {σ:St}
end
end Qp
namespace Qp
structure CF (P:Nat) (X:List Nat) (h0:Heap) (O Q n j:Nat) (row:SL→List AV):Prop where
 o:P<O∧O<h0.next
 q:Q≠P∧Q≠O∧Q<h0.next
 x:O∈X
 rj:∀ v,(row v)[j]? = some (SL.av v)
 rs:∀ v v',(row v).set j (SL.av v')=row v'
structure CI (T:List Tok) (P:Nat) (X:List Nat) (st:Int) (h0:Heap) (O Q n:Nat) (row:SL→List AV) (h:Heap) (xs:List D) (σ:St):Prop where
 pc:PC T P X h σ st
 chg:Chg [P,O] h0 h
 q:h.own Q [.ptr (some (P,0))]
 ex:∃ v,h.own O (row v)∧Ow h0.next h v n xs
section
variable {T:List Tok} {P:Nat} {X:List Nat} {st:Int} {h0 h h' h6:Heap} {O Q n j:Nat} {row:SL→List AV} {xs:List D} {σ σ':St}
end
abbrev StV:=Bool×zL2×SL×SL×Int×Unit
def stc (x:StV):List AV:=[.bool x.1,.str x.2.1,SL.av x.2.2.1,SL.av x.2.2.2.1,.int .i64 x.2.2.2.2.1]
abbrev st0:StV:=(false,[],sl0,sl0,0,())
theorem wAv {β:Type} (r:StV) (K:StV→Option β):dA (.val zK) (some (.agg (stc r))) K=K r:=by
 obtain ⟨m,n,s1,s2,k,_⟩:=r;simp [stc,SL.av]
def iAm (pub:Bool) (nm:Bs) (lv:List Bs) (fs:List D) (at_:Int):D:=.t [.b pub,.s nm,.l (lv.map D.s),.l fs,.i at_]
section
variable {N:Nat} {T:List Tok} {P:Nat} {X:List Nat} {st:Int} {h:Heap} {σ:St}
end
end Qp
namespace Qp
abbrev LfV:=zL2×SL×Unit
def lfc (x:LfV):List AV:=[.str x.1,SL.av x.2.1]
abbrev lf0:LfV:=([],sl0,())
theorem pM {β:Type} (r:LfV) (K:LfV→Option β):dA (.val zG) (some (.agg (lfc r))) K=K r:=by
 obtain ⟨n,s,_⟩:=r;simp [lfc,SL.av]
def gE (nm:Bs) (l:List D):D:=.t [.s nm,.l l]
theorem oA7 {h:Heap} {V:Nat→Prop} {nm:Bs} {l:List D} {s:SL} (x:Sl h V s l):Dt h V (gE nm l) (lfc (nm,s,())):=
 vAv (pF (a:=[_]) (mAb h V nm) (pF (a:=[_]) (b:=[]) (gR.2 x) (pAh h V)))
section
variable {N:Nat} {T:List Tok} {P:Nat} {X:List Nat} {st:Int} {h:Heap} {σ:St}
end
end Qp
namespace Qp
def pl0:D:=gE [] []
def opD (k n:Int) (pl:D):D:=.t [.i k,.i n,pl]
def op0:D:=opD 0 0 pl0
section
variable {N:Nat} {T:List Tok} {P:Nat} {X:List Nat} {st:Int} {h:Heap} {σ:St}
abbrev OpV:=Int×Int×zL2×SL×Unit
def opc (x:OpV):List AV:=[.int .i64 x.1,.int .i64 x.2.1,.str x.2.2.1,SL.av x.2.2.2.1]
theorem iK {β:Type} (r:OpV) (K:OpV→Option β):dA (.val zD) (some (.agg (opc r))) K=K r:=by
 obtain ⟨k,n,x,s,_⟩:=r;simp [opc,SL.av]
theorem tB2 {h:Heap} {V:Nat→Prop} {k n:Int} {pl:D} {p:LfV} (x:Dt h V pl (lfc p)):Dt h V (opD k n pl) (opc (k,n,p.1,p.2.1,())):=
 vAv (pF (a:=[_]) (nAq h V k) (pF (a:=[_]) (nAq h V n) (pF (a:=lfc p) (b:=[]) x (pAh h V))))
theorem cU (h:Heap) (V:Nat→Prop):Dt h V pl0 (lfc lf0):=oA7 (Sl.nil _ _ _)
end
end Qp
namespace Ai
def OwV (V:Nat→Prop) (h:Heap) (s:SL) (n:Nat) (xs:List D):Prop:=
 (s.a=none∧s.len=0∧s.cap=0∧xs=[])∨
 ∃ A cs st vs,s.a=some (A,0)∧s.sz=n∧V A∧A<h.next∧h.g A=some (.row cs st)∧s.len=xs.length∧cs.take vs.length=vs∧De h (fun C=>V C∧C≠A) n xs vs∧s.len≤s.cap∧(st=.grown∨(st=.own∧s.cap * n=cs.length))
section
variable {E:Env} {V:Nat→Prop} {h h':Heap} {s:SL} {n:Nat} {xs:List D} {M:List Nat}
theorem OwV.nil (V:Nat→Prop) (h:Heap) (z n:Nat):OwV V h ⟨none,0,0,z⟩ n []:=.inl ⟨rfl,rfl,rfl,rfl⟩
theorem OwV.len (x:OwV V h s n xs):s.len=xs.length:=by
 rcases x with ⟨_,h1,_,rfl⟩ | ⟨A,cs,st,vs,_,_,_,_,_,h1,_⟩
 ·exact h1
 ·exact h1
theorem OwV.ge (x:OwV V h s n xs):∀ A,s.blk=some A→V A∧A<h.next:=by
 intro A hA;rcases x with ⟨h1,_⟩ | ⟨A',cs,st,vs,h1,_,h3,h4,_⟩
 ·simp [SL.blk,h1] at hA
 ·simp [SL.blk,h1] at hA;subst hA;exact ⟨h3,h4⟩
theorem OwV.sl (x:OwV V h s n xs):Sl h V s xs:=by
 rcases x with ⟨h1,h2,h3,rfl⟩ | ⟨A,cs,st,vs,h1,h2,h3,h4,h5,h6,h7,h8,h9,h10⟩
 ·exact ⟨h2,by omega,fun A hA=>by simp [SL.blk,h1] at hA,[],⟨by simp [h2],fun _=>h2,fun A off ha=>by rw [h1] at ha;cases ha⟩,by simp [De]⟩
 ·refine ⟨h6,h9,fun C hC=>?_,vs,⟨?_,fun ha=>(by rw [h1] at ha;cases ha),fun A' off ha=>?_⟩,?_⟩
  ·simp [SL.blk,h1] at hC;subst hC;exact h3
  ·rw [h8.length,h6,h2]
  ·rw [h1] at ha
   simp only [Option.some.injEq,Prod.mk.injEq] at ha;obtain ⟨rfl,rfl⟩:=ha;refine ⟨h4,cs,?_,by rw [List.drop_zero];exact h7⟩;rw [h5];rcases h10 with rfl | ⟨rfl,_⟩ <;> rfl
  ·rw [h2];exact De.weak (fun C hC _=>hC.1) h8
theorem OwV.chg (x:OwV V h s n xs) (c:Chg M h h') (hM:∀ A,V A→A<h.next→A ∉ M):OwV V h' s n xs:=by
 rcases x with h1 | ⟨A,cs,st,vs,h1,h2,h3,h4,h5,h6,h7,h8,h9⟩
 ·exact .inl h1
 ·refine .inr ⟨A,cs,st,vs,h1,h2,h3,Nat.lt_of_lt_of_le h4 c.next,by rw [c.g A h4 (hM A h3 h4)];exact h5,h6,h7,?_,h9⟩
  have h8':De h (fun C=>(V C∧C≠A)∧C<h.next) n xs vs:=De.weak (fun C hC hl=>⟨hC,hl⟩) h8;exact De.weak (fun C hC _=>hC.1) (De.chg c (fun C hC=>hM C hC.1.1 hC.2) h8')
theorem cAe {st e:TypeId} {W:Nat} (ha:AppN E st e n W) (hn:0<n) (x:OwV V h s n xs) {d:D} {cs:List AV} (hd:Dt h (fun C=>V C∧s.blk≠some C) d cs) (hcs:cs.length=n) (hB:∀ A,h.next≤A→V A) (hl:(xs.length+1) * W≤1073741824) :
  ∃ s' h',uC E st st (.slice s.a s.len s.cap s.sz) (.slice (some (h.next,0)) 1 1 n) (h.push (.row cs .own))=some (.slice s'.a s'.len s'.cap s'.sz,h')∧OwV V h' s' n (xs++[d])∧Chg (s.blk.toList) h h'∧(∀ A,s'.blk=some A→s.blk=some A∨h.next≤A):=by
 obtain ⟨hu,⟨i,hi,hi1,hi2⟩,⟨z,hz,hz1⟩⟩:=ha;have hr:(h.push (.row cs .own)).read h.next 0 (1 * n)=some cs:=by
  have:(h.push (.row cs .own)).row h.next=some cs:=(Heap.is_push h cs).row
  simp only [Heap.read,this,List.drop_zero,Nat.one_mul];rw [iG _ _ (by omega),List.take_of_length_le (by omega)]
 have hlen:=x.len;have hroom:Nat.ble ((s.len+1) * (i.bytes+i.size+1)) wM=true:=by
  have h1:(s.len+1) * (i.bytes+i.size+1)≤(xs.length+1) * W:=Nat.mul_le_mul (by omega) (by omega);simp only [wM,Nat.ble_eq];omega
 have hsz:(Nat.beq s.sz i.size||s.a.isNone)=true:=by
  rcases x with ⟨h1,_⟩ | ⟨A,cs,st',vs,h1,h2,_⟩
  ·simp [h1]
  ·simp [hi1,h2]
 have hall:cs.all AV.single=true:=by rw [List.all_eq_true];exact hd.single
 have key:∀ K,fM (h.push (.row cs .own)) s.a s.len s.cap n 1 cs=K→uC E st st (.slice s.a s.len s.cap s.sz) (.slice (some (h.next,0)) 1 1 n) (h.push (.row cs .own))=K:=by
  intro K hK;have hz2:Nat.beq z.cells.length i.size=true:=by rw [hz1,hi1];exact Nat.beq_refl _
  have hnl:Nat.beq cs.length (1 * i.size)=true:=by rw [hi1,hcs,Nat.one_mul];exact Nat.beq_refl _
  simp only [uC,hu,tJ,fS,cond_false,hi,hz,wG,iC];rw [hi1] at hroom hsz hz2 hnl ⊢;simp only [hr,show Nat.beq 1 0=false from rfl,cond_false,hroom,hsz,hz2,hnl,hall,Bool.and_self,cond_true];exact hK
 have hd0:Dt h (fun C=>(V C∧s.blk≠some C)∧C<h.next) d cs:=hd.weak fun C hC hl=>⟨hC,hl⟩;rcases x with ⟨h1,h2,h3,rfl⟩ | ⟨A,bs,st',vs,h1,h2,h3,h4,h5,h6,h7,h8,h9,h10⟩
 ·have c0:Chg [] h ((h.push (.row cs .own)).push (.row cs .grown)):=((Chg.refl [] h).push _).push _
  refine ⟨⟨some (h.next+1,0),1,1,n⟩,(h.push (.row cs .own)).push (.row cs .grown),key _ (by simp only [fM,h1,h2];rfl),.inr ⟨h.next+1,cs,.grown,cs,rfl,rfl,hB _ (by omega),by simp,uF _ rfl,rfl,by simp,?_,Nat.le_refl _,.inl rfl⟩,c0.mono (by simp),fun A hA=>.inr (by simp [SL.blk] at hA;omega)⟩;simp only [List.nil_append,De];exact ⟨cs,[],by simp,hcs,Dt.weak (fun C hC _=>⟨hC.1.1,by omega⟩) (Dt.chg c0 (by simp) hd0),rfl⟩
 ·have hvl:=h8.length
  have hbl:s.blk=some A:=by simp [SL.blk,h1]
  have hcl:vs.length≤bs.length:=by
   have:(bs.take vs.length).length=vs.length:=by rw [h7]
   rw [List.length_take] at this;omega
  have hg:(h.push (.row cs .own)).t.get A=some (.row bs st'):=by
   have:=vN (h:=h) (A:=A) (.row cs .own) (by omega)
   unfold Heap.g at this h5;rw [this,h5]
  have h8':De h (fun C=>(V C∧C≠A)∧C<h.next) n xs vs:=De.weak (fun C hC hl=>⟨hC,hl⟩) h8;have hd':Dt h (fun C=>(V C∧C≠A)∧C<h.next) d cs:=Dt.weak (fun C hC hl=>⟨⟨hC.1,fun e=>hC.2 (by rw [hbl,e])⟩,hl⟩) hd;have hall2:=h8'.snoc hd' hcs;have htk:takeN (s.len * n) bs=some vs:=by rw [iG _ _ (by rw [h6];omega),h6,← hvl,h7]
  -- a new block
  have fresh:∀ H:Heap,H.next=h.next+1→Chg [A] h H→OwV V (H.push (.row (vs++cs) .grown)) ⟨some (h.next+1,0),s.len+1,s.len+1,n⟩ n (xs++[d]):=by
   intro H hH cH;refine .inr ⟨h.next+1,vs++cs,.grown,vs++cs,rfl,rfl,hB _ (by omega),by simp [hH],uF _ hH.symm,by simp [h6],List.take_of_length_le (Nat.le_refl _),?_,Nat.le_refl _,.inl rfl⟩;exact De.weak (fun C hC _=>⟨hC.1.1,by omega⟩) (De.chg (cH.push _) (fun C hC=>by simp;exact hC.1.2) hall2)
  rcases h10 with rfl | ⟨rfl,h10⟩
  ·have cH:Chg [A] h ((h.push (.row cs .own)).put A (.row bs .dead)):=((Chg.refl [A] h).push _).put (.inl (by simp)) _
   refine ⟨⟨some (h.next+1,0),s.len+1,s.len+1,n⟩,((h.push (.row cs .own)).put A (.row bs .dead)).push (.row (vs++cs) .grown),key _ ?_,fresh _ rfl cH,(cH.push _).mono (by simp [hbl]),fun C hC=>.inr (by simp [SL.blk] at hC;omega)⟩;simp only [fM,h1,hg,List.drop_zero,htk];rfl
  ·by_cases hc:s.len+1≤s.cap
   ·have hb1:Nat.ble (s.len+1) s.cap=true:=by simpa using hc
    have hroom2:s.len * n+cs.length≤bs.length:=by
     rw [hcs,← Nat.succ_mul,← h10];exact Nat.mul_le_mul_right _ hc
    have hov:=dA7 bs cs (s.len * n) hroom2;have cH:Chg [A] h ((h.push (.row cs .own)).put A (.row (bs.take (s.len * n)++cs++bs.drop (s.len * n+cs.length)) .own)):=((Chg.refl [A] h).push _).put (.inl (by simp)) _;have e1:bs.take (s.len * n)=vs:=by rw [h6,← hvl,h7]
    refine ⟨⟨some (A,0),s.len+1,s.cap,n⟩,_,key _ ?_,.inr ⟨A,_,.own,vs++cs,rfl,rfl,h3,by simp;omega,wN _ rfl,by simp [h6],?_,?_,hc,.inr ⟨rfl,?_⟩⟩,cH.mono (by simp [hbl]),fun C hC=>.inl (by simp [SL.blk] at hC;rw [hbl,hC])⟩
    ·simp only [fM,h1,hg,List.drop_zero,htk,hb1,cond_true,Nat.zero_add,hov]
    ·rw [e1,List.append_assoc,← List.append_assoc,List.take_append_of_le_length (Nat.le_refl _),List.take_of_length_le (Nat.le_refl _)]
    ·exact De.weak (fun C hC _=>hC.1) (De.chg cH (fun C hC=>by simp;exact hC.1.2) hall2)
    ·show s.cap * n=_
     rw [h10];simp only [List.length_append,List.length_take,List.length_drop];omega
   ·have hb1:Nat.ble (s.len+1) s.cap=false:=by
     cases hx:Nat.ble (s.len+1) s.cap with
     | false=>rfl
     | true=>exact absurd (by simpa using hx) hc
    have cH:Chg [A] h (h.push (.row cs .own)):=(Chg.refl [A] h).push _;refine ⟨⟨some (h.next+1,0),s.len+1,s.len+1,n⟩,(h.push (.row cs .own)).push (.row (vs++cs) .grown),key _ ?_,fresh _ rfl cH,(cH.push _).mono (by simp [hbl]),fun C hC=>.inr (by simp [SL.blk] at hC;omega)⟩;simp only [fM,h1,hg,List.drop_zero,htk,hb1,cond_false];rfl
end
end Ai
namespace Qp
section
variable {T:List Tok} {P:Nat} {X:List Nat} {st:Int} {h0 h h' h6:Heap} {O Q n j:Nat} {row:SL→List AV} {xs:List D} {σ σ':St}
end
def d1:D→D | .t (a::_)=>a | _=>.i 0
def d2:D→D | .t (_::b::_)=>b | _=>.i 0
structure CVI (T:List Tok) (P:Nat) (X:List Nat) (st:Int) (h0:Heap) (O Q V off n:Nat) (row:SL→List AV) (h:Heap) (xs:List D) (σ:St):Prop where
 ci:CI T P X st h0 O Q n row h xs σ
 v:h.own V [.ptr (some (O,off))]
section
variable {N:Nat} {T:List Tok} {P:Nat} {X:List Nat} {st:Int} {h:Heap} {σ:St}
end
end Qp
namespace Qp
structure MF (P:Nat) (X:List Nat) (h0:Heap) (O Q V off:Nat) (row:SL→SL→List AV):Prop where
 o:P<O∧O<h0.next
 q:Q≠P∧Q≠O∧Q<h0.next
 v:V≠P∧V≠O∧V<h0.next
 x:O∈X
 rj:∀ v w,(row v w)[off+13]? = some (SL.av v)
 rk:∀ v w,(row v w)[off+14]? = some (SL.av w)
 rs:∀ v w v',(row v w).set (off+13) (SL.av v')=row v' w
 rt:∀ v w w',(row v w).set (off+14) (SL.av w')=row v w'
structure MI (T:List Tok) (P:Nat) (X:List Nat) (st:Int) (h0:Heap) (O Q V off:Nat) (row:SL→SL→List AV) (h:Heap) (zs:List D) (σ:St):Prop where
 pc:PC T P X h σ st
 chg:Chg [P,O] h0 h
 q:h.own Q [.ptr (some (P,0))]
 v:h.own V [.ptr (some (O,off))]
 ex:∃ v w,h.own O (row v w)∧OwV (fun C=>h0.next≤C∧w.blk≠some C) h v 1 (zs.map d1)∧OwV (fun C=>h0.next≤C∧v.blk≠some C) h w 4 (zs.map d2)
section
variable {N:Nat} {T:List Tok} {P:Nat} {X:List Nat} {st:Int} {h0 h h':Heap} {O Q V off:Nat} {row:SL→SL→List AV} {zs:List D} {σ σ':St}
end
end Qp
namespace Qp
abbrev VaV:=Int×Int×Int×zL2×SL×Int×Int×zL2×SL×Int×zL2×SL×zL2×SL×SL×Unit
def vac (x:VaV):List AV:=[.int .i64 x.1,.int .i64 x.2.1,.int .i64 x.2.2.1,.str x.2.2.2.1,.slice x.2.2.2.2.1.a x.2.2.2.2.1.len x.2.2.2.2.1.cap x.2.2.2.2.1.sz,.int .i64 x.2.2.2.2.2.1,.int .i64 x.2.2.2.2.2.2.1,.str x.2.2.2.2.2.2.2.1,.slice x.2.2.2.2.2.2.2.2.1.a x.2.2.2.2.2.2.2.2.1.len x.2.2.2.2.2.2.2.2.1.cap x.2.2.2.2.2.2.2.2.1.sz,.int .i64 x.2.2.2.2.2.2.2.2.2.1,.str x.2.2.2.2.2.2.2.2.2.2.1,.slice x.2.2.2.2.2.2.2.2.2.2.2.1.a x.2.2.2.2.2.2.2.2.2.2.2.1.len x.2.2.2.2.2.2.2.2.2.2.2.1.cap x.2.2.2.2.2.2.2.2.2.2.2.1.sz,.str x.2.2.2.2.2.2.2.2.2.2.2.2.1,.slice x.2.2.2.2.2.2.2.2.2.2.2.2.2.1.a x.2.2.2.2.2.2.2.2.2.2.2.2.2.1.len x.2.2.2.2.2.2.2.2.2.2.2.2.2.1.cap x.2.2.2.2.2.2.2.2.2.2.2.2.2.1.sz,.slice x.2.2.2.2.2.2.2.2.2.2.2.2.2.2.1.a x.2.2.2.2.2.2.2.2.2.2.2.2.2.2.1.len x.2.2.2.2.2.2.2.2.2.2.2.2.2.2.1.cap x.2.2.2.2.2.2.2.2.2.2.2.2.2.2.1.sz]
abbrev eI:OpV:=(0,0,[],sl0,())
def fI (k:Int) (a b:OpV) (op:Int) (pl:LfV) (nm:Bs) (ns ag:SL):VaV:=(k,a.1,a.2.1,a.2.2.1,a.2.2.2.1,b.1,b.2.1,b.2.2.1,b.2.2.2.1,op,pl.1,pl.2.1,nm,ns,ag,())
abbrev va0:VaV:=fI 0 eI eI 0 lf0 [] sl0 sl0
def vaD (k:Int) (a b:D) (op:Int) (pl:D) (nm:Bs) (ns ag:List D):D:=.t [.i k,a,b,.i op,pl,.s nm,.l ns,.l ag]
theorem pV {β:Type} (r:VaV) (K:VaV→Option β):dA (.val zC) (some (.agg (vac r))) K=K r:=by
 obtain ⟨x1,x2,x3,x4,x5,x6,x7,x8,x9,x10,x11,x12,x13,x14,x15,_⟩:=r;simp [vac]
theorem lA4 {h:Heap} {V:Nat→Prop} {k op:Int} {a b pl:D} {nm:Bs} {ns ag:List D} {ra rb:OpV} {rp:LfV} {s1 s2:SL} (xa:Dt h V a (opc ra)) (xb:Dt h V b (opc rb)) (xp:Dt h V pl (lfc rp)) (x1:Sl h V s1 ns) (x2:Sl h V s2 ag):Dt h V (vaD k a b op pl nm ns ag) (vac (fI k ra rb op rp nm s1 s2)):=
 vAv (pF (a:=[_]) (nAq h V k) (pF (a:=opc ra) xa (pF (a:=opc rb) xb (pF (a:=[_]) (nAq h V op) (pF (a:=lfc rp) xp (pF (a:=[_]) (mAb h V nm) (pF (a:=[_]) (gR.2 x1) (pF (a:=[_]) (b:=[]) (gR.2 x2) (pAh h V)))))))))
theorem bM (h:Heap) (V:Nat→Prop):Dt h V op0 (opc eI):=tB2 (cU h V)
section
variable {k op:Int} {a b:OpV} {pl:LfV} {nm:Bs}
end
section
variable {N:Nat} {T:List Tok} {P:Nat} {X:List Nat} {st:Int} {h:Heap} {σ:St}
end
end Qp
namespace Qp
structure SmR where
 k:Int
 at_:Int
 m:Bool
 nm:Bs
 ty:TyV
 has:Bool
 pl:LfV
 va:VaV
 co:OpV
 th:SL
 el:SL
structure SmT where
 ty:D
 pl:D
 va:D
 co:D
 th:List D
 el:List D
abbrev SmV:=Int×Int×Bool×zL2×Int×zL2×SL×SL×Bool×zL2×SL×Int×Int×Int×zL2×SL×Int×Int×zL2×SL×Int×zL2×SL×zL2×SL×SL×Int×Int×zL2×SL×SL×SL×Unit
def smx (x:SmV):List AV:=[.int .i64 x.1,.int .i64 x.2.1,.bool x.2.2.1,.str x.2.2.2.1,.int .i64 x.2.2.2.2.1,.str x.2.2.2.2.2.1,.slice x.2.2.2.2.2.2.1.a x.2.2.2.2.2.2.1.len x.2.2.2.2.2.2.1.cap x.2.2.2.2.2.2.1.sz,.slice x.2.2.2.2.2.2.2.1.a x.2.2.2.2.2.2.2.1.len x.2.2.2.2.2.2.2.1.cap x.2.2.2.2.2.2.2.1.sz,.bool x.2.2.2.2.2.2.2.2.1,.str x.2.2.2.2.2.2.2.2.2.1,.slice x.2.2.2.2.2.2.2.2.2.2.1.a x.2.2.2.2.2.2.2.2.2.2.1.len x.2.2.2.2.2.2.2.2.2.2.1.cap x.2.2.2.2.2.2.2.2.2.2.1.sz,.int .i64 x.2.2.2.2.2.2.2.2.2.2.2.1,.int .i64 x.2.2.2.2.2.2.2.2.2.2.2.2.1,.int .i64 x.2.2.2.2.2.2.2.2.2.2.2.2.2.1,.str x.2.2.2.2.2.2.2.2.2.2.2.2.2.2.1,.slice x.2.2.2.2.2.2.2.2.2.2.2.2.2.2.2.1.a x.2.2.2.2.2.2.2.2.2.2.2.2.2.2.2.1.len x.2.2.2.2.2.2.2.2.2.2.2.2.2.2.2.1.cap x.2.2.2.2.2.2.2.2.2.2.2.2.2.2.2.1.sz,.int .i64 x.2.2.2.2.2.2.2.2.2.2.2.2.2.2.2.2.1,.int .i64 x.2.2.2.2.2.2.2.2.2.2.2.2.2.2.2.2.2.1,.str x.2.2.2.2.2.2.2.2.2.2.2.2.2.2.2.2.2.2.1,.slice x.2.2.2.2.2.2.2.2.2.2.2.2.2.2.2.2.2.2.2.1.a x.2.2.2.2.2.2.2.2.2.2.2.2.2.2.2.2.2.2.2.1.len x.2.2.2.2.2.2.2.2.2.2.2.2.2.2.2.2.2.2.2.1.cap x.2.2.2.2.2.2.2.2.2.2.2.2.2.2.2.2.2.2.2.1.sz,.int .i64 x.2.2.2.2.2.2.2.2.2.2.2.2.2.2.2.2.2.2.2.2.1,.str x.2.2.2.2.2.2.2.2.2.2.2.2.2.2.2.2.2.2.2.2.2.1,.slice x.2.2.2.2.2.2.2.2.2.2.2.2.2.2.2.2.2.2.2.2.2.2.1.a x.2.2.2.2.2.2.2.2.2.2.2.2.2.2.2.2.2.2.2.2.2.2.1.len x.2.2.2.2.2.2.2.2.2.2.2.2.2.2.2.2.2.2.2.2.2.2.1.cap x.2.2.2.2.2.2.2.2.2.2.2.2.2.2.2.2.2.2.2.2.2.2.1.sz,.str x.2.2.2.2.2.2.2.2.2.2.2.2.2.2.2.2.2.2.2.2.2.2.2.1,.slice x.2.2.2.2.2.2.2.2.2.2.2.2.2.2.2.2.2.2.2.2.2.2.2.2.1.a x.2.2.2.2.2.2.2.2.2.2.2.2.2.2.2.2.2.2.2.2.2.2.2.2.1.len x.2.2.2.2.2.2.2.2.2.2.2.2.2.2.2.2.2.2.2.2.2.2.2.2.1.cap x.2.2.2.2.2.2.2.2.2.2.2.2.2.2.2.2.2.2.2.2.2.2.2.2.1.sz,.slice x.2.2.2.2.2.2.2.2.2.2.2.2.2.2.2.2.2.2.2.2.2.2.2.2.2.1.a x.2.2.2.2.2.2.2.2.2.2.2.2.2.2.2.2.2.2.2.2.2.2.2.2.2.1.len x.2.2.2.2.2.2.2.2.2.2.2.2.2.2.2.2.2.2.2.2.2.2.2.2.2.1.cap x.2.2.2.2.2.2.2.2.2.2.2.2.2.2.2.2.2.2.2.2.2.2.2.2.2.1.sz,.int .i64 x.2.2.2.2.2.2.2.2.2.2.2.2.2.2.2.2.2.2.2.2.2.2.2.2.2.2.1,.int .i64 x.2.2.2.2.2.2.2.2.2.2.2.2.2.2.2.2.2.2.2.2.2.2.2.2.2.2.2.1,.str x.2.2.2.2.2.2.2.2.2.2.2.2.2.2.2.2.2.2.2.2.2.2.2.2.2.2.2.2.1,.slice x.2.2.2.2.2.2.2.2.2.2.2.2.2.2.2.2.2.2.2.2.2.2.2.2.2.2.2.2.2.1.a x.2.2.2.2.2.2.2.2.2.2.2.2.2.2.2.2.2.2.2.2.2.2.2.2.2.2.2.2.2.1.len x.2.2.2.2.2.2.2.2.2.2.2.2.2.2.2.2.2.2.2.2.2.2.2.2.2.2.2.2.2.1.cap x.2.2.2.2.2.2.2.2.2.2.2.2.2.2.2.2.2.2.2.2.2.2.2.2.2.2.2.2.2.1.sz,.slice x.2.2.2.2.2.2.2.2.2.2.2.2.2.2.2.2.2.2.2.2.2.2.2.2.2.2.2.2.2.2.1.a x.2.2.2.2.2.2.2.2.2.2.2.2.2.2.2.2.2.2.2.2.2.2.2.2.2.2.2.2.2.2.1.len x.2.2.2.2.2.2.2.2.2.2.2.2.2.2.2.2.2.2.2.2.2.2.2.2.2.2.2.2.2.2.1.cap x.2.2.2.2.2.2.2.2.2.2.2.2.2.2.2.2.2.2.2.2.2.2.2.2.2.2.2.2.2.2.1.sz,.slice x.2.2.2.2.2.2.2.2.2.2.2.2.2.2.2.2.2.2.2.2.2.2.2.2.2.2.2.2.2.2.2.1.a x.2.2.2.2.2.2.2.2.2.2.2.2.2.2.2.2.2.2.2.2.2.2.2.2.2.2.2.2.2.2.2.1.len x.2.2.2.2.2.2.2.2.2.2.2.2.2.2.2.2.2.2.2.2.2.2.2.2.2.2.2.2.2.2.2.1.cap x.2.2.2.2.2.2.2.2.2.2.2.2.2.2.2.2.2.2.2.2.2.2.2.2.2.2.2.2.2.2.2.1.sz]
def smv (r:SmR):SmV:=(r.k,r.at_,r.m,r.nm,r.ty.1,r.ty.2.1,r.ty.2.2.1,r.ty.2.2.2.1,r.has,r.pl.1,r.pl.2.1,r.va.1,r.va.2.1,r.va.2.2.1,r.va.2.2.2.1,r.va.2.2.2.2.1,r.va.2.2.2.2.2.1,r.va.2.2.2.2.2.2.1,r.va.2.2.2.2.2.2.2.1,r.va.2.2.2.2.2.2.2.2.1,r.va.2.2.2.2.2.2.2.2.2.1,r.va.2.2.2.2.2.2.2.2.2.2.1,r.va.2.2.2.2.2.2.2.2.2.2.2.1,r.va.2.2.2.2.2.2.2.2.2.2.2.2.1,r.va.2.2.2.2.2.2.2.2.2.2.2.2.2.1,r.va.2.2.2.2.2.2.2.2.2.2.2.2.2.2.1,r.co.1,r.co.2.1,r.co.2.2.1,r.co.2.2.2.1,r.th,r.el,())
def smc (r:SmR):List AV:=smx (smv r)
abbrev mA4:TyV:=(0,[],sl0,sl0,())
def gF (at_:Int):SmR:=⟨0,at_,false,[],mA4,false,lf0,va0,eI,sl0,sl0⟩
def va00:D:=vaD 0 op0 op0 0 pl0 [] [] []
def ty0D:D:=tyD 0 [] [] []
theorem iX (h:Heap) (V:Nat→Prop):Dt h V va00 (vac va0):=lA4 (bM _ _) (bM _ _) (cU _ _) (Sl.nil _ _ _) (Sl.nil _ _ _)
structure SI (T:List Tok) (P:Nat) (X:List Nat) (hb:Heap) (R O:Nat) (r:SmR) (d:SmT) (h:Heap) (σ:St) (st:Int):Prop where
 pc:PC T P (O::R::X) h σ st
 chg:Chg [P] hb h
 oR:h.own R (smc (gF 0))
 oO:h.own O (smc r)
 le:hb.next≤R∧R<O∧P<hb.next
 dty:Dt h (fun C=>O<C) d.ty (tyc r.ty)
 dpl:Dt h (fun C=>O<C) d.pl (lfc r.pl)
 dva:Dt h (fun C=>O<C) d.va (vac r.va)
 dco:Dt h (fun C=>O<C) d.co (opc r.co)
 dth:Sl h (fun C=>O<C) r.th d.th
 del:Sl h (fun C=>O<C) r.el d.el
section
variable {T:List Tok} {P:Nat} {X:List Nat} {st st':Int} {hb h h':Heap} {R O:Nat} {r r':SmR} {d d':SmT} {σ σ':St}
end
section
variable {N:Nat} {T:List Tok} {P:Nat} {X:List Nat} {st:Int} {hb h:Heap} {R O:Nat} {σ:St}
end
end Qp
namespace Qp
section
variable {T:List Tok} {P:Nat} {X:List Nat} {st st':Int} {hb h h':Heap} {R O:Nat} {r r':SmR} {d d':SmT} {σ σ':St}
end
section
variable {N:Nat} {T:List Tok} {P:Nat} {X:List Nat} {st:Int} {hb h:Heap} {R O:Nat} {σ:St}
end
end Qp
namespace Qp
section
variable (T:List Tok) (i:Nat) (e:Int×Int)
end
theorem uG {β:Type} (r:SmV) (K:SmV→Option β):dA (.val zA) (some (.agg (smx r))) K=K r:=by
 obtain ⟨x1,x2,x3,x4,x5,x6,x7,x8,x9,x10,x11,x12,x13,x14,x15,x16,x17,x18,x19,x20,x21,x22,x23,x24,x25,x26,x27,x28,x29,x30,x31,x32,_⟩:=r;simp [smx]
section
variable {N:Nat} {T:List Tok} {P:Nat} {X:List Nat} {h:Heap} {σ:St}
end
end Qp
namespace Qp
section
variable {T:List Tok}
end
section
variable {N:Nat} {T:List Tok} {P:Nat} {X:List Nat} {h:Heap} {σ:St} {st:Int}
end
end Qp
namespace Qp
section
variable {N:Nat} {T:List Tok} {P:Nat} {X:List Nat} {h:Heap} {σ:St} {st:Int}
end
structure FuR where
 pub:Bool
 nm:Bs
 lv:SL
 ps:SL
 ty:TyV
 bd:SL
 at_:Int
structure FuT where
 lv:List D
 ps:List D
 ty:D
 bd:List D
abbrev FuV:=Bool×zL2×SL×SL×Int×zL2×SL×SL×SL×Int×Unit
def fux (x:FuV):List AV:=[.bool x.1,.str x.2.1,.slice x.2.2.1.a x.2.2.1.len x.2.2.1.cap x.2.2.1.sz,.slice x.2.2.2.1.a x.2.2.2.1.len x.2.2.2.1.cap x.2.2.2.1.sz,.int .i64 x.2.2.2.2.1,.str x.2.2.2.2.2.1,.slice x.2.2.2.2.2.2.1.a x.2.2.2.2.2.2.1.len x.2.2.2.2.2.2.1.cap x.2.2.2.2.2.2.1.sz,.slice x.2.2.2.2.2.2.2.1.a x.2.2.2.2.2.2.2.1.len x.2.2.2.2.2.2.2.1.cap x.2.2.2.2.2.2.2.1.sz,.slice x.2.2.2.2.2.2.2.2.1.a x.2.2.2.2.2.2.2.2.1.len x.2.2.2.2.2.2.2.2.1.cap x.2.2.2.2.2.2.2.2.1.sz,.int .i64 x.2.2.2.2.2.2.2.2.2.1]
def fuv (r:FuR):FuV:=(r.pub,r.nm,r.lv,r.ps,r.ty.1,r.ty.2.1,r.ty.2.2.1,r.ty.2.2.2.1,r.bd,r.at_,())
def fuc (r:FuR):List AV:=fux (fuv r)
def jAm (pub:Bool) (nm:Bs) (at_:Int):FuR:=⟨pub,nm,sl0,sl0,mA4,sl0,at_⟩
theorem rAt {β:Type} (r:FuV) (K:FuV→Option β):dA (.val zH) (some (.agg (fux r))) K=K r:=by
 obtain ⟨x1,x2,x3,x4,x5,x6,x7,x8,x9,x10,_⟩:=r;simp [fux]
structure FI (T:List Tok) (P:Nat) (X:List Nat) (hb:Heap) (Q R O:Nat) (r:FuR) (d:FuT) (h:Heap) (σ:St) (st:Int):Prop where
 pc:PC T P (O::R::X) h σ st
 chg:Chg [P] hb h
 oQ:h.own Q [.ptr (some (P,0))]
 oR:h.own R (fuc (jAm false [] 0))
 oO:h.own O (fuc r)
 le:hb.next≤Q∧Q<R∧R<O∧P<hb.next
 dlv:Sl h (fun C=>O<C) r.lv d.lv
 dps:Sl h (fun C=>O<C) r.ps d.ps
 dty:Dt h (fun C=>O<C) d.ty (tyc r.ty)
 dbd:Sl h (fun C=>O<C) r.bd d.bd
section
variable {T:List Tok} {P:Nat} {X:List Nat} {st st':Int} {hb h h':Heap} {Q R O:Nat} {r r':FuR} {d d':FuT} {σ σ':St}
end
end Qp
namespace Qp
section
variable {N:Nat} {T:List Tok} {P:Nat} {X:List Nat} {h:Heap} {σ:St} {st:Int}
end
end Qp
namespace Qp
abbrev Er3:=Option (Int×Int×Option Int)
section
variable {N:Nat} {T:List Tok} {P:Nat} {X:List Nat} {h:Heap} {σ:St} {st:Int}
end
end Qp
namespace Qp
structure ItS where
 d:Option (Bool×D)
 i:Nat
 e:Er3
 n:Nat
section
variable {N:Nat} {T:List Tok} {P:Nat} {X:List Nat} {h:Heap} {σ:St} {st:Int}
end
end Qp
namespace Qp
def crD (xs ys:List D):D:=.t [.l xs,.l ys]
section
variable {N:Nat} {T:List Tok} {P:Nat} {X:List Nat} {h:Heap} {σ:St} {st:Int}
end
end Qp
namespace Qp
structure Cut (T' T:List Tok) (E:Nat) (Bd:Int×Int→Prop):Prop where
 k:(tk T' E).1=0
 lt:∀ i,i<E→tk T' i=tk T i
 bad:Bd (21,((tk T' E).2.2:Int))
section
variable {α β γ:Type} {σ:Type} (st:σ→St) (inv:σ→Prop) (E:Nat) (Bd:Int×Int→Prop)
def oB5 (s:σ):Prop:=∃ j e,st s=(j,some e)∧Bd e
def lB6 (F:σ→α×σ):Prop:=∀ s,(st (F s).2).2.isSome=true
def AtE (s:σ):Prop:=st s=(E,none)∧inv s
def RA (F' F:σ→α×σ) (s:σ):Prop:=F' s=F s∧(st (F s).2).2=none∧(st (F s).2).1≤E∧inv (F s).2
def RB (F' F:σ→α×σ) (s:σ):Prop:=∃ j e,st (F' s).2=(j,some e)∧((st (F s).2).2.isSome=true∨Bd e)
structure GD (F' F:σ→α×σ):Prop where
 e':∀ s,(st s).2.isSome=true→st (F' s).2=st s
 e:∀ s,(st s).2.isSome=true→st (F s).2=st s
 c:∀ s,AtE st inv E s→AtE st inv E (F' s).2∨oB5 st Bd (F' s).2∨((st (F' s).2).2.isSome=true∧lB6 st F)
 a:∀ s,(st s).2=none→(st s).1<E→inv s→RA st inv E F' F s∨RB st Bd F' F s∨AtE st inv E (F' s).2
structure G (F' F:σ→α×σ):Prop extends GD st inv E Bd F' F where
 c1:∀ s,AtE st inv E s→AtE st inv E (F' s).2∨oB5 st Bd (F' s).2
end
section
variable {α β γ:Type} {σ:Type} {st:σ→St} {inv:σ→Prop} {E:Nat} {Bd:Int×Int→Prop}
end
section
variable {T' T:List Tok} {E:Nat} {Bd:Int×Int→Prop} {α:Type}
end
end Qp
namespace Qp
section
variable {T' T:List Tok} {E:Nat} {Bd:Int×Int→Prop}
end
end Qp
namespace Qp
open Go.ChangeShapes Go.WideShapes
open Go.Proofs.YtkcjphhjmlienaaGreatDoor
mutual
def Wt (P:Program):D→TypeId→Prop
 | .b _,t=>P.underlying t=some .bool
 | .i n,t=>P.underlying t=some (.int .i64)∧-9223372036854775808≤n∧n≤9223372036854775807
 | .s x,t=>P.underlying t=some .string∧x.length≤9223372036854775807
 | .l xs,t=>∃ e,P.underlying t=some (.slice e)∧Wl P xs e∧xs.length≤9223372036854775807
 | .t xs,t=>∃ fs,P.underlying t=some (.struct fs)∧Wf P xs fs.toList
def Wl (P:Program):List D→TypeId→Prop
 | [],_=>True
 | x::r,e=>Wt P x e∧Wl P r e
def Wf (P:Program):List D→List Field→Prop
 | [],[]=>True
 | x::r,f::fs=>Wt P x f.type∧Wf P r fs
 | _,_=>False
end
mutual
def wtD:D→Nat
 | .b _=>1
 | .i _=>1
 | .s x=>x.length+1
 | .l xs=>wtL xs+1
 | .t xs=>wtL xs+1
def wtL:List D→Nat
 | []=>0
 | x::r=>wtD x+wtL r
end
def dB1 (P:Program):List Field→Nat
 | []=>0
 | f::r=>P.cellsOf f.type+dB1 P r
def dT (P:Program) (S:List TypeId) (t:TypeId):Bool:=
 match P.underlying t with
 | some .bool=>Nat.beq (P.cellsOf t) 1
 | some (.int .i64)=>Nat.beq (P.cellsOf t) 1
 | some .string=>Nat.beq (P.cellsOf t) 1
 | some (.slice e)=>nJ e S&&Nat.beq (P.cellsOf t) 1
 | some (.struct fs)=>fs.toList.all (fun f=>nJ f.type S)&&Nat.beq (P.cellsOf t) (dB1 P fs.toList)
 | _=>false
def dB (P:Program) (S:List TypeId):Bool:=S.all (dT P S)
theorem nA4 {t:TypeId} {S:List TypeId} (h:nJ t S=true):t∈S:=dC.1 h
section
variable {H:Type} {P:Program} {h:Heap} {S:List TypeId}
theorem uB2 (hS:dB P S=true) {t:TypeId} {cs:List AV} {d:DataW H} (x:Rd P h t cs d):t∈S→∃ y,Wt P y t∧Dt h (fun _=>True) y cs∧wtD y≤Rows.uptoBulk d∧cs.length=P.cellsOf t:=by
 have hT:∀ {t:TypeId},t∈S→dT P S t=true:=fun ht=>List.all_eq_true.1 hS _ ht
 induction x with
 | bool h1=>
  rename_i t b;intro ht;have hd:=hT ht;unfold dT at hd;rw [h1] at hd;refine ⟨.b b,?_,?_,?_,?_⟩
  ·simp only [Wt];exact h1
  ·simp only [Dt]
  ·simp only [wtD,Rows.uptoBulk];omega
  ·rw [Nat.eq_of_beq_eq_true hd];rfl
 | int h1 h2=>
  rename_i t k n;intro ht;have hd:=hT ht;unfold dT at hd;rw [h1] at hd;cases k <;> simp only [Bool.false_eq_true] at hd;refine ⟨.i n,?_,?_,?_,?_⟩
  ·simp only [Wt]
   refine ⟨h1,?_⟩
   have:=Rd.int_inv (H:=H) h1 (Rd.int (h:=h) h1 h2)
   obtain ⟨n',e1,_,e3⟩:=this;simp only [List.cons.injEq,AV.int.injEq,true_and,and_true] at e1;subst e1
   first | exact e3 | simpa using e3
  ·simp only [Dt]
  ·simp only [wtD,Rows.uptoBulk];omega
  ·rw [Nat.eq_of_beq_eq_true hd];rfl
 | str h1 h2=>
  rename_i t s;intro ht;have hd:=hT ht;unfold dT at hd;rw [h1] at hd;refine ⟨.s s,?_,?_,?_,?_⟩
  ·simp only [Wt];exact ⟨h1,h2⟩
  ·simp only [Dt]
  ·simp only [wtD,Rows.uptoBulk];omega
  ·rw [Nat.eq_of_beq_eq_true hd];rfl
 | nil h1=>
  rename_i t e;intro ht;have hd:=hT ht;unfold dT at hd;rw [h1] at hd;simp only [Bool.and_eq_true] at hd;refine ⟨.l [],?_,bB1.2 ⟨⟨none,0,0,0⟩,rfl,Sl.nil _ _ _⟩,?_,?_⟩
  ·simp only [Wt,Wl];exact ⟨e,h1,trivial,by simp⟩
  ·simp only [wtD,wtL,Rows.uptoBulk];omega
  ·rw [Nat.eq_of_beq_eq_true hd.2];rfl
 | slice h1 h2 h3 h4 h5 h6 ih=>
  rename_i t e A ass ds sp;intro ht;have hd:=hT ht;unfold dT at hd;rw [h1] at hd;simp only [Bool.and_eq_true] at hd;have he:=nA4 hd.1;have key:∀ (ass:List (List AV)) (ds:List (DataW H)),ass.length=ds.length→(∀ (i:Nat) (a:List AV) (d:DataW H),ass[i]? = some a→ds[i]? = some d→∃ y,Wt P y e∧Dt h (fun _=>True) y a∧wtD y≤Rows.uptoBulk d∧a.length=P.cellsOf e)→
    ∃ ys,Wl P ys e∧De h (fun _=>True) (P.cellsOf e) ys ass.flatten∧wtL ys≤Rows.uptoBulkAll ds∧ys.length=ds.length:=by
   intro ass
   induction ass with
   | nil=>
    intro ds hl _
    cases ds with
    | nil=>exact ⟨[],by simp [Wl],by simp [De],by simp [wtL],rfl⟩
    | cons d r=>cases hl
   | cons a r ihr=>
    intro ds hl hf
    cases ds with
    | nil=>cases hl
    | cons d q=>
     obtain ⟨y,y1,y2,y3,y4⟩:=hf 0 a d rfl rfl;obtain ⟨ys,z1,z2,z3,z4⟩:=ihr q (by simpa using hl) fun i a d h1 h2=>hf (i+1) a d (by simpa using h1) (by simpa using h2);refine ⟨y::ys,?_,?_,?_,by simp [z4]⟩
     ·simp only [Wl];exact ⟨y1,z1⟩
     ·simp only [De,List.flatten_cons];exact ⟨a,r.flatten,rfl,y4,y2,z2⟩
     ·simp only [wtL,Rows.uptoBulkAll];omega
  obtain ⟨ys,z1,z2,z3,z4⟩:=key ass ds h5 fun i a d e1 e2=>ih i a d e1 e2 he;have hvl:=z2.length;refine ⟨.l ys,?_,bB1.2 ⟨⟨some (A,0),ds.length,ds.length,P.cellsOf e⟩,rfl,z4.symm,Nat.le_refl _,fun _ _=>trivial,ass.flatten,⟨?_,fun ha=>(by cases ha),fun A' off ha=>?_⟩,z2⟩,?_,?_⟩
  ·simp only [Wt];exact ⟨e,h1,z1,by rw [z4];exact h4⟩
  ·rw [hvl,z4]
  ·simp only [Option.some.injEq,Prod.mk.injEq] at ha
   obtain ⟨rfl,rfl⟩:=ha;refine ⟨h3,ass.flatten,?_,by rw [List.drop_zero,List.take_length]⟩;show uAk (h.t.get A)=_;rw [h2];rfl
  ·simp only [wtD,Rows.uptoBulk];omega
  ·rw [Nat.eq_of_beq_eq_true hd.2];rfl
 | struct h1 h2 h3 h4 ih=>
  rename_i t fs ass ds;intro ht;have hd:=hT ht;unfold dT at hd;rw [h1] at hd;simp only [Bool.and_eq_true] at hd;obtain ⟨hd1,hd2⟩:=hd;have key:∀ (fl:List Field) (ass:List (List AV)) (ds:List (DataW H)),ass.length=fl.length→ds.length=fl.length→(∀ f∈fl,f.type∈S)→(∀ (i:Nat) (f:Field) (a:List AV) (d:DataW H),fl[i]? = some f→ass[i]? = some a→ds[i]? = some d→f.type∈S→∃ y,Wt P y f.type∧Dt h (fun _=>True) y a∧wtD y≤Rows.uptoBulk d∧a.length=P.cellsOf f.type)→
    ∃ ys,Wf P ys fl∧Dp h (fun _=>True) ys ass.flatten∧wtL ys≤Rows.uptoBulkAll ds∧ass.flatten.length=dB1 P fl:=by
   intro fl
   induction fl with
   | nil=>
    intro ass ds ha hd _ _
    cases ass with
    | nil=>
     cases ds with
     | nil=>exact ⟨[],by simp [Wf],by simp [Dp],by simp [wtL],rfl⟩
     | cons d r=>cases hd
    | cons a r=>cases ha
   | cons f fl ihf=>
    intro ass ds ha hd hm hf
    cases ass with
    | nil=>cases ha
    | cons a r=>
     cases ds with
     | nil=>cases hd
     | cons d q=>
      obtain ⟨y,y1,y2,y3,y4⟩:=hf 0 f a d rfl rfl rfl (hm f (by simp));obtain ⟨ys,z1,z2,z3,z4⟩:=ihf r q (by simpa using ha) (by simpa using hd) (fun g hg=>hm g (by simp [hg])) fun i f a d h0 h1 h2=>hf (i+1) f a d (by simpa using h0) (by simpa using h1) (by simpa using h2);refine ⟨y::ys,?_,?_,?_,?_⟩
      ·simp only [Wf];exact ⟨y1,z1⟩
      ·simp only [Dp,List.flatten_cons];exact ⟨a,r.flatten,rfl,y2,z2⟩
      ·simp only [wtL,Rows.uptoBulkAll];omega
      ·simp only [List.flatten_cons,List.length_append,dB1,z4,y4]
  obtain ⟨ys,z1,z2,z3,z4⟩:=key fs.toList ass ds (by simpa using h2) (by simpa using h3) (fun f hf=>nA4 (List.all_eq_true.1 hd1 f hf)) fun i f a d e0 e1 e2 e3=>ih i f a d (by simpa using e0) e1 e2 e3;refine ⟨.t ys,?_,?_,?_,?_⟩
  ·simp only [Wt];exact ⟨fs,h1,z1⟩
  ·simp only [Dt];exact z2
  ·simp only [wtD,Rows.uptoBulk];omega
  ·rw [z4,Nat.eq_of_beq_eq_true hd2]
 | array h1 h2 h3 h4 ih=>
  rename_i t n e ass ds;intro ht;have hd:=hT ht;unfold dT at hd;rw [h1] at hd;cases hd
theorem Wt.int_inv {y:D} {t:TypeId} (hu:P.underlying t=some (.int .i64)) (x:Wt P y t):∃ n,y=.i n∧-9223372036854775808≤n∧n≤9223372036854775807:=by
 cases y with
 | i n=>simp only [Wt] at x;exact ⟨n,rfl,x.2⟩
 | b _=>simp only [Wt,hu] at x;cases x
 | s _=>simp only [Wt,hu] at x;cases x.1
 | l _=>simp only [Wt,hu] at x;obtain ⟨e,h1,_⟩:=x;cases h1
 | t _=>simp only [Wt,hu] at x;obtain ⟨e,h1,_⟩:=x;cases h1
theorem Wt.bool_inv {y:D} {t:TypeId} (hu:P.underlying t=some .bool) (x:Wt P y t):∃ b,y=.b b:=by
 cases y with
 | b n=>exact ⟨n,rfl⟩
 | i _=>simp only [Wt,hu] at x;cases x.1
 | s _=>simp only [Wt,hu] at x;cases x.1
 | l _=>simp only [Wt,hu] at x;obtain ⟨e,h1,_⟩:=x;cases h1
 | t _=>simp only [Wt,hu] at x;obtain ⟨e,h1,_⟩:=x;cases h1
theorem Wt.str_inv {y:D} {t:TypeId} (hu:P.underlying t=some .string) (x:Wt P y t):∃ s,y=.s s∧s.length≤9223372036854775807:=by
 cases y with
 | s n=>simp only [Wt] at x;exact ⟨n,rfl,x.2⟩
 | i _=>simp only [Wt,hu] at x;cases x.1
 | b _=>simp only [Wt,hu] at x;cases x
 | l _=>simp only [Wt,hu] at x;obtain ⟨e,h1,_⟩:=x;cases h1
 | t _=>simp only [Wt,hu] at x;obtain ⟨e,h1,_⟩:=x;cases h1
theorem Wt.slice_inv {y:D} {t e:TypeId} (hu:P.underlying t=some (.slice e)) (x:Wt P y t):∃ xs,y=.l xs∧Wl P xs e∧xs.length≤9223372036854775807:=by
 cases y with
 | l xs=>
  simp only [Wt,hu] at x;obtain ⟨e',h1,h2,h3⟩:=x;simp only [Option.some.injEq,TypeDesc.slice.injEq] at h1;subst h1;exact ⟨xs,rfl,h2,h3⟩
 | i _=>simp only [Wt,hu] at x;cases x.1
 | b _=>simp only [Wt,hu] at x;cases x
 | s _=>simp only [Wt,hu] at x;cases x.1
 | t _=>simp only [Wt,hu] at x;obtain ⟨e,h1,_⟩:=x;cases h1
theorem Wt.struct_inv {y:D} {t:TypeId} {fs:Array Field} (hu:P.underlying t=some (.struct fs)) (x:Wt P y t):∃ xs,y=.t xs∧Wf P xs fs.toList:=by
 cases y with
 | t xs=>
  simp only [Wt,hu] at x;obtain ⟨e',h1,h2⟩:=x;simp only [Option.some.injEq,TypeDesc.struct.injEq] at h1;subst h1;exact ⟨xs,rfl,h2⟩
 | i _=>simp only [Wt,hu] at x;cases x.1
 | b _=>simp only [Wt,hu] at x;cases x
 | s _=>simp only [Wt,hu] at x;cases x.1
 | l _=>simp only [Wt,hu] at x;obtain ⟨e,h1,_⟩:=x;cases h1
theorem Wl.mem:∀ {xs:List D} {e:TypeId},Wl P xs e→∀ y∈xs,Wt P y e
 | [],_,_,y,hy=>by cases hy
 | z::r,e,x,y,hy=>by
  simp only [Wl] at x;rcases List.mem_cons.1 hy with rfl | hy
  ·exact x.1
  ·exact x.2.mem y hy
theorem Wl.strs {e:TypeId} (hu:P.underlying e=some .string):∀ {xs:List D},Wl P xs e→∃ l:List Bs,xs=l.map D.s∧∀ s∈l,s.length≤9223372036854775807
 | [],_=>⟨[],rfl,by simp⟩
 | z::r,x=>by
  simp only [Wl] at x;obtain ⟨s,rfl,hs⟩:=x.1.str_inv hu;obtain ⟨l,rfl,hl⟩:=Wl.strs hu x.2;refine ⟨s::l,rfl,fun y hy=>?_⟩;rcases List.mem_cons.1 hy with rfl | hy
  ·exact hs
  ·exact hl y hy
end
noncomputable def pB5:Array Field:=match Tryz.prog.underlying 41 with | some (.struct fs)=>fs | _=>#[]
theorem vB2:Tryz.prog.underlying 41=some (.struct pB5):=by kernel_rfl
theorem kAm:pB5.toList.map (·.type)=[3,9,38,39]:=by kernel_rfl
theorem qAh:Tryz.prog.underlying 38=some (.slice 9):=by kernel_rfl
theorem wB2:Tryz.prog.underlying 39=some (.slice 41):=by kernel_rfl
theorem Wf.of_types {P:Program} {xs:List D}:∀ {fs:List Field} {ts:List TypeId},fs.map (·.type)=ts→Wf P xs fs→xs.length=ts.length∧∀ (i:Nat) (y:D) (t:TypeId),xs[i]? = some y→ts[i]? = some t→Wt P y t:=by
 induction xs with
 | nil=>
  intro fs ts h x
  cases fs with
  | nil=>subst h;exact ⟨rfl,fun i y t h1 h2=>by simp at h1⟩
  | cons f r=>simp only [Wf] at x
 | cons y r ih=>
  intro fs ts h x
  cases fs with
  | nil=>simp only [Wf] at x
  | cons f q=>
   subst h;simp only [Wf] at x;obtain ⟨h1,h2⟩:=ih rfl x.2;refine ⟨by simpa using h1,fun i z t e1 e2=>?_⟩
   cases i with
   | zero=>simp only [List.getElem?_cons_zero,List.map_cons,Option.some.injEq] at e1 e2;subst e1 e2;exact x.1
   | succ i=>exact h2 i z t (by simpa using e1) (by simpa using e2)
theorem tZ {y:D} (x:Wt Tryz.prog y 41):∃ k nm lv el,y=tyD k nm lv el∧nm.length≤9223372036854775807∧lv.length≤9223372036854775807∧el.length≤9223372036854775807∧(∀ s∈lv,s.length≤9223372036854775807)∧(∀ e∈el,Wt Tryz.prog e 41)∧-9223372036854775808≤k∧k≤9223372036854775807:=by
 obtain ⟨xs,rfl,hx⟩:=x.struct_inv vB2;obtain ⟨h1,h2⟩:=hx.of_types kAm
 match xs,h1,h2 with
 | [a,b,c,d],_,h2=>
  obtain ⟨k,rfl,hk⟩:=(h2 0 a 3 rfl rfl).int_inv Tryz.underlying3;obtain ⟨nm,rfl,hn⟩:=(h2 1 b 9 rfl rfl).str_inv Tryz.underlying9;obtain ⟨ls,rfl,hl,hl2⟩:=(h2 2 c 38 rfl rfl).slice_inv qAh;obtain ⟨lv,rfl,hv⟩:=hl.strs Tryz.underlying9;obtain ⟨el,rfl,he,he2⟩:=(h2 3 d 39 rfl rfl).slice_inv wB2;exact ⟨k,nm,lv,el,rfl,hn,by simpa using hl2,he2,hv,he.mem,hk⟩
end Qp
namespace Qp
inductive PT where
 | int | bool | st (nm:Bs) (lv:List Bs) | ref (mu:Bool) (lv:List Bs) (t:PT)
def PT.D:PT→D
 | .int=>tyD 1 [] [] []
 | .bool=>tyD 2 [] [] []
 | .st nm lv=>tyD 3 nm lv []
 | .ref mu lv t=>tyD (if mu=true then 5 else 4) [] lv [t.D]
def dU (s:Bs):Prop:=yC s=true∨∃ a b,s=a++[58,58]++b∧yC a=true∧yC b=true
def PT.ok:Nat→PT→Prop
 | 0,_=>False
 | _+1,.int=>True
 | _+1,.bool=>True
 | _+1,.st nm lv=>dU nm∧lv.length≤64∧∀ x∈lv,qE x=true
 | g+1,.ref _ lv t=>lv.length≤1∧(∀ x∈lv,qE x=true)∧t.ok g
theorem pA7 {N:Nat} (hN:40≤N) (t:Bs) (h:Heap):f68 N t h=some (qE t,h):=by
 by_cases q:t.length≤32
 ·exact qAv (by omega) (by omega) h
 ·unfold f68
  have e1:wB 1 (Int.ofNat t.length)=true:=by rw [leI,decide_eq_true_eq];show (1:Int)≤(t.length:Int);omega
  have e2:wB (Int.ofNat t.length) 32=false:=by rw [leI,decide_eq_false_iff_not];show ¬ (t.length:Int)≤32;omega
  simp only [e1,e2,cond_true,cond_false,qE,q,decide_false,Bool.and_false,Bool.false_and]
theorem gI {N:Nat} (hN:40≤N) (t:Bs) (h:Heap):∃ h',f46 N t h=some (yC t,h')∧Chg [] h h':=by
 unfold f46 yC;rw [pA7 hN,aA]
 cases hl:qE t with
 | false=>exact ⟨h,rfl,Chg.refl _ _⟩
 | true=>
  simp only [cond_true];rw [pAv (by omega),aA];exact ⟨_,rfl,uA _ _⟩
theorem rAh {N:Nat} {s:Bs} (hs:s.length≤9223372036854775807) (hN:40≤N):∀ (M i:Nat) (h:Heap),(i<s.length∨(i=0∧s.length=0))→s.length-i<M→
  ∃ o b h',iAb N M s false (i:Int) h=some (o,(s,b,()),h')∧Chg [] h h'∧(o=.exit 0∨(o=.ret∧(b=true→dU s))):=by
 intro M
 induction M with
 | zero=>intro i _ _ h;omega
 | succ M ih=>
  intro i h hi hM;rw [kA7];unfold pZ;have hw:bB .i64 ((i:Int)+1)=((i+1:Nat):Int):=lD (by omega) (by omega);simp only [hw,vF]
  by_cases q:i+1<s.length
  ·simp only [q,decide_true,cond_true]
   have hw2:bB .i64 ((i:Int)+2)=((i+2:Nat):Int):=lD (by omega) (by omega);simp only [hw2];rw [lAb (by omega) (by omega),sub_eq];simp only [bA,qA]
   cases he:aB ((s.drop i).take 2) [58,58] with
   | true=>
    simp only [cond_true];rw [gX (by omega)];simp only [bA,qA];obtain ⟨h8,e8,c8⟩:=gI hN (s.take i) h;rw [e8,aA]
    cases ha:yC (s.take i) with
    | false=>
     simp only [cond_false];exact ⟨_,_,_,rfl,c8,.inr ⟨rfl,fun h=>by cases h⟩⟩
    | true=>
     simp only [cond_true];rw [aAe (by omega)];simp only [bA,qA];obtain ⟨h12,e12,c12⟩:=gI hN (s.drop (i+2)) h8;rw [e12,aA];refine ⟨_,_,_,rfl,c8.trans c12,.inr ⟨rfl,fun hb=>.inr ⟨s.take i,s.drop (i+2),?_,ha,hb⟩⟩⟩;have h2:(s.drop i).take 2=[58,58]:=eqB.1 he;rw [← h2,← List.drop_drop,List.append_assoc,List.take_append_drop,List.take_append_drop]
   | false=>
    simp only [cond_false];exact ih (i+1) h (by omega) (by omega)
  ·simp only [q,decide_false,cond_false]
   exact ⟨_,_,_,rfl,Chg.refl _ _,.inl rfl⟩
theorem nAo {N:Nat} {s:Bs} (hs:s.length≤9223372036854775807) (hN:40≤N) (hN2:s.length<N) (h:Heap):∃ b h',f51 N s h=some (b,h')∧Chg [] h h'∧(b=true→dU s):=by
 unfold f51;obtain ⟨o,b,h',e,c,hc⟩:=rAh (N:=N) hs hN N 0 h (by omega) (by omega);rw [show ((0:Nat):Int)=0 from rfl] at e;rw [e];simp only [mB];rcases hc with rfl | ⟨rfl,hb⟩
 ·simp only [mC,decide_true,cond_true]
  obtain ⟨h2,e2,c2⟩:=gI hN s h';rw [e2,aA];exact ⟨_,_,rfl,c.trans c2,fun hb=>.inl hb⟩
 ·simp only [eH,cond_false]
  exact ⟨_,_,rfl,c,hb⟩
theorem dAe {N:Nat} {h:Heap} {V:Nat→Prop} {v:SL} {lv:List Bs} (x:Sl h V v (lv.map D.s)) (hN:40≤N) (hl:lv.length≤9223372036854775807):∀ (M i:Nat),i≤lv.length→i≤65→65-i<M→(∀ j,(hj:j<lv.length)→j<i→qE lv[j]=true)→
  ∃ o b,jAb N M v false (i:Int) h=some (o,(v,b,()),h)∧((o=.exit 0∧(lv.length≤64→∀ y∈lv,qE y=true))∨(o=.ret∧b=false)):=by
 intro M
 induction M with
 | zero=>intro i _ _ h;omega
 | succ M ih=>
  intro i hi hi2 hM hp;rw [lA7];unfold qZ;have hv:v.len=lv.length:=by rw [x.len,List.length_map]
  have z:ltInt (i:Int) 65=decide (i<65):=aC i 65;simp only [vF,hv,z];have done:¬ i<lv.length∨¬ i<65→lv.length≤64→∀ y∈lv,qE y=true:=fun hd hl y hy=>by
   obtain ⟨j,hj,rfl⟩:=List.getElem_of_mem hy;exact hp j hj (by omega)
  by_cases q:i<lv.length
  ·by_cases q2:i<65
   ·simp only [q,q2,decide_true,cond_true]
    rw [← hv,x.ix (by rw [List.length_map];exact q) 1,gK x q,hv];simp only [bA,qA];rw [pA7 hN,aA]
    cases hb:qE lv[i] with
    | false=>
     simp only [Bool.not_false,cond_true];exact ⟨_,_,rfl,.inr ⟨rfl,rfl⟩⟩
    | true=>
     simp only [Bool.not_true,cond_false];rw [eB (by omega)];refine ih (i+1) q (by omega) (by omega) fun j hj hji=>?_
     by_cases e:j=i
     ·subst e;exact hb
     ·exact hp j hj (by omega)
   ·simp only [q,q2,decide_true,decide_false,cond_true,cond_false]
    exact ⟨_,_,rfl,.inl ⟨rfl,done (.inr q2)⟩⟩
  ·simp only [q,decide_false,cond_false]
   exact ⟨_,_,rfl,.inl ⟨rfl,done (.inl q)⟩⟩
theorem nAb {N:Nat} {h:Heap} {V:Nat→Prop} {v:SL} {lv:List Bs} (x:Sl h V v (lv.map D.s)) (hN:100≤N) (hl:lv.length≤9223372036854775807):∃ b,f47 N v h=some (b,h)∧(b=true→lv.length≤64∧∀ y∈lv,qE y=true):=by
 unfold f47;obtain ⟨o,b,e,hc⟩:=dAe (N:=N) x (by omega) hl N 0 (Nat.zero_le _) (by omega) (by omega) (fun j _ h=>by omega);rw [show ((0:Nat):Int)=0 from rfl] at e;rw [e];simp only [mB];have hv:v.len=lv.length:=by rw [x.len,List.length_map]
 rcases hc with ⟨rfl,hp⟩ | ⟨rfl,rfl⟩
 ·simp only [mC,decide_true,cond_true]
  have z:wB (Int.ofNat v.len) 64=decide (lv.length≤64):=by rw [hv];exact kA4 _ 64
  rw [z];exact ⟨_,rfl,fun hd=>⟨of_decide_eq_true hd,hp (of_decide_eq_true hd)⟩⟩
 ·simp only [eH,cond_false]
  exact ⟨_,rfl,fun h=>by cases h⟩
end Qp
namespace Qp
theorem tAh:∀ {xs:List D} {x:D},x∈xs→wtD x≤wtL xs
 | y::r,x,h=>by
  simp only [wtL];rcases List.mem_cons.1 h with rfl | h
  ·omega
  ·have:=tAh h;omega
theorem yAv (k:Int) (nm:Bs) (lv:List Bs) (el:List D):nm.length<wtD (tyD k nm lv el)∧wtL el<wtD (tyD k nm lv el):=by
 simp only [tyD,wtD,wtL];omega
theorem uAh {r:TyV} {k:Int} {x:Bs} {s1 s2:SL} (hc:tyc r=tyc (k,x,s1,s2,())):r=(k,x,s1,s2,()):=by
 obtain ⟨k',x',s1',s2',_⟩:=r;simp only [tyc,List.cons.injEq,AV.int.injEq,AV.str.injEq,true_and,and_true] at hc;obtain ⟨rfl,rfl,h3,h4⟩:=hc;rw [SL.av_inj h3,SL.av_inj h4]
theorem yB2 {α:Type} {l:List α} {s:SL} (h:s.len=l.length) (hz:iA (Int.ofNat s.len) 0=true):l=[]:=by
 rw [eqI,decide_eq_true_eq,h] at hz;exact List.length_eq_zero_iff.1 (Int.ofNat.inj hz)
theorem vAh {N:Nat} (hN:100≤N):∀ (g M:Nat) (h:Heap) (r:TyV) (x:D) (V:Nat→Prop),g<M→g≤64→wtD x<N→Wt Tryz.prog x 41→Dt h V x (tyc r)→
  ∃ b h',f21 N M r ((65-g:Nat):Int) h=some (b,h')∧Chg [] h h'∧(b=true→∃ p:PT,x=p.D∧p.ok g):=by
 intro g
 induction g with
 | zero=>
  intro M h r x V hM hg hw ht hd;obtain ⟨M,rfl⟩:∃ m,M=m+1:=⟨M-1,by omega⟩;rw [kAb];unfold bAm;rw [show ltInt 64 ((65-0:Nat):Int)=true from rfl];exact ⟨_,_,rfl,uA _ _,fun h=>by cases h⟩
 | succ g ih=>
  intro M h r x V hM hg hw ht hd;obtain ⟨M,rfl⟩:∃ m,M=m+1:=⟨M-1,by omega⟩;rw [kAb];unfold bAm;obtain ⟨k,nm,lv,el,rfl,hnm,hlv,hel,hlv2,helt,hk⟩:=tZ ht;obtain ⟨s1,s2,hc,l1,t1⟩:=jG.1 hd;have er:=uAh hc;subst er;have o1:=vA h (tyc (k,nm,s1,s2,()));have c1:=uA h (.row (tyc (k,nm,s1,s2,())) .own);have g1:h.push (.row [(.int .i64 (k,nm,s1,s2,()).1),(.str (k,nm,s1,s2,()).2.1),(.slice (k,nm,s1,s2,()).2.2.1.a (k,nm,s1,s2,()).2.2.1.len (k,nm,s1,s2,()).2.2.1.cap (k,nm,s1,s2,()).2.2.1.sz),(.slice (k,nm,s1,s2,()).2.2.2.1.a (k,nm,s1,s2,()).2.2.2.1.len (k,nm,s1,s2,()).2.2.2.1.cap (k,nm,s1,s2,()).2.2.2.1.sz)] .own)=h.push (.row (tyc (k,nm,s1,s2,())) .own):=rfl;rw [g1];generalize h.push (.row (tyc (k,nm,s1,s2,())) .own)=h1 at *;have z:ltInt 64 ((65-(g+1):Nat):Int)=false:=by
   rw [show (64:Int)=((64:Nat):Int) from rfl,aC,decide_eq_false_iff_not];omega
  dsimp only;rw [z];have a0:h1.cell (h.next,0)=some (.int .i64 k):=o1.cell 0;have a1:h1.cell (h.next,1)=some (.str nm):=o1.cell 1;have a2:h1.cell (h.next,2)=some (SL.av s1):=o1.cell 2;have a3:h1.cell (h.next,3)=some (SL.av s2):=o1.cell 3;simp only [SL.av] at a2 a3;have l1':=l1.chg c1 (by simp);have t1':=t1.chg c1 (by simp);have hl1:s1.len=lv.length:=by rw [l1.len,List.length_map]
  obtain ⟨w1,w2⟩:=yAv k nm lv el;simp only [cond_false,Nat.add_zero,Nat.zero_add,a0,bA,fB,eqI]
  by_cases k12:k=1∨k=2
  ·have base:(kA (α:=zK1) (bif decide (k=1) then some ((((65-(g+1):Nat):Int),(some (h.next,0)),k,decide (k=1),()),h1) else some ((((65-(g+1):Nat):Int),(some (h.next,0)),k,decide (k=2),()),h1))=kA (α:=zK1) (β:=Bool×Heap) (some ((((65-(g+1):Nat):Int),(some (h.next,0)),k,true,()),h1))):=by
    rcases k12 with rfl | rfl <;> rfl
   rw [base];simp only [aA,cond_true,fA,a1,a2,a3,bA,qA,jA]
   cases e1:aB nm [] with
   | false=>exact ⟨_,_,rfl,c1,fun h=>by cases h⟩
   | true=>
    simp only [cond_true]
    cases e2:iA (Int.ofNat s1.len) 0 with
    | false=>simp only [e2,← eqI,cond_false];exact ⟨_,_,rfl,c1,fun h=>by cases h⟩
    | true=>
     simp only [e2,← eqI,cond_true];refine ⟨_,_,rfl,c1,fun hb=>?_⟩;rw [eqB.1 e1,yB2 hl1 e2,yB2 t1.len hb];rcases k12 with rfl | rfl
     ·exact ⟨.int,rfl,trivial⟩
     ·exact ⟨.bool,rfl,trivial⟩
  ·have k1:¬ k=1:=fun e=>k12 (.inl e)
   have k2:¬ k=2:=fun e=>k12 (.inr e);simp only [k1,k2,decide_false,cond_false,aA]
   by_cases k3:k=3
   ·simp only [k3,decide_true,cond_true,fA,a1,a2,bA,qA,jA]
    obtain ⟨b,h21,e21,c21,p21⟩:=nAo (N:=N) hnm (by omega) (by omega) h1;rw [e21,aA]
    cases b with
    | false=>exact ⟨_,_,rfl,c1.trans c21,fun h=>by cases h⟩
    | true=>
     have o2:=o1.chg c21 (by simp);have b2:h21.cell (h.next,2)=some (SL.av s1):=o2.cell 2;have b3:h21.cell (h.next,3)=some (SL.av s2):=o2.cell 3;simp only [SL.av] at b2 b3;simp only [cond_true,b2,b3,bA,jA];obtain ⟨b,e47,p47⟩:=nAb (N:=N) (l1'.chg c21 (by simp)) hN hlv;have e47':f47 N ⟨s1.a,s1.len,s1.cap,s1.sz⟩ h21=some (b,h21):=e47;rw [e47',aA]
     cases b with
     | false=>exact ⟨_,_,rfl,c1.trans c21,fun h=>by cases h⟩
     | true=>
      simp only [cond_true,b3,bA,jA,← eqI];refine ⟨_,_,rfl,c1.trans c21,fun hb=>?_⟩;rw [yB2 t1.len hb];exact ⟨.st nm lv,rfl,p21 rfl,(p47 rfl).1,(p47 rfl).2⟩
   ·simp only [k3,decide_false,cond_false]
    by_cases k45:k=4∨k=5
    ·have base:(kA (α:=zU1) (bif decide (k=4) then some ((((65-(g+1):Nat):Int),(some (h.next,0)),decide (k=4),()),h1) else some ((((65-(g+1):Nat):Int),(some (h.next,0)),decide (k=5),()),h1))=kA (α:=zU1) (β:=Bool×Heap) (some ((((65-(g+1):Nat):Int),(some (h.next,0)),true,()),h1))):=by
      rcases k45 with rfl | rfl <;> rfl
     rw [base];simp only [aA,cond_true,fA,a1,a2,a3,bA,qA,jA]
     cases e1:aB nm [] with
     | false=>exact ⟨_,_,rfl,c1,fun h=>by cases h⟩
     | true=>
      simp only [cond_true];have z1:wB (Int.ofNat s1.len) 1=decide (lv.length≤1):=by rw [hl1];exact kA4 _ 1
      rw [z1]
      by_cases q1:lv.length≤1
      ·simp only [q1,decide_true,cond_true]
       obtain ⟨b,e47,p47⟩:=nAb (N:=N) l1' hN hlv;have e47':f47 N ⟨s1.a,s1.len,s1.cap,s1.sz⟩ h1=some (b,h1):=e47;rw [e47',aA]
       cases b with
       | false=>exact ⟨_,_,rfl,c1,fun h=>by cases h⟩
       | true=>
        simp only [cond_true,a3,bA,jA];have z2:decide (Int.ofNat s2.len=1)=decide (el.length=1):=by
         rw [t1.len]
         by_cases q:el.length=1
         ·simp [q]
         ·rw [decide_eq_false q,decide_eq_false];intro e;exact q (Int.ofNat.inj e)
        rw [z2]
        by_cases q2:el.length=1
        ·simp only [q2,decide_true,cond_true]
         obtain ⟨e,rfl⟩:∃ e,el=[e]:=List.length_eq_one_iff.1 q2;have hte:=helt e (by simp);have hty:∃ k nm lv el,e=tyD k nm lv el:=by obtain ⟨k,nm,lv,el,h,_⟩:=tZ hte;exact ⟨k,nm,lv,el,h⟩
         have ecell:∃ r':TyV,h1.cells (s2.at 0 4) 4=some (.agg (tyc r'))∧Dt h1 V e (tyc r'):=by
          obtain ⟨cs,ee⟩:=t1'.elt (i:=0) (by simp);obtain ⟨k',nm',lv',el',hk'⟩:=hty;have hde:=ee.dt;simp only [List.getElem_cons_zero] at hde;rw [hk'] at hde;obtain ⟨u1,u2,hcs,_⟩:=jG.1 hde;have hz:s2.sz=4:=by rw [← ee.len,hcs];rfl
          have hwh:=ee.whole;rw [hz,hcs] at hwh;refine ⟨_,hwh,?_⟩;rw [← hcs,hk'];exact hde
         obtain ⟨r',er',dr'⟩:=ecell;have hix:∀ {β:Type} (K:Nat×Nat→Option β),ixK s2.a s2.len 0 4 K=K (s2.at 0 4):=fun K=>t1'.ix (i:=0) (by simp) 4 K;rw [hix,er',yR,eB (by omega),show 65-(g+1)+1=65-g by omega];have hwe:wtD e<N:=by simp only [wtL] at w2;omega
         obtain ⟨b,h52,e52,c52,p52⟩:=ih M h1 r' e V (by omega) (by omega) hwe hte dr';show ∃ b h',(kA (f21 N M r' ((65-g:Nat):Int) h1) _)=_∧_;rw [e52,aA];refine ⟨_,_,rfl,c1.trans c52,fun hb=>?_⟩;obtain ⟨p,hp1,hp2⟩:=p52 hb;rw [eqB.1 e1,hp1];rcases k45 with rfl | rfl
         ·exact ⟨.ref false lv p,rfl,q1,(p47 rfl).2,hp2⟩
         ·exact ⟨.ref true lv p,rfl,q1,(p47 rfl).2,hp2⟩
        ·simp only [q2,decide_false,cond_false]
         exact ⟨_,_,rfl,c1,fun h=>by cases h⟩
      ·simp only [q1,decide_false,cond_false]
       exact ⟨_,_,rfl,c1,fun h=>by cases h⟩
    ·have k4:¬ k=4:=fun e=>k45 (.inl e)
     have k5:¬ k=5:=fun e=>k45 (.inr e);simp only [k4,k5,decide_false,cond_false,aA];exact ⟨_,_,rfl,c1,fun h=>by cases h⟩
end Qp
namespace Qp
def qQ:List Bs→Bs
 | []=>[]
 | x::r=>[44,32,39]++x++qQ r
def eG:List Bs→Bs
 | []=>[]
 | x::r=>[60,39]++x++qQ r++[62]
def PT.txt:PT→Bs
 | .int=>[105,110,116]
 | .bool=>[98,111,111,108]
 | .st nm lv=>nm++eG lv
 | .ref mu lv t=>[38]++(match lv with | []=>[] | x::_=>[39]++x++[32])++(if mu=true then [109,117,116,32] else [])++t.txt
theorem tD {x:Bs} (h:qE x=true):1≤x.length∧x.length≤32:=by
 simp only [qE,Bool.and_eq_true,decide_eq_true_eq] at h;exact ⟨h.1.1.1,h.1.1.2⟩
theorem jX:∀ {lv:List Bs},(∀ x∈lv,qE x=true)→(qQ lv).length≤lv.length * 35
 | [],_=>by simp [qQ]
 | x::r,h=>by
  have h1:=tD (h x (by simp));have h2:=jX (lv:=r) fun y hy=>h y (by simp [hy]);simp only [qQ,List.length_append,List.length_cons,List.length_nil];omega
section
variable {N:Nat} {h:Heap} {V:Nat→Prop}
theorem eU {x:Bs} (h:yC x=true):1≤x.length∧x.length≤32:=by
 simp only [yC,Bool.and_eq_true] at h;exact tD h.1
theorem fH {x:Bs} (h:dU x):x.length≤66:=by
 rcases h with h | ⟨a,b,rfl,ha,hb⟩
 ·have:=eU h;omega
 ·have h1:=eU ha
  have h2:=eU hb;simp only [List.length_append,List.length_cons,List.length_nil];omega
theorem kX {lv:List Bs} (hl:lv.length≤64) (hlv:∀ y∈lv,qE y=true):(eG lv).length≤2400:=by
 cases lv with
 | nil=>simp [eG]
 | cons x r=>
  have h1:=tD (hlv x (by simp));have h2:=jX (lv:=r) fun y hy=>hlv y (by simp [hy]);simp only [List.length_cons] at hl;simp only [eG,List.length_append,List.length_cons,List.length_nil];omega
theorem qA7:∀ {g:Nat} {p:PT},p.ok g→p.txt.length≤2500+g * 40
 | 0,p,h=>by cases p <;> cases h
 | g+1,.int,_=>by simp only [PT.txt,List.length_cons,List.length_nil];omega
 | g+1,.bool,_=>by simp only [PT.txt,List.length_cons,List.length_nil];omega
 | g+1,.st nm lv,⟨h1,h2,h3⟩=>by
  have:=fH h1
  have:=kX h2 h3
  simp only [PT.txt,List.length_append];omega
 | g+1,.ref mu lv t,⟨h1,h2,h3⟩=>by
  have ih:=qA7 h3
  cases lv with
  | nil=>cases mu <;> simp only [PT.txt,List.length_append,List.length_cons,List.length_nil,if_true,if_false,Bool.false_eq_true] <;> omega
  | cons x r=>
   have:=tD (h2 x (by simp))
   cases mu <;> simp only [PT.txt,List.length_append,List.length_cons,List.length_nil,if_true,if_false,Bool.false_eq_true] <;> omega
theorem oAq:∀ {g:Nat} {p:PT},p.ok g→isTy g p.D
 | 0,p,h=>by cases p <;> cases h
 | g+1,.int,_=>⟨1,[],[],[],rfl,by simp,by simp,by simp⟩
 | g+1,.bool,_=>⟨2,[],[],[],rfl,by simp,by simp,by simp⟩
 | g+1,.st nm lv,⟨h1,h2,h3⟩=>⟨3,nm,lv,[],rfl,by omega,by simp,by simp⟩
 | g+1,.ref mu lv t,⟨h1,h2,h3⟩=>⟨_,[],lv,[t.D],rfl,by omega,by simp,fun e he=>by
   rw [List.mem_singleton] at he;subst he;exact oAq h3⟩
end
end Qp
namespace Qp
abbrev KT:=Int×Bs
def kt (q:Tok):KT:=(q.1,q.2.1)
theorem wAh:∀ {x:Bs},runN x=x.length→∀ c∈x,mA7 c=true
 | [],_,c,hc=>by cases hc
 | d::x,h,c,hc=>by
  simp only [runN] at h
  split at h
  ·rename_i hd
   rcases List.mem_cons.1 hc with rfl | hc
   ·exact hd
   ·exact wAh (by simpa using h) c hc
  ·simp at h
theorem rA7 {x:Bs} (h:qE x=true):∃ c q,x=c::q∧yE c=true∧(∀ c∈x,mA7 c=true)∧x.length≤32:=by
 simp only [qE,Bool.and_eq_true,decide_eq_true_eq] at h;obtain ⟨⟨⟨h1,h2⟩,h3⟩,h4⟩:=h
 cases x with
 | nil=>simp at h1
 | cons c q=>exact ⟨c,q,rfl,h3,wAh h4,h2⟩
end Qp
namespace Qp
section
variable {N:Nat} {h:Heap}
end
section
variable {T l r:List Tok} {i:Nat} {k:Int} {x w:Bs} {a:Nat}
end
end Qp
namespace Qp
section
variable {T r:List Tok} {i a c:Nat}
end
end Qp
namespace Qp
section
variable {T' T:List Tok} {E:Nat} {Bd:Int×Int→Prop} {α β γ:Type}
end
end Qp
namespace Qp
noncomputable section
def fU (N:Nat) (go:SL→SL→Bool→Int→Int→Heap→Option (Out×zA1×Heap)) (v0 v1:SL) (v4:Bool) (v12 v13:Int) (h:Heap):Option (Out×zA1×Heap):=let x2:=ltInt v13 v12;(bif x2 then(ixK v0.a v0.len v13 1 fun q3=>(dA (.val zH2) (h.cell q3) fun (x4:zL2)=>(ixK v1.a v1.len v13 1 fun q5=>(dA (.val zH2) (h.cell q5) fun (x6:zL2)=>let x7:=!aB x4 x6;(bif x7 then some (Out.ret,(false,()),h)else let x8:=bB .i64 (v13+1);go v0 v1 v4 v12 x8 h)))))else some ((Out.exit 0),(v4,()),h))
def uZ (N M:Nat) (v0 v1:SL) (v4:Bool) (v12 v13:Int) (h:Heap):Option (Out×zA1×Heap):=iter (fun go s h=>fU N (fun v0 v1 v4 v12 v13 h=>go (v0,v1,v4,v12,v13,()) h) s.1 s.2.1 s.2.2.1 s.2.2.2.1 s.2.2.2.2.1 h) M (v0,v1,v4,v12,v13,()) h
theorem oA4 (N M v0 v1 v4 v12 v13 h):uZ N (M+1) v0 v1 v4 v12 v13 h=fU N (uZ N M) v0 v1 v4 v12 v13 h:=rfl
def f106 (N:Nat) (a0 a1:SL) (h:Heap):Option (Bool×Heap):=let x1:=!iA (Int.ofNat a0.len) (Int.ofNat a1.len);(bif x1 then some (false,h)else(wC (uZ N N a0 a1 false (Int.ofNat a0.len) 0 h) fun o9 (j10:zA1) h11=>(bif bD o9 (.exit 0) then some (true,h11)else some (j10.1,h11))))
def aAw:Ann:=(.two .n (.two .n (.two (.two .n (.two (.loop [(0,zG2),(1,zG2),(4,zI2),(12,zJ2),(13,zJ2)] [(.exit 0),.ret] [(4,zI2)] .n) .n)) .n)))
theorem tA7 (N:Nat):kC Tryz.prog 106 [zG2,zG2] (.val zI2) (fun x h=>f106 N x.1 x.2.1 h):=fD nA N aAw Tryz.f106
def oAb (N:Nat) (rec112:zU→zU→Heap→Option (Bool×Heap)) (rec162c112 rec193c112:SL→SL→(Unit)→Heap→Option (Bool×Heap)) (a0 a1:zU) (h:Heap):Option (Bool×Heap):=let h1:=h.push (.row (yRE a0) .own);let h2:=h1.push (.row (yRE a1) .own);(dA (.val zJ2) (h2.cell ((h.next,0).1,(h.next,0).2+0)) fun (x3:Int)=>(dA (.val zJ2) (h2.cell ((h1.next,0).1,(h1.next,0).2+0)) fun (x4:Int)=>let x5:=iA x3 x4;(bif x5 then(dA (.val zH2) (h2.cell ((h.next,0).1,(h.next,0).2+1)) fun (x6:zL2)=>(dA (.val zH2) (h2.cell ((h1.next,0).1,(h1.next,0).2+1)) fun (x7:zL2)=>let x8:=aB x6 x7;(bif x8 then(dA (.val zG2) (h2.cell ((h.next,0).1,(h.next,0).2+2)) fun (x9:SL)=>(dA (.val zG2) (h2.cell ((h1.next,0).1,(h1.next,0).2+2)) fun (x10:SL)=>(kA (f106 N x9 x10 h2) fun (x11:Bool) h12=>(bif x11 then(dA (.val zG2) (h12.cell ((h.next,0).1,(h.next,0).2+3)) fun (x13:SL)=>(dA (.val zG2) (h12.cell ((h1.next,0).1,(h1.next,0).2+3)) fun (x14:SL)=>(kA (rec162c112 x13 x14 (()) h12) fun (x15:Bool) h16=>some (x15,h16))))else some (false,h12)))))else some (false,h2))))else some (false,h2))))
def bAw:Ann:=.n
def gP (N:Nat) (rec112:zU→zU→Heap→Option (Bool×Heap)) (rec162c112 rec193c112:SL→SL→(Unit)→Heap→Option (Bool×Heap)) (a0 a1:SL) (a2:(Unit)) (h:Heap):Option (Bool×Heap):=(kA (rec193c112 a0 a1 (()) h) fun (x1:Bool) h2=>some (x1,h2))
def eAe:Ann:=.n
def vZ (N:Nat) (rec112:zU→zU→Heap→Option (Bool×Heap)) (rec162c112 rec193c112:SL→SL→(Unit)→Heap→Option (Bool×Heap)) (go:SL→(Unit)→Bool→SL→Int→Int→Heap→Option (Out×zA1×Heap)) (v1:SL) (v2:(Unit)) (v6:Bool) (v15:SL) (v16 v17:Int) (h:Heap):Option (Out×zA1×Heap):=let x2:=ltInt v17 v16;(bif x2 then(ixK v15.a v15.len v17 4 fun q3=>(dA (.val zE) (h.cells q3 4) fun (x4:zU)=>let h5:=h.push (.row yZE .own);(tA (h5.store (h.next,0) (yRE x4)) fun h6=>(ixK v1.a v1.len v17 4 fun q7=>(dA (.val zE) (h6.cells q7 4) fun (x8:zU)=>let h9:=h6.push (.row yZE .own);(tA (h9.store (h6.next,0) (yRE x8)) fun h10=>(dA (.val zE) (h10.cells (h.next,0) 4) fun (x11:zU)=>(dA (.val zE) (h10.cells (h6.next,0) 4) fun (x12:zU)=>(kA (rec112 (x11.1,x11.2.1,x11.2.2.1,x11.2.2.2.1,()) (x12.1,x12.2.1,x12.2.2.1,x12.2.2.2.1,()) h10) fun (x13:Bool) h14=>let x15:=!x13;(bif x15 then some (Out.ret,(false,()),h14)else let x16:=bB .i64 (v17+1);go v1 (()) v6 v15 v16 x16 h14))))))))))else some ((Out.exit 0),(v6,()),h))
def gU (N:Nat) (rec112:zU→zU→Heap→Option (Bool×Heap)) (rec162c112 rec193c112:SL→SL→(Unit)→Heap→Option (Bool×Heap)) (M:Nat) (v1:SL) (v2:(Unit)) (v6:Bool) (v15:SL) (v16 v17:Int) (h:Heap):Option (Out×zA1×Heap):=iter (fun go s h=>vZ N rec112 rec162c112 rec193c112 (fun v1 v2 v6 v15 v16 v17 h=>go (v1,v2,v6,v15,v16,v17,()) h) s.1 s.2.1 s.2.2.1 s.2.2.2.1 s.2.2.2.2.1 s.2.2.2.2.2.1 h) M (v1,v2,v6,v15,v16,v17,()) h
def fAe (N:Nat) (rec112:zU→zU→Heap→Option (Bool×Heap)) (rec162c112 rec193c112:SL→SL→(Unit)→Heap→Option (Bool×Heap)) (a0 a1:SL) (a2:(Unit)) (h:Heap):Option (Bool×Heap):=let x1:=!iA (Int.ofNat a0.len) (Int.ofNat a1.len);(bif x1 then some (false,h)else(wC (gU N rec112 rec162c112 rec193c112 N a1 (()) false a0 (Int.ofNat a0.len) 0 h) fun o17 (j18:zA1) h19=>(bif bD o17 (.exit 0) then some (true,h19)else some (j18.1,h19))))
def gAe:Ann:=(.two .n (.two .n (.two (.two .n (.two (.loop [(1,zG2),(2,(.clo 112 [])),(6,zI2),(15,zG2),(16,zJ2),(17,zJ2)] [(.exit 0),.ret] [(6,zI2)] .n) .n)) .n)))
def uA7 (N M:Nat):((zU→zU→Heap→Option (Bool×Heap))×(SL→SL→(Unit)→Heap→Option (Bool×Heap))×(SL→SL→(Unit)→Heap→Option (Bool×Heap))×Unit):=Nat.rec (fun _ _ _=>none,fun _ _ _ _=>none,fun _ _ _ _=>none,()) (fun _ r=>(oAb N r.1 r.2.1 r.2.2.1,gP N r.1 r.2.1 r.2.2.1,fAe N r.1 r.2.1 r.2.2.1,())) M
def f112 (N M:Nat):zU→zU→Heap→Option (Bool×Heap):=(uA7 N M).1
def dO (N M:Nat):SL→SL→(Unit)→Heap→Option (Bool×Heap):=(uA7 N M).2.1
def eO (N M:Nat):SL→SL→(Unit)→Heap→Option (Bool×Heap):=(uA7 N M).2.2.1
theorem yAh (N M a0 a1 h):f112 N (M+1) a0 a1 h=oAb N (f112 N M) (dO N M) (eO N M) a0 a1 h:=rfl
theorem wZ (N M a0 a1 a2 h):dO N (M+1) a0 a1 a2 h=gP N (f112 N M) (dO N M) (eO N M) a0 a1 a2 h:=rfl
theorem cJ (N:Nat):∀ M:Nat,(kC Tryz.prog 112 [zE,zE] (.val zI2) (fun x h=>f112 N M x.1 x.2.1 h))∧(kC Tryz.prog 162 [zG2,zG2,(.clo 112 [])] (.val zI2) (fun x h=>dO N M x.1 x.2.1 x.2.2.1 h))∧(kC Tryz.prog 193 [zG2,zG2,(.clo 112 [])] (.val zI2) (fun x h=>eO N M x.1 x.2.1 x.2.2.1 h))∧True
 | 0=>⟨(fun xs h r h' hx=>by cases hx),(fun xs h r h' hx=>by cases hx),(fun xs h r h' hx=>by cases hx),trivial⟩
 | M+1=>⟨fD (aE (sel:=fun a=>vA3 2 112 a) (cJ N M).2.1 (eA (tA7 N) nA)) N bAw Tryz.f112,fD (aE (sel:=fun a=>vA3 2 112 a) (cJ N M).2.2.1 nA) N eAe Tryz.f162,fD (eA (cJ N M).1 nA) N gAe Tryz.f193,trivial⟩
theorem pAq (N:Nat):kC Tryz.prog 112 [zE,zE] (.val zI2) (fun x h=>f112 N N x.1 x.2.1 h):=(cJ N N).1
def f164 (N:Nat) (a0 a1:zB1) (h:Heap):Option (Bool×Heap):=let h1:=h.push (.row (yRF a0) .own);let h2:=h1.push (.row (yRF a1) .own);(dA (.val zH2) (h2.cell ((h.next,0).1,(h.next,0).2+0)) fun (x3:zL2)=>(dA (.val zH2) (h2.cell ((h1.next,0).1,(h1.next,0).2+0)) fun (x4:zL2)=>let x5:=aB x3 x4;(bif x5 then(dA (.val zG2) (h2.cell ((h.next,0).1,(h.next,0).2+1)) fun (x6:SL)=>(dA (.val zG2) (h2.cell ((h1.next,0).1,(h1.next,0).2+1)) fun (x7:SL)=>(kA (f106 N x6 x7 h2) fun (x8:Bool) h9=>some (x8,h9))))else some (false,h2))))
def cAw:Ann:=.n
theorem yZ (N:Nat):kC Tryz.prog 164 [zG,zG] (.val zI2) (fun x h=>f164 N x.1 x.2.1 h):=fD (eA (tA7 N) nA) N cAw Tryz.f164
def f166 (N:Nat) (a0 a1:zX) (h:Heap):Option (Bool×Heap):=let h1:=h.push (.row (yRC a0) .own);let h2:=h1.push (.row (yRC a1) .own);(dA (.val zJ2) (h2.cell ((h.next,0).1,(h.next,0).2+0)) fun (x3:Int)=>(dA (.val zJ2) (h2.cell ((h1.next,0).1,(h1.next,0).2+0)) fun (x4:Int)=>let x5:=iA x3 x4;(bif x5 then(dA (.val zJ2) (h2.cell ((h.next,0).1,(h.next,0).2+1)) fun (x6:Int)=>(dA (.val zJ2) (h2.cell ((h1.next,0).1,(h1.next,0).2+1)) fun (x7:Int)=>let x8:=iA x6 x7;(bif x8 then(dA (.val zG) (h2.cells ((h.next,0).1,(h.next,0).2+2) 2) fun (x9:zB1)=>(dA (.val zG) (h2.cells ((h1.next,0).1,(h1.next,0).2+2) 2) fun (x10:zB1)=>(kA (f164 N (x9.1,x9.2.1,()) (x10.1,x10.2.1,()) h2) fun (x11:Bool) h12=>some (x11,h12))))else some (false,h2))))else some (false,h2))))
def dAw:Ann:=.n
theorem vA7 (N:Nat):kC Tryz.prog 166 [zD,zD] (.val zI2) (fun x h=>f166 N x.1 x.2.1 h):=fD (eA (yZ N) nA) N dAw Tryz.f166
def aA0 (N:Nat) (go:SL→(Unit)→Bool→SL→Int→Int→Heap→Option (Out×zA1×Heap)) (v1:SL) (v2:(Unit)) (v6:Bool) (v15:SL) (v16 v17:Int) (h:Heap):Option (Out×zA1×Heap):=let x2:=ltInt v17 v16;(bif x2 then(ixK v15.a v15.len v17 4 fun q3=>(dA (.val zD) (h.cells q3 4) fun (x4:zX)=>let h5:=h.push (.row yZC .own);(tA (h5.store (h.next,0) (yRC x4)) fun h6=>(ixK v1.a v1.len v17 4 fun q7=>(dA (.val zD) (h6.cells q7 4) fun (x8:zX)=>let h9:=h6.push (.row yZC .own);(tA (h9.store (h6.next,0) (yRC x8)) fun h10=>(dA (.val zD) (h10.cells (h.next,0) 4) fun (x11:zX)=>(dA (.val zD) (h10.cells (h6.next,0) 4) fun (x12:zX)=>(kA (f166 N (x11.1,x11.2.1,x11.2.2.1,x11.2.2.2.1,()) (x12.1,x12.2.1,x12.2.2.1,x12.2.2.2.1,()) h10) fun (x13:Bool) h14=>let x15:=!x13;(bif x15 then some (Out.ret,(false,()),h14)else let x16:=bB .i64 (v17+1);go v1 (()) v6 v15 v16 x16 h14))))))))))else some ((Out.exit 0),(v6,()),h))
def iU (N M:Nat) (v1:SL) (v2:(Unit)) (v6:Bool) (v15:SL) (v16 v17:Int) (h:Heap):Option (Out×zA1×Heap):=iter (fun go s h=>aA0 N (fun v1 v2 v6 v15 v16 v17 h=>go (v1,v2,v6,v15,v16,v17,()) h) s.1 s.2.1 s.2.2.1 s.2.2.2.1 s.2.2.2.2.1 s.2.2.2.2.2.1 h) M (v1,v2,v6,v15,v16,v17,()) h
def bA0 (N:Nat) (a0 a1:SL) (a2:(Unit)) (h:Heap):Option (Bool×Heap):=let x1:=!iA (Int.ofNat a0.len) (Int.ofNat a1.len);(bif x1 then some (false,h)else(wC (iU N N a1 (()) false a0 (Int.ofNat a0.len) 0 h) fun o17 (j18:zA1) h19=>(bif bD o17 (.exit 0) then some (true,h19)else some (j18.1,h19))))
def iAe:Ann:=(.two .n (.two .n (.two (.two .n (.two (.loop [(1,zG2),(2,(.clo 166 [])),(6,zI2),(15,zG2),(16,zJ2),(17,zJ2)] [(.exit 0),.ret] [(6,zI2)] .n) .n)) .n)))
theorem wA7 (N:Nat):kC Tryz.prog 214 [zG2,zG2,(.clo 166 [])] (.val zI2) (fun x h=>bA0 N x.1 x.2.1 x.2.2.1 h):=fD (eA (vA7 N) nA) N iAe Tryz.f214
def dJ (N:Nat) (a0 a1:SL) (a2:(Unit)) (h:Heap):Option (Bool×Heap):=(kA (bA0 N a0 a1 (()) h) fun (x1:Bool) h2=>some (x1,h2))
def jAe:Ann:=.n
theorem yA7 (N:Nat):kC Tryz.prog 194 [zG2,zG2,(.clo 166 [])] (.val zI2) (fun x h=>dJ N x.1 x.2.1 x.2.2.1 h):=fD (aE (sel:=fun a=>vA3 2 166 a) (wA7 N) nA) N jAe Tryz.f194
def f165 (N:Nat) (a0 a1:zQ) (h:Heap):Option (Bool×Heap):=let h1:=h.push (.row (yRB a0) .own);let h2:=h1.push (.row (yRB a1) .own);(dA (.val zJ2) (h2.cell ((h.next,0).1,(h.next,0).2+0)) fun (x3:Int)=>(dA (.val zJ2) (h2.cell ((h1.next,0).1,(h1.next,0).2+0)) fun (x4:Int)=>let x5:=iA x3 x4;(bif x5 then(dA (.val zD) (h2.cells ((h.next,0).1,(h.next,0).2+1) 4) fun (x6:zX)=>(dA (.val zD) (h2.cells ((h1.next,0).1,(h1.next,0).2+1) 4) fun (x7:zX)=>(kA (f166 N (x6.1,x6.2.1,x6.2.2.1,x6.2.2.2.1,()) (x7.1,x7.2.1,x7.2.2.1,x7.2.2.2.1,()) h2) fun (x8:Bool) h9=>(bif x8 then(dA (.val zD) (h9.cells ((h.next,0).1,(h.next,0).2+5) 4) fun (x10:zX)=>(dA (.val zD) (h9.cells ((h1.next,0).1,(h1.next,0).2+5) 4) fun (x11:zX)=>(kA (f166 N (x10.1,x10.2.1,x10.2.2.1,x10.2.2.2.1,()) (x11.1,x11.2.1,x11.2.2.1,x11.2.2.2.1,()) h9) fun (x12:Bool) h13=>(bif x12 then(dA (.val zJ2) (h13.cell ((h.next,0).1,(h.next,0).2+9)) fun (x14:Int)=>(dA (.val zJ2) (h13.cell ((h1.next,0).1,(h1.next,0).2+9)) fun (x15:Int)=>let x16:=iA x14 x15;(bif x16 then(dA (.val zG) (h13.cells ((h.next,0).1,(h.next,0).2+10) 2) fun (x17:zB1)=>(dA (.val zG) (h13.cells ((h1.next,0).1,(h1.next,0).2+10) 2) fun (x18:zB1)=>(kA (f164 N (x17.1,x17.2.1,()) (x18.1,x18.2.1,()) h13) fun (x19:Bool) h20=>(bif x19 then(dA (.val zH2) (h20.cell ((h.next,0).1,(h.next,0).2+12)) fun (x21:zL2)=>(dA (.val zH2) (h20.cell ((h1.next,0).1,(h1.next,0).2+12)) fun (x22:zL2)=>let x23:=aB x21 x22;(bif x23 then(dA (.val zG2) (h20.cell ((h.next,0).1,(h.next,0).2+13)) fun (x24:SL)=>
 (dA (.val zG2) (h20.cell ((h1.next,0).1,(h1.next,0).2+13)) fun (x25:SL)=>(kA (f106 N x24 x25 h20) fun (x26:Bool) h27=>(bif x26 then(dA (.val zG2) (h27.cell ((h.next,0).1,(h.next,0).2+14)) fun (x28:SL)=>(dA (.val zG2) (h27.cell ((h1.next,0).1,(h1.next,0).2+14)) fun (x29:SL)=>(kA (dJ N x28 x29 (()) h27) fun (x30:Bool) h31=>some (x30,h31))))else some (false,h27)))))else some (false,h20))))else some (false,h20)))))else some (false,h13))))else some (false,h13)))))else some (false,h9)))))else some (false,h2))))
def eAw:Ann:=.n
theorem aAi (N:Nat):kC Tryz.prog 165 [zC,zC] (.val zI2) (fun x h=>f165 N x.1 x.2.1 h):=fD (aE (sel:=fun a=>vA3 2 166 a) (yA7 N) (eA (vA7 N) (eA (yZ N) (eA (tA7 N) nA)))) N eAw Tryz.f165
def iL (N:Nat) (rec113c114:SL→SL→(Unit)→Heap→Option (Bool×Heap)) (rec114:zP→zP→Heap→Option (Bool×Heap)) (rec163c114:SL→SL→(Unit)→Heap→Option (Bool×Heap)) (a0 a1:SL) (a2:(Unit)) (h:Heap):Option (Bool×Heap):=(kA (rec163c114 a0 a1 (()) h) fun (x1:Bool) h2=>some (x1,h2))
def kAe:Ann:=.n
def pAb (N:Nat) (rec113c114:SL→SL→(Unit)→Heap→Option (Bool×Heap)) (rec114:zP→zP→Heap→Option (Bool×Heap)) (rec163c114:SL→SL→(Unit)→Heap→Option (Bool×Heap)) (a0 a1:zP) (h:Heap):Option (Bool×Heap):=let h1:=h.push (.row (yRA a0) .own);let h2:=h1.push (.row (yRA a1) .own);(dA (.val zJ2) (h2.cell ((h.next,0).1,(h.next,0).2+0)) fun (x3:Int)=>(dA (.val zJ2) (h2.cell ((h1.next,0).1,(h1.next,0).2+0)) fun (x4:Int)=>let x5:=iA x3 x4;(bif x5 then(dA (.val zJ2) (h2.cell ((h.next,0).1,(h.next,0).2+1)) fun (x6:Int)=>(dA (.val zJ2) (h2.cell ((h1.next,0).1,(h1.next,0).2+1)) fun (x7:Int)=>let x8:=iA x6 x7;(bif x8 then(dA (.val zI2) (h2.cell ((h.next,0).1,(h.next,0).2+2)) fun (x9:Bool)=>(dA (.val zI2) (h2.cell ((h1.next,0).1,(h1.next,0).2+2)) fun (x10:Bool)=>let x11:Bool:=(bif x9 then x10 else !x10);(bif x11 then(dA (.val zH2) (h2.cell ((h.next,0).1,(h.next,0).2+3)) fun (x12:zL2)=>(dA (.val zH2) (h2.cell ((h1.next,0).1,(h1.next,0).2+3)) fun (x13:zL2)=>let x14:=aB x12 x13;(bif x14 then(dA (.val zI2) (h2.cell ((h.next,0).1,(h.next,0).2+8)) fun (x15:Bool)=>(dA (.val zI2) (h2.cell ((h1.next,0).1,(h1.next,0).2+8)) fun (x16:Bool)=>let x17:Bool:=(bif x15 then x16 else !x16);(bif x17 then(dA (.val zE) (h2.cells ((h.next,0).1,(h.next,0).2+4) 4) fun (x18:zU)=>(dA (.val zE) (h2.cells ((h1.next,0).1,(h1.next,0).2+4) 4) fun (x19:zU)=>(kA (f112 N N (x18.1,x18.2.1,x18.2.2.1,x18.2.2.2.1,()) (x19.1,x19.2.1,x19.2.2.1,x19.2.2.2.1,()) h2) fun (x20:Bool) h21=>(bif x20 then
 (dA (.val zG) (h21.cells ((h.next,0).1,(h.next,0).2+9) 2) fun (x22:zB1)=>(dA (.val zG) (h21.cells ((h1.next,0).1,(h1.next,0).2+9) 2) fun (x23:zB1)=>(kA (f164 N (x22.1,x22.2.1,()) (x23.1,x23.2.1,()) h21) fun (x24:Bool) h25=>(bif x24 then(dA (.val zC) (h25.cells ((h.next,0).1,(h.next,0).2+11) 15) fun (x26:zQ)=>(dA (.val zC) (h25.cells ((h1.next,0).1,(h1.next,0).2+11) 15) fun (x27:zQ)=>(kA (f165 N (x26.1,x26.2.1,x26.2.2.1,x26.2.2.2.1,x26.2.2.2.2.1,x26.2.2.2.2.2.1,x26.2.2.2.2.2.2.1,x26.2.2.2.2.2.2.2.1,x26.2.2.2.2.2.2.2.2.1,x26.2.2.2.2.2.2.2.2.2.1,x26.2.2.2.2.2.2.2.2.2.2.1,x26.2.2.2.2.2.2.2.2.2.2.2.1,x26.2.2.2.2.2.2.2.2.2.2.2.2.1,x26.2.2.2.2.2.2.2.2.2.2.2.2.2.1,x26.2.2.2.2.2.2.2.2.2.2.2.2.2.2.1,()) (x27.1,x27.2.1,x27.2.2.1,x27.2.2.2.1,x27.2.2.2.2.1,x27.2.2.2.2.2.1,x27.2.2.2.2.2.2.1,x27.2.2.2.2.2.2.2.1,x27.2.2.2.2.2.2.2.2.1,x27.2.2.2.2.2.2.2.2.2.1,x27.2.2.2.2.2.2.2.2.2.2.1,x27.2.2.2.2.2.2.2.2.2.2.2.1,x27.2.2.2.2.2.2.2.2.2.2.2.2.1,x27.2.2.2.2.2.2.2.2.2.2.2.2.2.1,x27.2.2.2.2.2.2.2.2.2.2.2.2.2.2.1,()) h25) fun (x28:Bool) h29=>(bif x28 then(dA (.val zD) (h29.cells ((h.next,0).1,(h.next,0).2+26) 4) fun (x30:zX)=>(dA (.val zD) (h29.cells ((h1.next,0).1,(h1.next,0).2+26) 4) fun (x31:zX)=>(kA (f166 N (x30.1,x30.2.1,x30.2.2.1,x30.2.2.2.1,()) (x31.1,x31.2.1,x31.2.2.1,x31.2.2.2.1,()) h29) fun (x32:Bool) h33=>(bif x32 then(dA (.val zG2) (h33.cell ((h.next,0).1,(h.next,0).2+30)) fun (x34:SL)=>(dA (.val zG2) (h33.cell ((h1.next,0).1,(h1.next,0).2+30)) fun (x35:SL)=>
 (kA (rec113c114 x34 x35 (()) h33) fun (x36:Bool) h37=>(bif x36 then(dA (.val zG2) (h37.cell ((h.next,0).1,(h.next,0).2+31)) fun (x38:SL)=>(dA (.val zG2) (h37.cell ((h1.next,0).1,(h1.next,0).2+31)) fun (x39:SL)=>(kA (rec113c114 x38 x39 (()) h37) fun (x40:Bool) h41=>some (x40,h41))))else some (false,h37)))))else some (false,h33)))))else some (false,h29)))))else some (false,h25)))))else some (false,h21)))))else some (false,h2))))else some (false,h2))))else some (false,h2))))else some (false,h2))))else some (false,h2))))
def fAw:Ann:=.n
def cA0 (N:Nat) (rec113c114:SL→SL→(Unit)→Heap→Option (Bool×Heap)) (rec114:zP→zP→Heap→Option (Bool×Heap)) (rec163c114:SL→SL→(Unit)→Heap→Option (Bool×Heap)) (go:SL→(Unit)→Bool→SL→Int→Int→Heap→Option (Out×zA1×Heap)) (v1:SL) (v2:(Unit)) (v6:Bool) (v15:SL) (v16 v17:Int) (h:Heap):Option (Out×zA1×Heap):=let x2:=ltInt v17 v16;(bif x2 then(ixK v15.a v15.len v17 32 fun q3=>(dA (.val zA) (h.cells q3 32) fun (x4:zP)=>let h5:=h.push (.row yZA .own);(tA (h5.store (h.next,0) (yRA x4)) fun h6=>(ixK v1.a v1.len v17 32 fun q7=>(dA (.val zA) (h6.cells q7 32) fun (x8:zP)=>let h9:=h6.push (.row yZA .own);(tA (h9.store (h6.next,0) (yRA x8)) fun h10=>(dA (.val zA) (h10.cells (h.next,0) 32) fun (x11:zP)=>(dA (.val zA) (h10.cells (h6.next,0) 32) fun (x12:zP)=>(kA (rec114 (x11.1,x11.2.1,x11.2.2.1,x11.2.2.2.1,x11.2.2.2.2.1,x11.2.2.2.2.2.1,x11.2.2.2.2.2.2.1,x11.2.2.2.2.2.2.2.1,x11.2.2.2.2.2.2.2.2.1,x11.2.2.2.2.2.2.2.2.2.1,x11.2.2.2.2.2.2.2.2.2.2.1,x11.2.2.2.2.2.2.2.2.2.2.2.1,x11.2.2.2.2.2.2.2.2.2.2.2.2.1,x11.2.2.2.2.2.2.2.2.2.2.2.2.2.1,x11.2.2.2.2.2.2.2.2.2.2.2.2.2.2.1,x11.2.2.2.2.2.2.2.2.2.2.2.2.2.2.2.1,x11.2.2.2.2.2.2.2.2.2.2.2.2.2.2.2.2.1,x11.2.2.2.2.2.2.2.2.2.2.2.2.2.2.2.2.2.1,x11.2.2.2.2.2.2.2.2.2.2.2.2.2.2.2.2.2.2.1,x11.2.2.2.2.2.2.2.2.2.2.2.2.2.2.2.2.2.2.2.1,x11.2.2.2.2.2.2.2.2.2.2.2.2.2.2.2.2.2.2.2.2.1,x11.2.2.2.2.2.2.2.2.2.2.2.2.2.2.2.2.2.2.2.2.2.1,x11.2.2.2.2.2.2.2.2.2.2.2.2.2.2.2.2.2.2.2.2.2.2.1,x11.2.2.2.2.2.2.2.2.2.2.2.2.2.2.2.2.2.2.2.2.2.2.2.1,x11.2.2.2.2.2.2.2.2.2.2.2.2.2.2.2.2.2.2.2.2.2.2.2.2.1,x11.2.2.2.2.2.2.2.2.2.2.2.2.2.2.2.2.2.2.2.2.2.2.2.2.2.1,x11.2.2.2.2.2.2.2.2.2.2.2.2.2.2.2.2.2.2.2.2.2.2.2.2.2.2.1,x11.2.2.2.2.2.2.2.2.2.2.2.2.2.2.2.2.2.2.2.2.2.2.2.2.2.2.2.1,x11.2.2.2.2.2.2.2.2.2.2.2.2.2.2.2.2.2.2.2.2.2.2.2.2.2.2.2.2.1,x11.2.2.2.2.2.2.2.2.2.2.2.2.2.2.2.2.2.2.2.2.2.2.2.2.2.2.2.2.2.1,x11.2.2.2.2.2.2.2.2.2.2.2.2.2.2.2.2.2.2.2.2.2.2.2.2.2.2.2.2.2.2.1,x11.2.2.2.2.2.2.2.2.2.2.2.2.2.2.2.2.2.2.2.2.2.2.2.2.2.2.2.2.2.2.2.1,()) (x12.1,x12.2.1,x12.2.2.1,x12.2.2.2.1,x12.2.2.2.2.1,x12.2.2.2.2.2.1,x12.2.2.2.2.2.2.1,x12.2.2.2.2.2.2.2.1,x12.2.2.2.2.2.2.2.2.1,x12.2.2.2.2.2.2.2.2.2.1,x12.2.2.2.2.2.2.2.2.2.2.1,x12.2.2.2.2.2.2.2.2.2.2.2.1,x12.2.2.2.2.2.2.2.2.2.2.2.2.1,x12.2.2.2.2.2.2.2.2.2.2.2.2.2.1,x12.2.2.2.2.2.2.2.2.2.2.2.2.2.2.1,x12.2.2.2.2.2.2.2.2.2.2.2.2.2.2.2.1,x12.2.2.2.2.2.2.2.2.2.2.2.2.2.2.2.2.1,x12.2.2.2.2.2.2.2.2.2.2.2.2.2.2.2.2.2.1,x12.2.2.2.2.2.2.2.2.2.2.2.2.2.2.2.2.2.2.1,x12.2.2.2.2.2.2.2.2.2.2.2.2.2.2.2.2.2.2.2.1,x12.2.2.2.2.2.2.2.2.2.2.2.2.2.2.2.2.2.2.2.2.1,x12.2.2.2.2.2.2.2.2.2.2.2.2.2.2.2.2.2.2.2.2.2.1,x12.2.2.2.2.2.2.2.2.2.2.2.2.2.2.2.2.2.2.2.2.2.2.1,x12.2.2.2.2.2.2.2.2.2.2.2.2.2.2.2.2.2.2.2.2.2.2.2.1,x12.2.2.2.2.2.2.2.2.2.2.2.2.2.2.2.2.2.2.2.2.2.2.2.2.1,x12.2.2.2.2.2.2.2.2.2.2.2.2.2.2.2.2.2.2.2.2.2.2.2.2.2.1,x12.2.2.2.2.2.2.2.2.2.2.2.2.2.2.2.2.2.2.2.2.2.2.2.2.2.2.1,x12.2.2.2.2.2.2.2.2.2.2.2.2.2.2.2.2.2.2.2.2.2.2.2.2.2.2.2.1,x12.2.2.2.2.2.2.2.2.2.2.2.2.2.2.2.2.2.2.2.2.2.2.2.2.2.2.2.2.1,x12.2.2.2.2.2.2.2.2.2.2.2.2.2.2.2.2.2.2.2.2.2.2.2.2.2.2.2.2.2.1,x12.2.2.2.2.2.2.2.2.2.2.2.2.2.2.2.2.2.2.2.2.2.2.2.2.2.2.2.2.2.2.1,x12.2.2.2.2.2.2.2.2.2.2.2.2.2.2.2.2.2.2.2.2.2.2.2.2.2.2.2.2.2.2.2.1,()) h10) fun (x13:Bool) h14=>
 let x15:=!x13;(bif x15 then some (Out.ret,(false,()),h14)else let x16:=bB .i64 (v17+1);go v1 (()) v6 v15 v16 x16 h14))))))))))else some ((Out.exit 0),(v6,()),h))
def qM (N:Nat) (rec113c114:SL→SL→(Unit)→Heap→Option (Bool×Heap)) (rec114:zP→zP→Heap→Option (Bool×Heap)) (rec163c114:SL→SL→(Unit)→Heap→Option (Bool×Heap)) (M:Nat) (v1:SL) (v2:(Unit)) (v6:Bool) (v15:SL) (v16 v17:Int) (h:Heap):Option (Out×zA1×Heap):=iter (fun go s h=>cA0 N rec113c114 rec114 rec163c114 (fun v1 v2 v6 v15 v16 v17 h=>go (v1,v2,v6,v15,v16,v17,()) h) s.1 s.2.1 s.2.2.1 s.2.2.2.1 s.2.2.2.2.1 s.2.2.2.2.2.1 h) M (v1,v2,v6,v15,v16,v17,()) h
def lAe (N:Nat) (rec113c114:SL→SL→(Unit)→Heap→Option (Bool×Heap)) (rec114:zP→zP→Heap→Option (Bool×Heap)) (rec163c114:SL→SL→(Unit)→Heap→Option (Bool×Heap)) (a0 a1:SL) (a2:(Unit)) (h:Heap):Option (Bool×Heap):=let x1:=!iA (Int.ofNat a0.len) (Int.ofNat a1.len);(bif x1 then some (false,h)else(wC (qM N rec113c114 rec114 rec163c114 N a1 (()) false a0 (Int.ofNat a0.len) 0 h) fun o17 (j18:zA1) h19=>(bif bD o17 (.exit 0) then some (true,h19)else some (j18.1,h19))))
def mAe:Ann:=(.two .n (.two .n (.two (.two .n (.two (.loop [(1,zG2),(2,(.clo 114 [])),(6,zI2),(15,zG2),(16,zJ2),(17,zJ2)] [(.exit 0),.ret] [(6,zI2)] .n) .n)) .n)))
def rM (N M:Nat):((SL→SL→(Unit)→Heap→Option (Bool×Heap))×(zP→zP→Heap→Option (Bool×Heap))×(SL→SL→(Unit)→Heap→Option (Bool×Heap))×Unit):=Nat.rec (fun _ _ _ _=>none,fun _ _ _=>none,fun _ _ _ _=>none,()) (fun _ r=>(iL N r.1 r.2.1 r.2.2.1,pAb N r.1 r.2.1 r.2.2.1,lAe N r.1 r.2.1 r.2.2.1,())) M
def eJ (N M:Nat):SL→SL→(Unit)→Heap→Option (Bool×Heap):=(rM N M).1
def f114 (N M:Nat):zP→zP→Heap→Option (Bool×Heap):=(rM N M).2.1
def fJ (N M:Nat):SL→SL→(Unit)→Heap→Option (Bool×Heap):=(rM N M).2.2.1
theorem fO (N M a0 a1 a2 h):eJ N (M+1) a0 a1 a2 h=iL N (eJ N M) (f114 N M) (fJ N M) a0 a1 a2 h:=rfl
theorem pA4 (N M a0 a1 h):f114 N (M+1) a0 a1 h=pAb N (eJ N M) (f114 N M) (fJ N M) a0 a1 h:=rfl
theorem aF (N:Nat):∀ M:Nat,(kC Tryz.prog 113 [zG2,zG2,(.clo 114 [])] (.val zI2) (fun x h=>eJ N M x.1 x.2.1 x.2.2.1 h))∧(kC Tryz.prog 114 [zA,zA] (.val zI2) (fun x h=>f114 N M x.1 x.2.1 h))∧(kC Tryz.prog 163 [zG2,zG2,(.clo 114 [])] (.val zI2) (fun x h=>fJ N M x.1 x.2.1 x.2.2.1 h))∧True
 | 0=>⟨(fun xs h r h' hx=>by cases hx),(fun xs h r h' hx=>by cases hx),(fun xs h r h' hx=>by cases hx),trivial⟩
 | M+1=>⟨fD (aE (sel:=fun a=>vA3 2 114 a) (aF N M).2.2.1 nA) N kAe Tryz.f113,fD (eA (vA7 N) (eA (aAi N) (eA (yZ N) (aE (sel:=fun a=>vA3 2 114 a) (aF N M).1 (eA (pAq N) nA))))) N fAw Tryz.f114,fD (eA (aF N M).2.1 nA) N mAe Tryz.f163,trivial⟩
theorem qAq (N:Nat):kC Tryz.prog 114 [zA,zA] (.val zI2) (fun x h=>f114 N N x.1 x.2.1 h):=(aF N N).2.1
end
end Qp
namespace Qp
def bAi (tys:List CTy) (n:Nat) (c:aM tys→List AV) (z:List AV) (F:aM tys→aM tys→Heap→Option (Bool×Heap)) (go:SL→Unit→Bool→SL→Int→Int→Heap→Option (Out×zA1×Heap)) (v1:SL) (v6:Bool) (v15:SL) (v16 v17:Int) (h:Heap):Option (Out×zA1×Heap):=
 bif ltInt v17 v16 then
  (ixK v15.a v15.len v17 n fun q3=>
  (dA (.val (.agg tys)) (h.cells q3 n) fun x4=>
  (tA ((h.push (.row z .own)).store (h.next,0) (c x4)) fun h6=>
  (ixK v1.a v1.len v17 n fun q7=>
  (dA (.val (.agg tys)) (h6.cells q7 n) fun x8=>
  (tA ((h6.push (.row z .own)).store (h6.next,0) (c x8)) fun h10=>
  (dA (.val (.agg tys)) (h10.cells (h.next,0) n) fun x11=>
  (dA (.val (.agg tys)) (h10.cells (h6.next,0) n) fun x12=>
  (kA (F x11 x12 h10) fun x13 h14=>
  (bif !x13 then some (Out.ret,(false,()),h14) else go v1 () v6 v15 v16 (bB .i64 (v17+1)) h14))))))))))
 else some ((Out.exit 0),(v6,()),h)
structure Rec (tys:List CTy) (n:Nat) (c:aM tys→List AV) (P:D→Prop):Prop where
 len:∀ r,(c r).length=n
 agg:∀ {β:Type} (r:aM tys) (K:aM tys→Option β),dA (.val (.agg tys)) (some (.agg (c r))) K=K r
 inv:∀ {h:Heap} {V:Nat→Prop} {x:D} {cs:List AV},P x→Dt h V x cs→∃ r,cs=c r
section
variable {tys:List CTy} {n:Nat} {c:aM tys→List AV} {z:List AV} {P:D→Prop}
theorem Rec.elt (R:Rec tys n c P) {h:Heap} {V:Nat→Prop} {s:SL} {xs:List D} (x:Sl h V s xs) {i:Nat} (hi:i<xs.length) (hP:P xs[i]):∃ r,h.cells (s.at i n) n=some (.agg (c r))∧Dt h V xs[i] (c r):=by
 obtain ⟨cs,e⟩:=x.elt hi;obtain ⟨r,rfl⟩:=R.inv hP e.dt;have hz:s.sz=n:=by rw [← e.len,R.len]
 have hw:=e.whole;rw [hz] at hw;exact ⟨r,hw,e.dt⟩
theorem Rec.cells (R:Rec tys n c P) {H:Heap} {A:Nat} {r:aM tys} (o:H.own A (c r)) {β:Type} (K:aM tys→Option β):dA (.val (.agg tys)) (H.cells (A,0) n) K=K r:=by
 have:H.cells (A,0) n=some (.agg (c r)):=by
  rw [o.cells (j:=0) (m:=n) (by rw [R.len];omega),List.drop_zero,List.take_of_length_le (by rw [R.len];exact Nat.le_refl _)]
 rw [this,R.agg]
theorem Rec.park (R:Rec tys n c P) (hz:z.length=n) (h:Heap) (r:aM tys):∃ h',(∀ {β:Type} (K:Heap→Option β),tA ((h.push (.row z .own)).store (h.next,0) (c r)) K=K h')∧Chg [] h h'∧h'.own h.next (c r):=by
 have o:=vA h z;have ch:=uA h (.row z .own);have hst:(h.push (.row z .own)).store (h.next,0) (c r)=some ((h.push (.row z .own)).put h.next (.row (c r) .own)):=o.store (by rw [R.len,hz]);exact ⟨_,fun K=>by rw [hst,fA],ch.put (.inr (Nat.le_refl _)) _,fK o _⟩
theorem rAq (R:Rec tys n c P) (hz:z.length=n) {F:aM tys→aM tys→Heap→Option (Bool×Heap)} {L:Nat→SL→Unit→Bool→SL→Int→Int→Heap→Option (Out×zA1×Heap)} (hs:∀ M v1 v6 v15 v16 v17 h,L (M+1) v1 () v6 v15 v16 v17 h=bAi tys n c z F (L M) v1 v6 v15 v16 v17 h)
  {xs:List D} (hP:∀ x∈xs,P x) (hF:∀ x∈xs,∀ r1 r2 H V W,Dt H V x (c r1)→Dt H W x (c r2)→∃ H',F r1 r2 H=some (true,H')∧Chg [] H H') (hl:xs.length≤2000000) :
  ∀ (M i:Nat) (h:Heap) (V W:Nat→Prop) (s1 s2:SL),i≤xs.length→xs.length-i<M→Sl h V s1 xs→Sl h W s2 xs→∃ h',L M s2 () false s1 (xs.length:Int) (i:Int) h=some (.exit 0,(false,()),h')∧Chg [] h h':=by
 intro M
 induction M with
 | zero=>intro i _ _ _ _ _ _ h;omega
 | succ M ih=>
  intro i h V W s1 s2 hi hM x1 x2;rw [hs];unfold bAi;rw [aC]
  by_cases q:i<xs.length
  ·rw [decide_eq_true q,cond_true]
   have hm:=List.getElem_mem q;obtain ⟨r1,g1,d1⟩:=R.elt x1 q (hP _ hm);rw [x1.ix q n,g1,R.agg];obtain ⟨h6,p6,c6,o6⟩:=R.park hz h r1;rw [p6];have x2':=x2.chg c6 (by simp);obtain ⟨r2,g2,d2⟩:=R.elt x2' q (hP _ hm);rw [x2'.ix q n,g2,R.agg];obtain ⟨h10,p10,c10,o10⟩:=R.park hz h6 r2;rw [p10,R.cells (o6.chg c10 (by simp)),R.cells o10];obtain ⟨h14,e14,c14⟩:=hF _ hm r1 r2 h10 V W (Dt.chg (c6.trans c10) (by simp) d1) (Dt.chg c10 (by simp) d2);rw [e14,aA];simp only [Bool.not_true,cond_false];have c0:=(c6.trans c10).trans c14;rw [eB (by omega)];obtain ⟨h',e',c'⟩:=ih (i+1) h14 V W s1 s2 q (by omega) (x1.chg c0 (by simp)) (x2.chg c0 (by simp));exact ⟨h',e',c0.trans c'⟩
  ·rw [decide_eq_false q,cond_false]
   exact ⟨h,rfl,Chg.refl _ _⟩
theorem oAo {h:Heap} {V W:Nat→Prop} {s1 s2:SL} {xs:List D} (x1:Sl h V s1 xs) (x2:Sl h W s2 xs):iA (Int.ofNat s1.len) (Int.ofNat s2.len)=true:=by
 rw [x1.len,x2.len,eqI];simp
end
section
variable {N:Nat} {h:Heap} {V W:Nat→Prop}
theorem aA8 {s1 s2:SL} {xs:List Bs} (x1:Sl h V s1 (xs.map D.s)) (x2:Sl h W s2 (xs.map D.s)) (hl:xs.length≤2000000):∀ (M i:Nat),i≤xs.length→xs.length-i<M→uZ N M s1 s2 false (xs.length:Int) (i:Int) h=some (.exit 0,(false,()),h):=by
 intro M
 induction M with
 | zero=>intro i _ h;omega
 | succ M ih=>
  intro i hi hM;rw [oA4];unfold fU;simp only [aC]
  by_cases q:i<xs.length
  ·simp only [q,decide_true,cond_true]
   have q':i<(xs.map D.s).length:=by rw [List.length_map];exact q
   rw [x1.ix q' 1,gK x1 q];simp only [bA,qA];rw [x2.ix q' 1,gK x2 q];simp only [bA,qA,eqB.2,Bool.not_true,cond_false];rw [eB (by omega)];exact ih (i+1) q (by omega)
  ·simp only [q,decide_false,cond_false]
theorem cAi {s1 s2:SL} {xs:List Bs} (x1:Sl h V s1 (xs.map D.s)) (x2:Sl h W s2 (xs.map D.s)) (hl:xs.length≤2000000) (hN:xs.length<N):f106 N s1 s2 h=some (true,h):=by
 unfold f106;simp only [oAo x1 x2,Bool.not_true,cond_false]
 have:=aA8 (N:=N) x1 x2 hl N 0 (Nat.zero_le _) (by omega)
 have l1:s1.len=xs.length:=by rw [x1.len,List.length_map]
 rw [l1];rw [show ((0:Nat):Int)=0 from rfl] at this;rw [show Int.ofNat xs.length=(xs.length:Int) from rfl,this];rfl
theorem dAi {nm:Bs} {s1 s2:SL} {xs:List Bs} (x1:Sl h V s1 (xs.map D.s)) (x2:Sl h W s2 (xs.map D.s)) (hl:xs.length≤2000000) (hN:xs.length<N):∃ h',f164 N (nm,s1,()) (nm,s2,()) h=some (true,h')∧Chg [] h h':=by
 unfold f164;have o1:=vA h (lfc (nm,s1,()));have c1:=uA h (.row (lfc (nm,s1,())) .own);have e1:h.push (.row [(.str nm),(.slice s1.a s1.len s1.cap s1.sz)] .own)=h.push (.row (lfc (nm,s1,())) .own):=rfl;dsimp only;rw [e1];generalize h.push (.row (lfc (nm,s1,())) .own)=h1 at *;have o2:=vA h1 (lfc (nm,s2,()));have c2:=uA h1 (.row (lfc (nm,s2,())) .own);have e2:h1.push (.row [(.str nm),(.slice s2.a s2.len s2.cap s2.sz)] .own)=h1.push (.row (lfc (nm,s2,())) .own):=rfl;rw [e2];have o1:=o1.chg c2 (by simp);generalize h1.push (.row (lfc (nm,s2,())) .own)=h2 at *;have c02:=c1.trans c2;have a0:h2.cell (h.next,0)=some (.str nm):=o1.cell 0;have a1:h2.cell (h.next,1)=some (SL.av s1):=o1.cell 1;have b0:h2.cell (h1.next,0)=some (.str nm):=o2.cell 0;have b1:h2.cell (h1.next,1)=some (SL.av s2):=o2.cell 1;simp only [Nat.zero_add,a0,a1,b0,b1,bA,qA,eqB.2,cond_true,SL.av,jA];rw [cAi (x1.chg c02 (by simp)) (x2.chg c02 (by simp)) hl hN,aA];exact ⟨_,rfl,c02⟩
end
end Qp
namespace Qp
theorem tAq (b:Bool):(bif b then b else !b)=true:=by cases b <;> rfl
theorem qB5 {N:Nat} {H h:Heap} {V W:Nat→Prop} {s1 s2:SL} {xs:List Bs} (c:Chg [] H h) (x1:Sl H V s1 (xs.map D.s)) (x2:Sl H W s2 (xs.map D.s)) (hl:xs.length≤2000000) (hN:xs.length<N):∃ h',f106 N s1 s2 h=some (true,h')∧Chg [] h h':=
 ⟨h,cAi (x1.chg c (by simp)) (x2.chg c (by simp)) hl hN,Chg.refl _ _⟩
section
variable {N:Nat} {h:Heap} {V W:Nat→Prop}
theorem lAm {k n:Int} {p1 p2:LfV} (hp:∀ H,Chg [] h H→∃ H',f164 N (p1.1,p1.2.1,()) (p2.1,p2.2.1,()) H=some (true,H')∧Chg [] H H'):∃ h',f166 N (k,n,p1.1,p1.2.1,()) (k,n,p2.1,p2.2.1,()) h=some (true,h')∧Chg [] h h':=by
 unfold f166;dsimp only;have o1:=vA h [(.int .i64 k),(.int .i64 n),(.str p1.1),(.slice p1.2.1.a p1.2.1.len p1.2.1.cap p1.2.1.sz)];have c1:=uA h (.row [(.int .i64 k),(.int .i64 n),(.str p1.1),(.slice p1.2.1.a p1.2.1.len p1.2.1.cap p1.2.1.sz)] .own);generalize h.push (.row [(.int .i64 k),(.int .i64 n),(.str p1.1),(.slice p1.2.1.a p1.2.1.len p1.2.1.cap p1.2.1.sz)] .own)=h1 at *;have o2:=vA h1 [(.int .i64 k),(.int .i64 n),(.str p2.1),(.slice p2.2.1.a p2.2.1.len p2.2.1.cap p2.2.1.sz)];have c2:=uA h1 (.row [(.int .i64 k),(.int .i64 n),(.str p2.1),(.slice p2.2.1.a p2.2.1.len p2.2.1.cap p2.2.1.sz)] .own);have o1:=o1.chg c2 (by simp);generalize h1.push (.row [(.int .i64 k),(.int .i64 n),(.str p2.1),(.slice p2.2.1.a p2.2.1.len p2.2.1.cap p2.2.1.sz)] .own)=H0 at *;have c0:=c1.trans c2
 clear c1 c2
 have qa0:H0.cell (h.next,0)=some (.int .i64 k):=o1.cell 0;have qb0:H0.cell (h1.next,0)=some (.int .i64 k):=o2.cell 0;have qa1:H0.cell (h.next,1)=some (.int .i64 n):=o1.cell 1;have qb1:H0.cell (h1.next,1)=some (.int .i64 n):=o2.cell 1;have qa2:H0.cells (h.next,2) 2=some (.agg (lfc p1)):=o1.cells (j:=2) (m:=2) (show 4≤4 by decide);have qb2:H0.cells (h1.next,2) 2=some (.agg (lfc p2)):=o2.cells (j:=2) (m:=2) (show 4≤4 by decide);simp only [Nat.zero_add,qa0,qb0,fB,qG,cond_true,qa1,qb1,bA];rw [qa2,pM,qb2,pM];obtain ⟨H1,qe1,qk1⟩:∃ H',f164 N (p1.1,p1.2.1,()) (p2.1,p2.2.1,()) H0=some (true,H')∧Chg [] H0 H':=hp H0 c0;rw [qe1,aA];have o1:=o1.chg qk1 (by simp);have o2:=o2.chg qk1 (by simp);have c1:=c0.trans qk1;exact ⟨_,rfl,c1⟩
theorem mAm {k o:Int} {a1 a2 b1 b2:OpV} {p1 p2:LfV} {nm:Bs} {n1 n2 g1 g2:SL} (ha:∀ H,Chg [] h H→∃ H',f166 N (a1.1,a1.2.1,a1.2.2.1,a1.2.2.2.1,()) (a2.1,a2.2.1,a2.2.2.1,a2.2.2.2.1,()) H=some (true,H')∧Chg [] H H') (hb:∀ H,Chg [] h H→∃ H',f166 N (b1.1,b1.2.1,b1.2.2.1,b1.2.2.2.1,()) (b2.1,b2.2.1,b2.2.2.1,b2.2.2.2.1,()) H=some (true,H')∧Chg [] H H') (hp:∀ H,Chg [] h H→∃ H',f164 N (p1.1,p1.2.1,()) (p2.1,p2.2.1,()) H=some (true,H')∧Chg [] H H')
  (hn:∀ H,Chg [] h H→∃ H',f106 N n1 n2 H=some (true,H')∧Chg [] H H') (hg:∀ H,Chg [] h H→∃ H',dJ N g1 g2 () H=some (true,H')∧Chg [] H H'):∃ h',f165 N (k,a1.1,a1.2.1,a1.2.2.1,a1.2.2.2.1,b1.1,b1.2.1,b1.2.2.1,b1.2.2.2.1,o,p1.1,p1.2.1,nm,n1,g1,()) (k,a2.1,a2.2.1,a2.2.2.1,a2.2.2.2.1,b2.1,b2.2.1,b2.2.2.1,b2.2.2.2.1,o,p2.1,p2.2.1,nm,n2,g2,()) h=some (true,h')∧Chg [] h h':=by
 unfold f165;dsimp only;have o1:=vA h [(.int .i64 k),(.int .i64 a1.1),(.int .i64 a1.2.1),(.str a1.2.2.1),(.slice a1.2.2.2.1.a a1.2.2.2.1.len a1.2.2.2.1.cap a1.2.2.2.1.sz),(.int .i64 b1.1),(.int .i64 b1.2.1),(.str b1.2.2.1),(.slice b1.2.2.2.1.a b1.2.2.2.1.len b1.2.2.2.1.cap b1.2.2.2.1.sz),(.int .i64 o),(.str p1.1),(.slice p1.2.1.a p1.2.1.len p1.2.1.cap p1.2.1.sz),(.str nm),(.slice n1.a n1.len n1.cap n1.sz),(.slice g1.a g1.len g1.cap g1.sz)];have c1:=uA h (.row [(.int .i64 k),(.int .i64 a1.1),(.int .i64 a1.2.1),(.str a1.2.2.1),(.slice a1.2.2.2.1.a a1.2.2.2.1.len a1.2.2.2.1.cap a1.2.2.2.1.sz),(.int .i64 b1.1),(.int .i64 b1.2.1),(.str b1.2.2.1),(.slice b1.2.2.2.1.a b1.2.2.2.1.len b1.2.2.2.1.cap b1.2.2.2.1.sz),(.int .i64 o),(.str p1.1),(.slice p1.2.1.a p1.2.1.len p1.2.1.cap p1.2.1.sz),(.str nm),(.slice n1.a n1.len n1.cap n1.sz),(.slice g1.a g1.len g1.cap g1.sz)] .own);generalize h.push (.row [(.int .i64 k),(.int .i64 a1.1),(.int .i64 a1.2.1),(.str a1.2.2.1),(.slice a1.2.2.2.1.a a1.2.2.2.1.len a1.2.2.2.1.cap a1.2.2.2.1.sz),(.int .i64 b1.1),(.int .i64 b1.2.1),(.str b1.2.2.1),(.slice b1.2.2.2.1.a b1.2.2.2.1.len b1.2.2.2.1.cap b1.2.2.2.1.sz),(.int .i64 o),(.str p1.1),(.slice p1.2.1.a p1.2.1.len p1.2.1.cap p1.2.1.sz),(.str nm),(.slice n1.a n1.len n1.cap n1.sz),(.slice g1.a g1.len g1.cap g1.sz)] .own)=h1 at *;have o2:=vA h1 [(.int .i64 k),(.int .i64 a2.1),(.int .i64 a2.2.1),(.str a2.2.2.1),(.slice a2.2.2.2.1.a a2.2.2.2.1.len a2.2.2.2.1.cap a2.2.2.2.1.sz),(.int .i64 b2.1),(.int .i64 b2.2.1),(.str b2.2.2.1),(.slice b2.2.2.2.1.a b2.2.2.2.1.len b2.2.2.2.1.cap b2.2.2.2.1.sz),(.int .i64 o),(.str p2.1),(.slice p2.2.1.a p2.2.1.len p2.2.1.cap p2.2.1.sz),(.str nm),(.slice n2.a n2.len n2.cap n2.sz),(.slice g2.a g2.len g2.cap g2.sz)];have c2:=uA h1 (.row [(.int .i64 k),(.int .i64 a2.1),(.int .i64 a2.2.1),(.str a2.2.2.1),(.slice a2.2.2.2.1.a a2.2.2.2.1.len a2.2.2.2.1.cap a2.2.2.2.1.sz),(.int .i64 b2.1),(.int .i64 b2.2.1),(.str b2.2.2.1),(.slice b2.2.2.2.1.a b2.2.2.2.1.len b2.2.2.2.1.cap b2.2.2.2.1.sz),(.int .i64 o),(.str p2.1),(.slice p2.2.1.a p2.2.1.len p2.2.1.cap p2.2.1.sz),(.str nm),(.slice n2.a n2.len n2.cap n2.sz),(.slice g2.a g2.len g2.cap g2.sz)] .own);have o1:=o1.chg c2 (by simp);generalize h1.push (.row [(.int .i64 k),(.int .i64 a2.1),(.int .i64 a2.2.1),(.str a2.2.2.1),(.slice a2.2.2.2.1.a a2.2.2.2.1.len a2.2.2.2.1.cap a2.2.2.2.1.sz),(.int .i64 b2.1),(.int .i64 b2.2.1),(.str b2.2.2.1),(.slice b2.2.2.2.1.a b2.2.2.2.1.len b2.2.2.2.1.cap b2.2.2.2.1.sz),(.int .i64 o),(.str p2.1),(.slice p2.2.1.a p2.2.1.len p2.2.1.cap p2.2.1.sz),(.str nm),(.slice n2.a n2.len n2.cap n2.sz),(.slice g2.a g2.len g2.cap g2.sz)] .own)=H0 at *;have c0:=c1.trans c2
 clear c1 c2
 have qa0:H0.cell (h.next,0)=some (.int .i64 k):=o1.cell 0;have qb0:H0.cell (h1.next,0)=some (.int .i64 k):=o2.cell 0;have qa1:H0.cells (h.next,1) 4=some (.agg (opc a1)):=o1.cells (j:=1) (m:=4) (show 5≤15 by decide);have qb1:H0.cells (h1.next,1) 4=some (.agg (opc a2)):=o2.cells (j:=1) (m:=4) (show 5≤15 by decide);simp only [Nat.zero_add,qa0,qb0,fB,qG,cond_true,bA];rw [qa1,iK,qb1,iK];obtain ⟨H1,qe1,qk1⟩:∃ H',f166 N (a1.1,a1.2.1,a1.2.2.1,a1.2.2.2.1,()) (a2.1,a2.2.1,a2.2.2.1,a2.2.2.2.1,()) H0=some (true,H')∧Chg [] H0 H':=ha H0 c0;rw [qe1,aA];have o1:=o1.chg qk1 (by simp);have o2:=o2.chg qk1 (by simp);have c1:=c0.trans qk1;have qa5:H1.cells (h.next,5) 4=some (.agg (opc b1)):=o1.cells (j:=5) (m:=4) (show 9≤15 by decide);have qb5:H1.cells (h1.next,5) 4=some (.agg (opc b2)):=o2.cells (j:=5) (m:=4) (show 9≤15 by decide);simp only [Nat.zero_add,cond_true,bA];rw [qa5,iK,qb5,iK];obtain ⟨H2,qe2,qk2⟩:∃ H',f166 N (b1.1,b1.2.1,b1.2.2.1,b1.2.2.2.1,()) (b2.1,b2.2.1,b2.2.2.1,b2.2.2.2.1,()) H1=some (true,H')∧Chg [] H1 H':=hb H1 c1;rw [qe2,aA];have o1:=o1.chg qk2 (by simp);have o2:=o2.chg qk2 (by simp);have c2:=c1.trans qk2;have qa9:H2.cell (h.next,9)=some (.int .i64 o):=o1.cell 9;have qb9:H2.cell (h1.next,9)=some (.int .i64 o):=o2.cell 9;have qa10:H2.cells (h.next,10) 2=some (.agg (lfc p1)):=o1.cells (j:=10) (m:=2) (show 12≤15 by decide);have qb10:H2.cells (h1.next,10) 2=some (.agg (lfc p2)):=o2.cells (j:=10) (m:=2) (show 12≤15 by decide);simp only [Nat.zero_add,qa9,qb9,fB,qG,cond_true,bA];rw [qa10,pM,qb10,pM];obtain ⟨H3,qe3,qk3⟩:∃ H',f164 N (p1.1,p1.2.1,()) (p2.1,p2.2.1,()) H2=some (true,H')∧Chg [] H2 H':=hp H2 c2;rw [qe3,aA];have o1:=o1.chg qk3 (by simp);have o2:=o2.chg qk3 (by simp);have c3:=c2.trans qk3;have qa12:H3.cell (h.next,12)=some (.str nm):=o1.cell 12;have qb12:H3.cell (h1.next,12)=some (.str nm):=o2.cell 12;have qa13:H3.cell (h.next,13)=some (.slice n1.a n1.len n1.cap n1.sz):=o1.cell 13;have qb13:H3.cell (h1.next,13)=some (.slice n2.a n2.len n2.cap n2.sz):=o2.cell 13;simp only [Nat.zero_add,qa12,qb12,qA,eqB.2,cond_true,qa13,qb13,jA,bA];obtain ⟨H4,qe4,qk4⟩:∃ H',f106 N n1 n2  H3=some (true,H')∧Chg [] H3 H':=hn H3 c3;show ∃ h',(kA (f106 N n1 n2  H3) _)=_∧_;rw [qe4,aA];have o1:=o1.chg qk4 (by simp);have o2:=o2.chg qk4 (by simp);have c4:=c3.trans qk4;have qa14:H4.cell (h.next,14)=some (.slice g1.a g1.len g1.cap g1.sz):=o1.cell 14;have qb14:H4.cell (h1.next,14)=some (.slice g2.a g2.len g2.cap g2.sz):=o2.cell 14;simp only [Nat.zero_add,qa14,qb14,jA,cond_true,bA];obtain ⟨H5,qe5,qk5⟩:∃ H',dJ N g1 g2 () H4=some (true,H')∧Chg [] H4 H':=hg H4 c4;show ∃ h',(kA (dJ N g1 g2 () H4) _)=_∧_;rw [qe5,aA];have o1:=o1.chg qk5 (by simp);have o2:=o2.chg qk5 (by simp);have c5:=c4.trans qk5;exact ⟨_,rfl,c5⟩
theorem nAm {rec112 rec162c112 rec193c112} {k:Int} {x:Bs} {l1 l2 e1 e2:SL} (hl:∀ H,Chg [] h H→∃ H',f106 N l1 l2 H=some (true,H')∧Chg [] H H') (he:∀ H,Chg [] h H→∃ H',rec162c112 e1 e2 () H=some (true,H')∧Chg [] H H'):∃ h',oAb N rec112 rec162c112 rec193c112 (k,x,l1,e1,()) (k,x,l2,e2,()) h=some (true,h')∧Chg [] h h':=by
 unfold oAb;dsimp only;have o1:=vA h [(.int .i64 k),(.str x),(.slice l1.a l1.len l1.cap l1.sz),(.slice e1.a e1.len e1.cap e1.sz)];have c1:=uA h (.row [(.int .i64 k),(.str x),(.slice l1.a l1.len l1.cap l1.sz),(.slice e1.a e1.len e1.cap e1.sz)] .own);generalize h.push (.row [(.int .i64 k),(.str x),(.slice l1.a l1.len l1.cap l1.sz),(.slice e1.a e1.len e1.cap e1.sz)] .own)=h1 at *;have o2:=vA h1 [(.int .i64 k),(.str x),(.slice l2.a l2.len l2.cap l2.sz),(.slice e2.a e2.len e2.cap e2.sz)];have c2:=uA h1 (.row [(.int .i64 k),(.str x),(.slice l2.a l2.len l2.cap l2.sz),(.slice e2.a e2.len e2.cap e2.sz)] .own);have o1:=o1.chg c2 (by simp);generalize h1.push (.row [(.int .i64 k),(.str x),(.slice l2.a l2.len l2.cap l2.sz),(.slice e2.a e2.len e2.cap e2.sz)] .own)=H0 at *;have c0:=c1.trans c2
 clear c1 c2
 have qa0:H0.cell (h.next,0)=some (.int .i64 k):=o1.cell 0;have qb0:H0.cell (h1.next,0)=some (.int .i64 k):=o2.cell 0;have qa1:H0.cell (h.next,1)=some (.str x):=o1.cell 1;have qb1:H0.cell (h1.next,1)=some (.str x):=o2.cell 1;have qa2:H0.cell (h.next,2)=some (.slice l1.a l1.len l1.cap l1.sz):=o1.cell 2;have qb2:H0.cell (h1.next,2)=some (.slice l2.a l2.len l2.cap l2.sz):=o2.cell 2;simp only [Nat.zero_add,qa0,qb0,fB,qG,cond_true,qa1,qb1,qA,eqB.2,qa2,qb2,jA,bA];obtain ⟨H1,qe1,qk1⟩:∃ H',f106 N l1 l2  H0=some (true,H')∧Chg [] H0 H':=hl H0 c0;show ∃ h',(kA (f106 N l1 l2  H0) _)=_∧_;rw [qe1,aA];have o1:=o1.chg qk1 (by simp);have o2:=o2.chg qk1 (by simp);have c1:=c0.trans qk1;have qa3:H1.cell (h.next,3)=some (.slice e1.a e1.len e1.cap e1.sz):=o1.cell 3;have qb3:H1.cell (h1.next,3)=some (.slice e2.a e2.len e2.cap e2.sz):=o2.cell 3;simp only [Nat.zero_add,qa3,qb3,jA,cond_true,bA];obtain ⟨H2,qe2,qk2⟩:∃ H',rec162c112 e1 e2 () H1=some (true,H')∧Chg [] H1 H':=he H1 c1;show ∃ h',(kA (rec162c112 e1 e2 () H1) _)=_∧_;rw [qe2,aA];have o1:=o1.chg qk2 (by simp);have o2:=o2.chg qk2 (by simp);have c2:=c1.trans qk2;exact ⟨_,rfl,c2⟩
theorem qAb {rec113c114 rec114 rec163c114} {k a:Int} {m hs:Bool} {nm:Bs} {t1 t2:TyV} {p1 p2:LfV} {v1 v2:VaV} {o1 o2:OpV} {th1 th2 el1 el2:SL} (ht:∀ H,Chg [] h H→∃ H',f112 N N (t1.1,t1.2.1,t1.2.2.1,t1.2.2.2.1,()) (t2.1,t2.2.1,t2.2.2.1,t2.2.2.2.1,()) H=some (true,H')∧Chg [] H H') (hp:∀ H,Chg [] h H→∃ H',f164 N (p1.1,p1.2.1,()) (p2.1,p2.2.1,()) H=some (true,H')∧Chg [] H H') (hv:∀ H,Chg [] h H→∃ H',f165 N (v1.1,v1.2.1,v1.2.2.1,v1.2.2.2.1,v1.2.2.2.2.1,v1.2.2.2.2.2.1,v1.2.2.2.2.2.2.1,v1.2.2.2.2.2.2.2.1,v1.2.2.2.2.2.2.2.2.1,v1.2.2.2.2.2.2.2.2.2.1,v1.2.2.2.2.2.2.2.2.2.2.1,v1.2.2.2.2.2.2.2.2.2.2.2.1,v1.2.2.2.2.2.2.2.2.2.2.2.2.1,v1.2.2.2.2.2.2.2.2.2.2.2.2.2.1,v1.2.2.2.2.2.2.2.2.2.2.2.2.2.2.1,()) (v2.1,v2.2.1,v2.2.2.1,v2.2.2.2.1,v2.2.2.2.2.1,v2.2.2.2.2.2.1,v2.2.2.2.2.2.2.1,v2.2.2.2.2.2.2.2.1,v2.2.2.2.2.2.2.2.2.1,v2.2.2.2.2.2.2.2.2.2.1,v2.2.2.2.2.2.2.2.2.2.2.1,v2.2.2.2.2.2.2.2.2.2.2.2.1,v2.2.2.2.2.2.2.2.2.2.2.2.2.1,v2.2.2.2.2.2.2.2.2.2.2.2.2.2.1,v2.2.2.2.2.2.2.2.2.2.2.2.2.2.2.1,()) H=some (true,H')∧Chg [] H H') (ho:∀ H,Chg [] h H→∃ H',f166 N (o1.1,o1.2.1,o1.2.2.1,o1.2.2.2.1,()) (o2.1,o2.2.1,o2.2.2.1,o2.2.2.2.1,()) H=some (true,H')∧Chg [] H H')
  (hth:∀ H,Chg [] h H→∃ H',rec113c114 th1 th2 () H=some (true,H')∧Chg [] H H') (hel:∀ H,Chg [] h H→∃ H',rec113c114 el1 el2 () H=some (true,H')∧Chg [] H H'):∃ h',pAb N rec113c114 rec114 rec163c114 (k,a,m,nm,t1.1,t1.2.1,t1.2.2.1,t1.2.2.2.1,hs,p1.1,p1.2.1,v1.1,v1.2.1,v1.2.2.1,v1.2.2.2.1,v1.2.2.2.2.1,v1.2.2.2.2.2.1,v1.2.2.2.2.2.2.1,v1.2.2.2.2.2.2.2.1,v1.2.2.2.2.2.2.2.2.1,v1.2.2.2.2.2.2.2.2.2.1,v1.2.2.2.2.2.2.2.2.2.2.1,v1.2.2.2.2.2.2.2.2.2.2.2.1,v1.2.2.2.2.2.2.2.2.2.2.2.2.1,v1.2.2.2.2.2.2.2.2.2.2.2.2.2.1,v1.2.2.2.2.2.2.2.2.2.2.2.2.2.2.1,o1.1,o1.2.1,o1.2.2.1,o1.2.2.2.1,th1,el1,()) (k,a,m,nm,t2.1,t2.2.1,t2.2.2.1,t2.2.2.2.1,hs,p2.1,p2.2.1,v2.1,v2.2.1,v2.2.2.1,v2.2.2.2.1,v2.2.2.2.2.1,v2.2.2.2.2.2.1,v2.2.2.2.2.2.2.1,v2.2.2.2.2.2.2.2.1,v2.2.2.2.2.2.2.2.2.1,v2.2.2.2.2.2.2.2.2.2.1,v2.2.2.2.2.2.2.2.2.2.2.1,v2.2.2.2.2.2.2.2.2.2.2.2.1,v2.2.2.2.2.2.2.2.2.2.2.2.2.1,v2.2.2.2.2.2.2.2.2.2.2.2.2.2.1,v2.2.2.2.2.2.2.2.2.2.2.2.2.2.2.1,o2.1,o2.2.1,o2.2.2.1,o2.2.2.2.1,th2,el2,()) h=some (true,h')∧Chg [] h h':=by
 unfold pAb;dsimp only;have O1:=vA h [(.int .i64 k),(.int .i64 a),(.bool m),(.str nm),(.int .i64 t1.1),(.str t1.2.1),(.slice t1.2.2.1.a t1.2.2.1.len t1.2.2.1.cap t1.2.2.1.sz),(.slice t1.2.2.2.1.a t1.2.2.2.1.len t1.2.2.2.1.cap t1.2.2.2.1.sz),(.bool hs),(.str p1.1),(.slice p1.2.1.a p1.2.1.len p1.2.1.cap p1.2.1.sz),(.int .i64 v1.1),(.int .i64 v1.2.1),(.int .i64 v1.2.2.1),(.str v1.2.2.2.1),(.slice v1.2.2.2.2.1.a v1.2.2.2.2.1.len v1.2.2.2.2.1.cap v1.2.2.2.2.1.sz),(.int .i64 v1.2.2.2.2.2.1),(.int .i64 v1.2.2.2.2.2.2.1),(.str v1.2.2.2.2.2.2.2.1),(.slice v1.2.2.2.2.2.2.2.2.1.a v1.2.2.2.2.2.2.2.2.1.len v1.2.2.2.2.2.2.2.2.1.cap v1.2.2.2.2.2.2.2.2.1.sz),(.int .i64 v1.2.2.2.2.2.2.2.2.2.1),(.str v1.2.2.2.2.2.2.2.2.2.2.1),(.slice v1.2.2.2.2.2.2.2.2.2.2.2.1.a v1.2.2.2.2.2.2.2.2.2.2.2.1.len v1.2.2.2.2.2.2.2.2.2.2.2.1.cap v1.2.2.2.2.2.2.2.2.2.2.2.1.sz),(.str v1.2.2.2.2.2.2.2.2.2.2.2.2.1),(.slice v1.2.2.2.2.2.2.2.2.2.2.2.2.2.1.a v1.2.2.2.2.2.2.2.2.2.2.2.2.2.1.len v1.2.2.2.2.2.2.2.2.2.2.2.2.2.1.cap v1.2.2.2.2.2.2.2.2.2.2.2.2.2.1.sz),(.slice v1.2.2.2.2.2.2.2.2.2.2.2.2.2.2.1.a v1.2.2.2.2.2.2.2.2.2.2.2.2.2.2.1.len v1.2.2.2.2.2.2.2.2.2.2.2.2.2.2.1.cap v1.2.2.2.2.2.2.2.2.2.2.2.2.2.2.1.sz),(.int .i64 o1.1),(.int .i64 o1.2.1),(.str o1.2.2.1),(.slice o1.2.2.2.1.a o1.2.2.2.1.len o1.2.2.2.1.cap o1.2.2.2.1.sz),(.slice th1.a th1.len th1.cap th1.sz),(.slice el1.a el1.len el1.cap el1.sz)];have c1:=uA h (.row [(.int .i64 k),(.int .i64 a),(.bool m),(.str nm),(.int .i64 t1.1),(.str t1.2.1),(.slice t1.2.2.1.a t1.2.2.1.len t1.2.2.1.cap t1.2.2.1.sz),(.slice t1.2.2.2.1.a t1.2.2.2.1.len t1.2.2.2.1.cap t1.2.2.2.1.sz),(.bool hs),(.str p1.1),(.slice p1.2.1.a p1.2.1.len p1.2.1.cap p1.2.1.sz),(.int .i64 v1.1),(.int .i64 v1.2.1),(.int .i64 v1.2.2.1),(.str v1.2.2.2.1),(.slice v1.2.2.2.2.1.a v1.2.2.2.2.1.len v1.2.2.2.2.1.cap v1.2.2.2.2.1.sz),(.int .i64 v1.2.2.2.2.2.1),(.int .i64 v1.2.2.2.2.2.2.1),(.str v1.2.2.2.2.2.2.2.1),(.slice v1.2.2.2.2.2.2.2.2.1.a v1.2.2.2.2.2.2.2.2.1.len v1.2.2.2.2.2.2.2.2.1.cap v1.2.2.2.2.2.2.2.2.1.sz),(.int .i64 v1.2.2.2.2.2.2.2.2.2.1),(.str v1.2.2.2.2.2.2.2.2.2.2.1),(.slice v1.2.2.2.2.2.2.2.2.2.2.2.1.a v1.2.2.2.2.2.2.2.2.2.2.2.1.len v1.2.2.2.2.2.2.2.2.2.2.2.1.cap v1.2.2.2.2.2.2.2.2.2.2.2.1.sz),(.str v1.2.2.2.2.2.2.2.2.2.2.2.2.1),(.slice v1.2.2.2.2.2.2.2.2.2.2.2.2.2.1.a v1.2.2.2.2.2.2.2.2.2.2.2.2.2.1.len v1.2.2.2.2.2.2.2.2.2.2.2.2.2.1.cap v1.2.2.2.2.2.2.2.2.2.2.2.2.2.1.sz),(.slice v1.2.2.2.2.2.2.2.2.2.2.2.2.2.2.1.a v1.2.2.2.2.2.2.2.2.2.2.2.2.2.2.1.len v1.2.2.2.2.2.2.2.2.2.2.2.2.2.2.1.cap v1.2.2.2.2.2.2.2.2.2.2.2.2.2.2.1.sz),(.int .i64 o1.1),(.int .i64 o1.2.1),(.str o1.2.2.1),(.slice o1.2.2.2.1.a o1.2.2.2.1.len o1.2.2.2.1.cap o1.2.2.2.1.sz),(.slice th1.a th1.len th1.cap th1.sz),(.slice el1.a el1.len el1.cap el1.sz)] .own);generalize h.push (.row [(.int .i64 k),(.int .i64 a),(.bool m),(.str nm),(.int .i64 t1.1),(.str t1.2.1),(.slice t1.2.2.1.a t1.2.2.1.len t1.2.2.1.cap t1.2.2.1.sz),(.slice t1.2.2.2.1.a t1.2.2.2.1.len t1.2.2.2.1.cap t1.2.2.2.1.sz),(.bool hs),(.str p1.1),(.slice p1.2.1.a p1.2.1.len p1.2.1.cap p1.2.1.sz),(.int .i64 v1.1),(.int .i64 v1.2.1),(.int .i64 v1.2.2.1),(.str v1.2.2.2.1),(.slice v1.2.2.2.2.1.a v1.2.2.2.2.1.len v1.2.2.2.2.1.cap v1.2.2.2.2.1.sz),(.int .i64 v1.2.2.2.2.2.1),(.int .i64 v1.2.2.2.2.2.2.1),(.str v1.2.2.2.2.2.2.2.1),(.slice v1.2.2.2.2.2.2.2.2.1.a v1.2.2.2.2.2.2.2.2.1.len v1.2.2.2.2.2.2.2.2.1.cap v1.2.2.2.2.2.2.2.2.1.sz),(.int .i64 v1.2.2.2.2.2.2.2.2.2.1),(.str v1.2.2.2.2.2.2.2.2.2.2.1),(.slice v1.2.2.2.2.2.2.2.2.2.2.2.1.a v1.2.2.2.2.2.2.2.2.2.2.2.1.len v1.2.2.2.2.2.2.2.2.2.2.2.1.cap v1.2.2.2.2.2.2.2.2.2.2.2.1.sz),(.str v1.2.2.2.2.2.2.2.2.2.2.2.2.1),(.slice v1.2.2.2.2.2.2.2.2.2.2.2.2.2.1.a v1.2.2.2.2.2.2.2.2.2.2.2.2.2.1.len v1.2.2.2.2.2.2.2.2.2.2.2.2.2.1.cap v1.2.2.2.2.2.2.2.2.2.2.2.2.2.1.sz),(.slice v1.2.2.2.2.2.2.2.2.2.2.2.2.2.2.1.a v1.2.2.2.2.2.2.2.2.2.2.2.2.2.2.1.len v1.2.2.2.2.2.2.2.2.2.2.2.2.2.2.1.cap v1.2.2.2.2.2.2.2.2.2.2.2.2.2.2.1.sz),(.int .i64 o1.1),(.int .i64 o1.2.1),(.str o1.2.2.1),(.slice o1.2.2.2.1.a o1.2.2.2.1.len o1.2.2.2.1.cap o1.2.2.2.1.sz),(.slice th1.a th1.len th1.cap th1.sz),(.slice el1.a el1.len el1.cap el1.sz)] .own)=h1 at *;have O2:=vA h1 [(.int .i64 k),(.int .i64 a),(.bool m),(.str nm),(.int .i64 t2.1),(.str t2.2.1),(.slice t2.2.2.1.a t2.2.2.1.len t2.2.2.1.cap t2.2.2.1.sz),(.slice t2.2.2.2.1.a t2.2.2.2.1.len t2.2.2.2.1.cap t2.2.2.2.1.sz),(.bool hs),(.str p2.1),(.slice p2.2.1.a p2.2.1.len p2.2.1.cap p2.2.1.sz),(.int .i64 v2.1),(.int .i64 v2.2.1),(.int .i64 v2.2.2.1),(.str v2.2.2.2.1),(.slice v2.2.2.2.2.1.a v2.2.2.2.2.1.len v2.2.2.2.2.1.cap v2.2.2.2.2.1.sz),(.int .i64 v2.2.2.2.2.2.1),(.int .i64 v2.2.2.2.2.2.2.1),(.str v2.2.2.2.2.2.2.2.1),(.slice v2.2.2.2.2.2.2.2.2.1.a v2.2.2.2.2.2.2.2.2.1.len v2.2.2.2.2.2.2.2.2.1.cap v2.2.2.2.2.2.2.2.2.1.sz),(.int .i64 v2.2.2.2.2.2.2.2.2.2.1),(.str v2.2.2.2.2.2.2.2.2.2.2.1),(.slice v2.2.2.2.2.2.2.2.2.2.2.2.1.a v2.2.2.2.2.2.2.2.2.2.2.2.1.len v2.2.2.2.2.2.2.2.2.2.2.2.1.cap v2.2.2.2.2.2.2.2.2.2.2.2.1.sz),(.str v2.2.2.2.2.2.2.2.2.2.2.2.2.1),(.slice v2.2.2.2.2.2.2.2.2.2.2.2.2.2.1.a v2.2.2.2.2.2.2.2.2.2.2.2.2.2.1.len v2.2.2.2.2.2.2.2.2.2.2.2.2.2.1.cap v2.2.2.2.2.2.2.2.2.2.2.2.2.2.1.sz),(.slice v2.2.2.2.2.2.2.2.2.2.2.2.2.2.2.1.a v2.2.2.2.2.2.2.2.2.2.2.2.2.2.2.1.len v2.2.2.2.2.2.2.2.2.2.2.2.2.2.2.1.cap v2.2.2.2.2.2.2.2.2.2.2.2.2.2.2.1.sz),(.int .i64 o2.1),(.int .i64 o2.2.1),(.str o2.2.2.1),(.slice o2.2.2.2.1.a o2.2.2.2.1.len o2.2.2.2.1.cap o2.2.2.2.1.sz),(.slice th2.a th2.len th2.cap th2.sz),(.slice el2.a el2.len el2.cap el2.sz)];have c2:=uA h1 (.row [(.int .i64 k),(.int .i64 a),(.bool m),(.str nm),(.int .i64 t2.1),(.str t2.2.1),(.slice t2.2.2.1.a t2.2.2.1.len t2.2.2.1.cap t2.2.2.1.sz),(.slice t2.2.2.2.1.a t2.2.2.2.1.len t2.2.2.2.1.cap t2.2.2.2.1.sz),(.bool hs),(.str p2.1),(.slice p2.2.1.a p2.2.1.len p2.2.1.cap p2.2.1.sz),(.int .i64 v2.1),(.int .i64 v2.2.1),(.int .i64 v2.2.2.1),(.str v2.2.2.2.1),(.slice v2.2.2.2.2.1.a v2.2.2.2.2.1.len v2.2.2.2.2.1.cap v2.2.2.2.2.1.sz),(.int .i64 v2.2.2.2.2.2.1),(.int .i64 v2.2.2.2.2.2.2.1),(.str v2.2.2.2.2.2.2.2.1),(.slice v2.2.2.2.2.2.2.2.2.1.a v2.2.2.2.2.2.2.2.2.1.len v2.2.2.2.2.2.2.2.2.1.cap v2.2.2.2.2.2.2.2.2.1.sz),(.int .i64 v2.2.2.2.2.2.2.2.2.2.1),(.str v2.2.2.2.2.2.2.2.2.2.2.1),(.slice v2.2.2.2.2.2.2.2.2.2.2.2.1.a v2.2.2.2.2.2.2.2.2.2.2.2.1.len v2.2.2.2.2.2.2.2.2.2.2.2.1.cap v2.2.2.2.2.2.2.2.2.2.2.2.1.sz),(.str v2.2.2.2.2.2.2.2.2.2.2.2.2.1),(.slice v2.2.2.2.2.2.2.2.2.2.2.2.2.2.1.a v2.2.2.2.2.2.2.2.2.2.2.2.2.2.1.len v2.2.2.2.2.2.2.2.2.2.2.2.2.2.1.cap v2.2.2.2.2.2.2.2.2.2.2.2.2.2.1.sz),(.slice v2.2.2.2.2.2.2.2.2.2.2.2.2.2.2.1.a v2.2.2.2.2.2.2.2.2.2.2.2.2.2.2.1.len v2.2.2.2.2.2.2.2.2.2.2.2.2.2.2.1.cap v2.2.2.2.2.2.2.2.2.2.2.2.2.2.2.1.sz),(.int .i64 o2.1),(.int .i64 o2.2.1),(.str o2.2.2.1),(.slice o2.2.2.2.1.a o2.2.2.2.1.len o2.2.2.2.1.cap o2.2.2.2.1.sz),(.slice th2.a th2.len th2.cap th2.sz),(.slice el2.a el2.len el2.cap el2.sz)] .own);have O1:=O1.chg c2 (by simp);generalize h1.push (.row [(.int .i64 k),(.int .i64 a),(.bool m),(.str nm),(.int .i64 t2.1),(.str t2.2.1),(.slice t2.2.2.1.a t2.2.2.1.len t2.2.2.1.cap t2.2.2.1.sz),(.slice t2.2.2.2.1.a t2.2.2.2.1.len t2.2.2.2.1.cap t2.2.2.2.1.sz),(.bool hs),(.str p2.1),(.slice p2.2.1.a p2.2.1.len p2.2.1.cap p2.2.1.sz),(.int .i64 v2.1),(.int .i64 v2.2.1),(.int .i64 v2.2.2.1),(.str v2.2.2.2.1),(.slice v2.2.2.2.2.1.a v2.2.2.2.2.1.len v2.2.2.2.2.1.cap v2.2.2.2.2.1.sz),(.int .i64 v2.2.2.2.2.2.1),(.int .i64 v2.2.2.2.2.2.2.1),(.str v2.2.2.2.2.2.2.2.1),(.slice v2.2.2.2.2.2.2.2.2.1.a v2.2.2.2.2.2.2.2.2.1.len v2.2.2.2.2.2.2.2.2.1.cap v2.2.2.2.2.2.2.2.2.1.sz),(.int .i64 v2.2.2.2.2.2.2.2.2.2.1),(.str v2.2.2.2.2.2.2.2.2.2.2.1),(.slice v2.2.2.2.2.2.2.2.2.2.2.2.1.a v2.2.2.2.2.2.2.2.2.2.2.2.1.len v2.2.2.2.2.2.2.2.2.2.2.2.1.cap v2.2.2.2.2.2.2.2.2.2.2.2.1.sz),(.str v2.2.2.2.2.2.2.2.2.2.2.2.2.1),(.slice v2.2.2.2.2.2.2.2.2.2.2.2.2.2.1.a v2.2.2.2.2.2.2.2.2.2.2.2.2.2.1.len v2.2.2.2.2.2.2.2.2.2.2.2.2.2.1.cap v2.2.2.2.2.2.2.2.2.2.2.2.2.2.1.sz),(.slice v2.2.2.2.2.2.2.2.2.2.2.2.2.2.2.1.a v2.2.2.2.2.2.2.2.2.2.2.2.2.2.2.1.len v2.2.2.2.2.2.2.2.2.2.2.2.2.2.2.1.cap v2.2.2.2.2.2.2.2.2.2.2.2.2.2.2.1.sz),(.int .i64 o2.1),(.int .i64 o2.2.1),(.str o2.2.2.1),(.slice o2.2.2.2.1.a o2.2.2.2.1.len o2.2.2.2.1.cap o2.2.2.2.1.sz),(.slice th2.a th2.len th2.cap th2.sz),(.slice el2.a el2.len el2.cap el2.sz)] .own)=H0 at *;have c0:=c1.trans c2
 clear c1 c2
 have qa0:H0.cell (h.next,0)=some (.int .i64 k):=O1.cell 0;have qb0:H0.cell (h1.next,0)=some (.int .i64 k):=O2.cell 0;have qa1:H0.cell (h.next,1)=some (.int .i64 a):=O1.cell 1;have qb1:H0.cell (h1.next,1)=some (.int .i64 a):=O2.cell 1;have qa2:H0.cell (h.next,2)=some (.bool m):=O1.cell 2;have qb2:H0.cell (h1.next,2)=some (.bool m):=O2.cell 2;have qa3:H0.cell (h.next,3)=some (.str nm):=O1.cell 3;have qb3:H0.cell (h1.next,3)=some (.str nm):=O2.cell 3;have qa8:H0.cell (h.next,8)=some (.bool hs):=O1.cell 8;have qb8:H0.cell (h1.next,8)=some (.bool hs):=O2.cell 8;have qa4:H0.cells (h.next,4) 4=some (.agg (tyc t1)):=O1.cells (j:=4) (m:=4) (show 8≤32 by decide);have qb4:H0.cells (h1.next,4) 4=some (.agg (tyc t2)):=O2.cells (j:=4) (m:=4) (show 8≤32 by decide);simp only [Nat.zero_add,qa0,qb0,fB,qG,cond_true,qa1,qb1,qa2,qb2,kB,tAq,qa3,qb3,qA,eqB.2,qa8,qb8,bA];rw [qa4,yR,qb4,yR];obtain ⟨H1,qe1,qk1⟩:∃ H',f112 N N (t1.1,t1.2.1,t1.2.2.1,t1.2.2.2.1,()) (t2.1,t2.2.1,t2.2.2.1,t2.2.2.2.1,()) H0=some (true,H')∧Chg [] H0 H':=ht H0 c0;rw [qe1,aA];have O1:=O1.chg qk1 (by simp);have O2:=O2.chg qk1 (by simp);have c1:=c0.trans qk1;have qa9:H1.cells (h.next,9) 2=some (.agg (lfc p1)):=O1.cells (j:=9) (m:=2) (show 11≤32 by decide);have qb9:H1.cells (h1.next,9) 2=some (.agg (lfc p2)):=O2.cells (j:=9) (m:=2) (show 11≤32 by decide);simp only [Nat.zero_add,cond_true,bA];rw [qa9,pM,qb9,pM];obtain ⟨H2,qe2,qk2⟩:∃ H',f164 N (p1.1,p1.2.1,()) (p2.1,p2.2.1,()) H1=some (true,H')∧Chg [] H1 H':=hp H1 c1;rw [qe2,aA];have O1:=O1.chg qk2 (by simp);have O2:=O2.chg qk2 (by simp);have c2:=c1.trans qk2;have qa11:H2.cells (h.next,11) 15=some (.agg (vac v1)):=O1.cells (j:=11) (m:=15) (show 26≤32 by decide);have qb11:H2.cells (h1.next,11) 15=some (.agg (vac v2)):=O2.cells (j:=11) (m:=15) (show 26≤32 by decide);simp only [Nat.zero_add,cond_true,bA];rw [qa11,pV,qb11,pV];obtain ⟨H3,qe3,qk3⟩:∃ H',f165 N (v1.1,v1.2.1,v1.2.2.1,v1.2.2.2.1,v1.2.2.2.2.1,v1.2.2.2.2.2.1,v1.2.2.2.2.2.2.1,v1.2.2.2.2.2.2.2.1,v1.2.2.2.2.2.2.2.2.1,v1.2.2.2.2.2.2.2.2.2.1,v1.2.2.2.2.2.2.2.2.2.2.1,v1.2.2.2.2.2.2.2.2.2.2.2.1,v1.2.2.2.2.2.2.2.2.2.2.2.2.1,v1.2.2.2.2.2.2.2.2.2.2.2.2.2.1,v1.2.2.2.2.2.2.2.2.2.2.2.2.2.2.1,()) (v2.1,v2.2.1,v2.2.2.1,v2.2.2.2.1,v2.2.2.2.2.1,v2.2.2.2.2.2.1,v2.2.2.2.2.2.2.1,v2.2.2.2.2.2.2.2.1,v2.2.2.2.2.2.2.2.2.1,v2.2.2.2.2.2.2.2.2.2.1,v2.2.2.2.2.2.2.2.2.2.2.1,v2.2.2.2.2.2.2.2.2.2.2.2.1,v2.2.2.2.2.2.2.2.2.2.2.2.2.1,v2.2.2.2.2.2.2.2.2.2.2.2.2.2.1,v2.2.2.2.2.2.2.2.2.2.2.2.2.2.2.1,()) H2=some (true,H')∧Chg [] H2 H':=hv H2 c2;rw [qe3,aA];have O1:=O1.chg qk3 (by simp);have O2:=O2.chg qk3 (by simp);have c3:=c2.trans qk3;have qa26:H3.cells (h.next,26) 4=some (.agg (opc o1)):=O1.cells (j:=26) (m:=4) (show 30≤32 by decide);have qb26:H3.cells (h1.next,26) 4=some (.agg (opc o2)):=O2.cells (j:=26) (m:=4) (show 30≤32 by decide);simp only [Nat.zero_add,cond_true,bA];rw [qa26,iK,qb26,iK];obtain ⟨H4,qe4,qk4⟩:∃ H',f166 N (o1.1,o1.2.1,o1.2.2.1,o1.2.2.2.1,()) (o2.1,o2.2.1,o2.2.2.1,o2.2.2.2.1,()) H3=some (true,H')∧Chg [] H3 H':=ho H3 c3;rw [qe4,aA];have O1:=O1.chg qk4 (by simp);have O2:=O2.chg qk4 (by simp);have c4:=c3.trans qk4;have qa30:H4.cell (h.next,30)=some (.slice th1.a th1.len th1.cap th1.sz):=O1.cell 30;have qb30:H4.cell (h1.next,30)=some (.slice th2.a th2.len th2.cap th2.sz):=O2.cell 30;simp only [Nat.zero_add,qa30,qb30,jA,cond_true,bA];obtain ⟨H5,qe5,qk5⟩:∃ H',rec113c114 th1 th2 () H4=some (true,H')∧Chg [] H4 H':=hth H4 c4;show ∃ h',(kA (rec113c114 th1 th2 () H4) _)=_∧_;rw [qe5,aA];have O1:=O1.chg qk5 (by simp);have O2:=O2.chg qk5 (by simp);have c5:=c4.trans qk5;have qa31:H5.cell (h.next,31)=some (.slice el1.a el1.len el1.cap el1.sz):=O1.cell 31;have qb31:H5.cell (h1.next,31)=some (.slice el2.a el2.len el2.cap el2.sz):=O2.cell 31;simp only [Nat.zero_add,qa31,qb31,jA,cond_true,bA];obtain ⟨H6,qe6,qk6⟩:∃ H',rec113c114 el1 el2 () H5=some (true,H')∧Chg [] H5 H':=hel H5 c5;show ∃ h',(kA (rec113c114 el1 el2 () H5) _)=_∧_;rw [qe6,aA];have O1:=O1.chg qk6 (by simp);have O2:=O2.chg qk6 (by simp);have c6:=c5.trans qk6;exact ⟨_,rfl,c6⟩
end
end Qp
namespace Qp
def isFd (d:D):Prop:=∃ m nm ty,d=fdD m nm ty∧isTy 65 ty
def isSt (d:D):Prop:=∃ pub nm lv fs a,d=iAm pub nm lv fs a∧lv.length≤1000∧fs.length≤1000∧∀ f∈fs,isFd f
def isLf (d:D):Prop:=∃ (nm:Bs) (xs:List Bs),d=gE nm (xs.map D.s)∧xs.length≤1000
def isOp (d:D):Prop:=∃ k n pl,d=opD k n pl∧isLf pl
def aAf (d:D):Prop:=∃ k a b op pl nm,∃ (ns:List Bs) (ag:List D),d=vaD k a b op pl nm (ns.map D.s) ag∧isOp a∧isOp b∧isLf pl∧ns.length≤1000∧ag.length≤1000∧∀ o∈ag,isOp o
def smT (k a:Int) (m:Bool) (nm:Bs) (ty:D) (hs:Bool) (pl va co:D) (th el:List D):D:=.t [.i k,.i a,.b m,.s nm,ty,.b hs,pl,va,co,.l th,.l el]
def aW:Nat→D→Prop
 | 0,_=>False
 | n+1,d=>∃ k a m nm ty hs pl va co th el,d=smT k a m nm ty hs pl va co th el∧isTy 65 ty∧isLf pl∧aAf va∧isOp co∧th.length≤3000∧el.length≤3000∧(∀ s∈th,aW n s)∧∀ s∈el,aW n s
def fuT (pub:Bool) (nm:Bs) (lv ps:List D) (ty:D) (bd:List D) (a:Int):D:=.t [.b pub,.s nm,.l lv,.l ps,ty,.l bd,.i a]
def isFu (d:D):Prop:=∃ pub nm lv ps ty bd a,d=fuT pub nm lv ps ty bd a∧lv.length≤1000∧(∀ l∈lv,isLf l)∧ps.length≤1000∧(∀ p∈ps,isFd p)∧isTy 65 ty∧bd.length≤3000∧∀ s∈bd,aW 65 s
section
variable {h:Heap} {V W:Nat→Prop} {cs:List AV}
theorem dA0 {xs:List D} (x:∃ (s:SL) (vs:List AV),cs=[s.av]∧s.len=xs.length∧s.len≤s.cap∧(∀ A,s.blk=some A→V A)∧Sees h s vs∧De h V s.sz xs vs):∃ s:SL,cs=[s.av]∧Sl h V s xs:=by
 have:Dt h V (.l xs) cs:=by simp only [Dt];exact x
 exact bB1.1 this
theorem rAb {n:Nat} {d:D} (t:isTy n d) (x:Dt h V d cs):∃ r:TyV,cs=tyc r:=by
 cases n with
 | zero=>cases t
 | succ n=>
  obtain ⟨k,y,lv,el,rfl,_⟩:=t;obtain ⟨s1,s2,hc,_⟩:=jG.1 x;exact ⟨_,hc⟩
theorem oI {nm:Bs} {l:List D} (x:Dt h V (gE nm l) cs):∃ s:SL,cs=lfc (nm,s,())∧Sl h V s l:=by
 simp only [gE,Dt,Dp] at x;obtain ⟨_,_,rfl,e1,_,_,rfl,x2,rfl⟩:=x;subst e1;obtain ⟨s,rfl,hs⟩:=dA0 x2;exact ⟨s,rfl,hs⟩
theorem eA0 {d:D} (t:isLf d) (x:Dt h V d cs):∃ r:LfV,cs=lfc r:=by
 obtain ⟨nm,xs,rfl,_⟩:=t;obtain ⟨s,hc,_⟩:=oI x;exact ⟨_,hc⟩
theorem eAi {m:Bool} {nm:Bs} {ty:D} {n:Nat} (t:isTy n ty) (x:Dt h V (fdD m nm ty) cs):∃ r:TyV,cs=fdc (nB5 m nm r)∧Dt h V ty (tyc r):=by
 simp only [fdD,Dt,Dp] at x;obtain ⟨_,_,rfl,e1,_,_,rfl,e2,_,_,rfl,x3,rfl⟩:=x;subst e1 e2;obtain ⟨r,rfl⟩:=rAb t x3;exact ⟨r,rfl,x3⟩
theorem qA4 {pub:Bool} {nm:Bs} {lv:List Bs} {fs:List D} {a:Int} (x:Dt h V (iAm pub nm lv fs a) cs):∃ s1 s2:SL,cs=stc (pub,nm,s1,s2,a,())∧Sl h V s1 (lv.map D.s)∧Sl h V s2 fs:=by
 have x':=x;unfold iAm at x';simp only [Dt,Dp] at x';obtain ⟨_,_,rfl,e1,_,_,rfl,e2,_,_,rfl,x3,_,_,rfl,x4,_,_,rfl,e5,rfl⟩:=x';subst e1 e2 e5;obtain ⟨s1,rfl,h1⟩:=dA0 x3;obtain ⟨s2,rfl,h2⟩:=dA0 x4;exact ⟨s1,s2,rfl,h1,h2⟩
theorem jU {k n:Int} {pl:D} (t:isLf pl) (x:Dt h V (opD k n pl) cs):∃ p:LfV,cs=opc (k,n,p.1,p.2.1,())∧Dt h V pl (lfc p):=by
 simp only [opD,Dt,Dp] at x;obtain ⟨_,_,rfl,e1,_,_,rfl,e2,_,_,rfl,x3,rfl⟩:=x;subst e1 e2;obtain ⟨r,rfl⟩:=eA0 t x3;exact ⟨r,rfl,x3⟩
theorem fA0 {d:D} (t:isOp d) (x:Dt h V d cs):∃ r:OpV,cs=opc r:=by
 obtain ⟨k,n,pl,rfl,ht⟩:=t;obtain ⟨p,hc,_⟩:=jU ht x;exact ⟨_,hc⟩
theorem jK {k op:Int} {a b pl:D} {nm:Bs} {ns ag:List D} (ta:isOp a) (tb:isOp b) (tp:isLf pl) (x:Dt h V (vaD k a b op pl nm ns ag) cs):∃ (ra rb:OpV) (rp:LfV) (s1 s2:SL),cs=vac (fI k ra rb op rp nm s1 s2)∧Dt h V a (opc ra)∧Dt h V b (opc rb)∧Dt h V pl (lfc rp)∧Sl h V s1 ns∧Sl h V s2 ag:=by
 simp only [vaD,Dt,Dp] at x;obtain ⟨_,_,rfl,e1,_,_,rfl,x2,_,_,rfl,x3,_,_,rfl,e4,_,_,rfl,x5,_,_,rfl,e6,_,_,rfl,x7,_,_,rfl,x8,rfl⟩:=x;subst e1 e4 e6;obtain ⟨ra,rfl⟩:=fA0 ta x2;obtain ⟨rb,rfl⟩:=fA0 tb x3;obtain ⟨rp,rfl⟩:=eA0 tp x5;obtain ⟨s1,rfl,h1⟩:=dA0 x7;obtain ⟨s2,rfl,h2⟩:=dA0 x8;exact ⟨ra,rb,rp,s1,s2,rfl,x2,x3,x5,h1,h2⟩
theorem uAq {d:D} (t:aAf d) (x:Dt h V d cs):∃ r:VaV,cs=vac r:=by
 obtain ⟨k,a,b,op,pl,nm,ns,ag,rfl,ta,tb,tp,_⟩:=t;obtain ⟨ra,rb,rp,s1,s2,hc,_⟩:=jK ta tb tp x;exact ⟨_,hc⟩
theorem rQ {k a:Int} {m hs:Bool} {nm:Bs} {ty pl va co:D} {th el:List D} (tt:isTy 65 ty) (tp:isLf pl) (tv:aAf va) (tq:isOp co) (x:Dt h V (smT k a m nm ty hs pl va co th el) cs):∃ (r:TyV) (p:LfV) (v:VaV) (o:OpV) (s1 s2:SL),cs=smc ⟨k,a,m,nm,r,hs,p,v,o,s1,s2⟩∧Dt h V ty (tyc r)∧Dt h V pl (lfc p)∧Dt h V va (vac v)∧Dt h V co (opc o)∧Sl h V s1 th∧Sl h V s2 el:=by
 simp only [smT,Dt,Dp] at x;obtain ⟨_,_,rfl,e1,_,_,rfl,e2,_,_,rfl,e3,_,_,rfl,e4,_,_,rfl,x5,_,_,rfl,e6,_,_,rfl,x7,_,_,rfl,x8,_,_,rfl,x9,_,_,rfl,x10,_,_,rfl,x11,rfl⟩:=x;subst e1 e2 e3 e4 e6;obtain ⟨r,rfl⟩:=rAb tt x5;obtain ⟨p,rfl⟩:=eA0 tp x7;obtain ⟨v,rfl⟩:=uAq tv x8;obtain ⟨o,rfl⟩:=fA0 tq x9;obtain ⟨s1,rfl,h1⟩:=dA0 x10;obtain ⟨s2,rfl,h2⟩:=dA0 x11;exact ⟨r,p,v,o,s1,s2,rfl,x5,x7,x8,x9,h1,h2⟩
theorem tAb {pub:Bool} {nm:Bs} {lv ps bd:List D} {ty:D} {a:Int} (tt:isTy 65 ty) (x:Dt h V (fuT pub nm lv ps ty bd a) cs):∃ (s1 s2 s3:SL) (r:TyV),cs=fuc ⟨pub,nm,s1,s2,r,s3,a⟩∧Sl h V s1 lv∧Sl h V s2 ps∧Dt h V ty (tyc r)∧Sl h V s3 bd:=by
 simp only [fuT,Dt,Dp] at x;obtain ⟨_,_,rfl,e1,_,_,rfl,e2,_,_,rfl,x3,_,_,rfl,x4,_,_,rfl,x5,_,_,rfl,x6,_,_,rfl,e7,rfl⟩:=x;subst e1 e2 e7;obtain ⟨r,rfl⟩:=rAb tt x5;obtain ⟨s1,rfl,h1⟩:=dA0 x3;obtain ⟨s2,rfl,h2⟩:=dA0 x4;obtain ⟨s3,rfl,h3⟩:=dA0 x6;exact ⟨s1,s2,s3,r,rfl,h1,h2,x5,h3⟩
end
theorem gO (n:Nat):Rec [(.int .i64),.str,.slice,.slice] 4 tyc (isTy n):=⟨fun _=>rfl,fun r K=>yR r K,fun t x=>rAb t x⟩
theorem nAe:Rec [.bool,.str,(.int .i64),.str,.slice,.slice] 6 fdc isFd:=⟨fun _=>rfl,fun r K=>qB2 r K,fun t x=>by
 obtain ⟨m,nm,ty,rfl,ht⟩:=t;obtain ⟨r,hc,_⟩:=eAi ht x;exact ⟨_,hc⟩⟩
theorem rA4:Rec [.bool,.str,.slice,.slice,(.int .i64)] 5 stc isSt:=⟨fun _=>rfl,fun r K=>wAv r K,fun t x=>by
 obtain ⟨pub,nm,lv,fs,a,rfl,_⟩:=t;obtain ⟨s1,s2,hc,_⟩:=qA4 x;exact ⟨_,hc⟩⟩
theorem iR:Rec [.str,.slice] 2 lfc isLf:=⟨fun _=>rfl,fun r K=>pM r K,fun t x=>eA0 t x⟩
theorem jR:Rec [(.int .i64),(.int .i64),.str,.slice] 4 opc isOp:=⟨fun _=>rfl,fun r K=>iK r K,fun t x=>fA0 t x⟩
theorem kK (n:Nat):Rec [(.int .i64),(.int .i64),.bool,.str,(.int .i64),.str,.slice,.slice,.bool,.str,.slice,(.int .i64),(.int .i64),(.int .i64),.str,.slice,(.int .i64),(.int .i64),.str,.slice,(.int .i64),.str,.slice,.str,.slice,.slice,(.int .i64),(.int .i64),.str,.slice,.slice,.slice] 32 smx (aW n):=⟨fun _=>rfl,fun r K=>uG r K,fun t x=>by
 cases n with
 | zero=>cases t
 | succ n=>
  obtain ⟨k,a,m,nm,ty,hs,pl,va,co,th,el,rfl,t1,t2,t3,t4,_⟩:=t;obtain ⟨r,p,v,o,s1,s2,hc,_⟩:=rQ t1 t2 t3 t4 x;exact ⟨_,hc⟩⟩
theorem kU:Rec [.bool,.str,.slice,.slice,(.int .i64),.str,.slice,.slice,.slice,(.int .i64)] 10 fux isFu:=⟨fun _=>rfl,fun r K=>rAt r K,fun t x=>by
 obtain ⟨pub,nm,lv,ps,ty,bd,a,rfl,_,_,_,_,ht,_⟩:=t;obtain ⟨s1,s2,s3,r,hc,_⟩:=tAb ht x;exact ⟨_,hc⟩⟩
theorem Rec.inj {tys:List CTy} {n:Nat} {c:aM tys→List AV} {P:D→Prop} (R:Rec tys n c P) {r r':aM tys} (h:c r=c r'):r=r':=by
 have h1:=R.agg r (fun x=>some x);rw [h,R.agg] at h1;exact (Option.some.inj h1).symm
section
variable {N:Nat} {tys:List CTy} {n:Nat} {c:aM tys→List AV} {z:List AV} {P:D→Prop}
theorem uAb (R:Rec tys n c P) (hz:z.length=n) {F:aM tys→aM tys→Heap→Option (Bool×Heap)} {L:Nat→SL→Unit→Bool→SL→Int→Int→Heap→Option (Out×zA1×Heap)} (hs:∀ M v1 v6 v15 v16 v17 h,L (M+1) v1 () v6 v15 v16 v17 h=bAi tys n c z F (L M) v1 v6 v15 v16 v17 h)
  {xs:List D} (hP:∀ x∈xs,P x) (hF:∀ x∈xs,∀ r1 r2 H V W,Dt H V x (c r1)→Dt H W x (c r2)→∃ H',F r1 r2 H=some (true,H')∧Chg [] H H') (hl:xs.length≤2000000) (hN:xs.length<N) {G:Option (Bool×Heap)} {h:Heap} {V W:Nat→Prop} {s1 s2:SL} (x1:Sl h V s1 xs) (x2:Sl h W s2 xs)
  (hG:G=(bif !iA (Int.ofNat s1.len) (Int.ofNat s2.len) then some (false,h) else wC (L N s2 () false s1 (Int.ofNat s1.len) 0 h) fun o17 (j18:zA1) h19=>bif bD o17 (.exit 0) then some (true,h19) else some (j18.1,h19))):∃ h',G=some (true,h')∧Chg [] h h':=by
 obtain ⟨h',e,c'⟩:=rAq R hz hs hP hF hl N 0 h V W s1 s2 (Nat.zero_le _) (by omega) x1 x2;rw [show ((0:Nat):Int)=0 from rfl] at e;refine ⟨h',?_,c'⟩;rw [hG,oAo x1 x2,Bool.not_true,cond_false,x1.len,show Int.ofNat xs.length=(xs.length:Int) from rfl,e];rfl
end
section
variable {N:Nat} {h:Heap} {V W:Nat→Prop}
theorem gA0 {d:D} (t:isLf d) {p1 p2:LfV} (x1:Dt h V d (lfc p1)) (x2:Dt h W d (lfc p2)) (hN:3001≤N) {H:Heap} (c:Chg [] h H):∃ H',f164 N (p1.1,p1.2.1,()) (p2.1,p2.2.1,()) H=some (true,H')∧Chg [] H H':=by
 obtain ⟨nm,xs,rfl,hl⟩:=t;obtain ⟨s1,hc1,y1⟩:=oI x1;obtain ⟨s2,hc2,y2⟩:=oI x2;have e1:=iR.inj hc1;have e2:=iR.inj hc2;subst e1 e2;exact dAi (y1.chg c (by simp)) (y2.chg c (by simp)) (by omega) (by omega)
theorem lU {d:D} (t:isOp d) {r1 r2:OpV} (x1:Dt h V d (opc r1)) (x2:Dt h W d (opc r2)) (hN:3001≤N) {H:Heap} (c:Chg [] h H):∃ H',f166 N (r1.1,r1.2.1,r1.2.2.1,r1.2.2.2.1,()) (r2.1,r2.2.1,r2.2.2.1,r2.2.2.2.1,()) H=some (true,H')∧Chg [] H H':=by
 obtain ⟨k,n,pl,rfl,ht⟩:=t;obtain ⟨p1,hc1,y1⟩:=jU ht x1;obtain ⟨p2,hc2,y2⟩:=jU ht x2;have e1:=jR.inj hc1;have e2:=jR.inj hc2;subst e1 e2;exact lAm fun H' c'=>gA0 ht y1 y2 hN (c.trans c')
theorem vAq {ag:List D} (t:∀ o∈ag,isOp o) (hl:ag.length≤3000) {s1 s2:SL} (x1:Sl h V s1 ag) (x2:Sl h W s2 ag) (hN:3001≤N) {H:Heap} (c:Chg [] h H):∃ H',dJ N s1 s2 () H=some (true,H')∧Chg [] H H':=by
 unfold dJ;obtain ⟨H',e,c'⟩:=uAb (N:=N) jR (z:=opc (0,0,[],sl0,())) rfl (L:=iU N) (F:=fun a b h=>f166 N (a.1,a.2.1,a.2.2.1,a.2.2.2.1,()) (b.1,b.2.1,b.2.2.1,b.2.2.2.1,()) h) (fun _ _ _ _ _ _ _=>rfl) t (fun x hx r1 r2 H V W y1 y2=>lU (t x hx) y1 y2 hN (Chg.refl _ _)) (by omega) (by omega) (x1.chg c (by simp)) (x2.chg c (by simp)) (G:=bA0 N s1 s2 () H) rfl;rw [e];exact ⟨H',rfl,c'⟩
theorem bA8 {d:D} (t:aAf d) {v1 v2:VaV} (x1:Dt h V d (vac v1)) (x2:Dt h W d (vac v2)) (hN:3001≤N) {H:Heap} (c:Chg [] h H):∃ H',f165 N v1 v2 H=some (true,H')∧Chg [] H H':=by
 obtain ⟨k,a,b,op,pl,nm,ns,ag,rfl,ta,tb,tp,hn,hg,tg⟩:=t;obtain ⟨ra1,rb1,rp1,n1,g1,hc1,a1,b1,p1,y1,z1⟩:=jK ta tb tp x1;obtain ⟨ra2,rb2,rp2,n2,g2,hc2,a2,b2,p2,y2,z2⟩:=jK ta tb tp x2;have hinj:∀ {r r':VaV},vac r=vac r'→r=r':=fun {r r'} h=>by
  have h1:=pV r (fun x=>some x);rw [h,pV] at h1;exact (Option.some.inj h1).symm
 have e1:=hinj hc1;have e2:=hinj hc2;subst e1 e2;exact mAm (fun H' c'=>lU ta a1 a2 hN (c.trans c')) (fun H' c'=>lU tb b1 b2 hN (c.trans c')) (fun H' c'=>gA0 tp p1 p2 hN (c.trans c'))
  (fun H' c'=>qB5 (c.trans c') y1 y2 (by omega) (by omega)) (fun H' c'=>vAq tg (by omega) z1 z2 hN (c.trans c'))
theorem wAq (hN:3001≤N):∀ (n M:Nat) (d:D) (r1 r2:TyV) (h:Heap) (V W:Nat→Prop),3 * n≤M→isTy n d→Dt h V d (tyc r1)→Dt h W d (tyc r2)→∃ H',f112 N M (r1.1,r1.2.1,r1.2.2.1,r1.2.2.2.1,()) (r2.1,r2.2.1,r2.2.2.1,r2.2.2.2.1,()) h=some (true,H')∧Chg [] h H':=by
 intro n
 induction n with
 | zero=>intro M d r1 r2 h V W _ t;cases t
 | succ n ih=>
  intro M d r1 r2 h V W hM t x1 x2;obtain ⟨M,rfl⟩:∃ m,M=m+3:=⟨M-3,by omega⟩;obtain ⟨k,x,lv,el,rfl,hlv,hel,tel⟩:=t;obtain ⟨l1,g1,hc1,y1,z1⟩:=jG.1 x1;obtain ⟨l2,g2,hc2,y2,z2⟩:=jG.1 x2;have e1:=(gO 1).inj hc1;have e2:=(gO 1).inj hc2;subst e1 e2;rw [yAh];refine nAm (fun H c=>qB5 c y1 y2 (by omega) (by omega)) (fun H c=>?_)
  rw [wZ];unfold gP;obtain ⟨H',e,c'⟩:=uAb (N:=N) (gO n) (z:=tyc (0,[],sl0,sl0,())) rfl (L:=gU N (f112 N M) (dO N M) (eO N M)) (F:=fun a b h=>f112 N M (a.1,a.2.1,a.2.2.1,a.2.2.2.1,()) (b.1,b.2.1,b.2.2.1,b.2.2.2.1,()) h) (fun _ _ _ _ _ _ _=>rfl) tel (fun x hx r1 r2 H V W y1 y2=>ih M x r1 r2 H V W (by omega) (tel x hx) y1 y2) (by omega) (by omega) (z1.chg c (by simp)) (z2.chg c (by simp)) (G:=eO N (M+1) g1 g2 () H) rfl;rw [e];exact ⟨H',rfl,c'⟩
theorem vAb {n:Nat} {d:D} (t:isTy n d) (hn:n≤100) {r1 r2:TyV} (x1:Dt h V d (tyc r1)) (x2:Dt h W d (tyc r2)) (hN:3001≤N) {H:Heap} (c:Chg [] h H):∃ H',f112 N N (r1.1,r1.2.1,r1.2.2.1,r1.2.2.2.1,()) (r2.1,r2.2.1,r2.2.2.1,r2.2.2.2.1,()) H=some (true,H')∧Chg [] H H':=
 wAq hN n N d r1 r2 H V W (by omega) t (Dt.chg c (by simp) x1) (Dt.chg c (by simp) x2)
theorem fAi (hN:3001≤N):∀ (n M:Nat) (xs:List D) (s1 s2:SL) (h:Heap) (V W:Nat→Prop),3 * n+3≤M→(∀ s∈xs,aW n s)→xs.length≤3000→Sl h V s1 xs→Sl h W s2 xs→∃ H',eJ N M s1 s2 () h=some (true,H')∧Chg [] h H':=by
 intro n
 induction n with
 | zero=>
  intro M xs s1 s2 h V W hM t hl x1 x2;obtain ⟨M,rfl⟩:∃ m,M=m+2:=⟨M-2,by omega⟩;rw [fO];unfold iL;obtain ⟨H',e,c'⟩:=uAb (N:=N) (kK 0) (z:=smx (smv (gF 0))) rfl (L:=qM N (eJ N M) (f114 N M) (fJ N M)) (F:=fun a b h=>f114 N M a b h) (fun _ _ _ _ _ _ _=>rfl) t (fun x hx r1 r2 H V W y1 y2=>by cases t x hx) (by omega) (by omega) x1 x2 (G:=fJ N (M+1) s1 s2 () h) rfl;rw [e];exact ⟨H',rfl,c'⟩
 | succ n ih=>
  intro M xs s1 s2 h V W hM t hl x1 x2;obtain ⟨M,rfl⟩:∃ m,M=m+3:=⟨M-3,by omega⟩;rw [fO];unfold iL;obtain ⟨H',e,c'⟩:=uAb (N:=N) (kK (n+1)) (z:=smx (smv (gF 0))) rfl (L:=qM N (eJ N (M+1)) (f114 N (M+1)) (fJ N (M+1))) (F:=fun a b h=>f114 N (M+1) a b h) (fun _ _ _ _ _ _ _=>rfl) t (fun x hx r1 r2 H V W y1 y2=>by
   obtain ⟨k,a,m,nm,ty,hs,pl,va,co,th,el,rfl,t1,t2,t3,t4,h1,h2,t5,t6⟩:=t x hx;obtain ⟨q1,p1,v1,o1,th1,el1,hc1,z1,pl1,va1,co1,u1,w1⟩:=rQ t1 t2 t3 t4 y1;obtain ⟨q2,p2,v2,o2,th2,el2,hc2,z2,pl2,va2,co2,u2,w2⟩:=rQ t1 t2 t3 t4 y2;have e1:=(kK 1).inj hc1;have e2:=(kK 1).inj hc2;subst e1 e2;show ∃ H',f114 N (M+1) _ _ H=_∧_;rw [pA4];exact qAb (fun H' c=>vAb t1 (by omega) z1 z2 hN c) (fun H' c=>gA0 t2 pl1 pl2 hN c) (fun H' c=>bA8 t3 va1 va2 hN c) (fun H' c=>lU t4 co1 co2 hN c)
    (fun H' c=>ih M th th1 th2 H' V W (by omega) t5 h1 (u1.chg c (by simp)) (u2.chg c (by simp))) (fun H' c=>ih M el el1 el2 H' V W (by omega) t6 h2 (w1.chg c (by simp)) (w2.chg c (by simp)))) (by omega) (by omega) x1 x2 (G:=fJ N (M+2) s1 s2 () h) rfl
  rw [e];exact ⟨H',rfl,c'⟩
end
end Qp
namespace Ai
def OwC (h:Heap) (s:SL) (n:Nat) (vs:List AV):Prop:=
 (s.a=none∧s.len=0∧s.cap=0∧vs=[])∨
 ∃ A cs st,s.a=some (A,0)∧s.sz=n∧A<h.next∧h.g A=some (.row cs st)∧vs.length=s.len * n∧cs.take vs.length=vs∧s.len≤s.cap∧(st=.grown∨(st=.own∧s.cap * n=cs.length))
section
variable {E:Env} {h h':Heap} {s:SL} {n:Nat} {vs:List AV} {M:List Nat}
theorem OwC.len (x:OwC h s n vs):vs.length=s.len * n:=by
 rcases x with ⟨_,h1,_,rfl⟩ | ⟨A,cs,st,_,_,_,_,h1,_⟩
 ·simp [h1]
 ·exact h1
theorem OwC.sees (x:OwC h s n vs):Sees h s vs:=by
 rcases x with ⟨h1,h2,h3,rfl⟩ | ⟨A,cs,st,h1,h2,h3,h4,h5,h6,h7,h8⟩
 ·exact ⟨by simp [h2],fun _=>h2,fun A off ha=>by rw [h1] at ha;cases ha⟩
 ·refine ⟨by rw [h5,h2],fun ha=>(by rw [h1] at ha;cases ha),fun A' off ha=>?_⟩
  rw [h1] at ha;simp only [Option.some.injEq,Prod.mk.injEq] at ha;obtain ⟨rfl,rfl⟩:=ha;refine ⟨h3,cs,?_,by rw [List.drop_zero];exact h6⟩;rw [h4];rcases h8 with rfl | ⟨rfl,_⟩ <;> rfl
theorem OwC.cap (x:OwC h s n vs):s.len≤s.cap:=by
 rcases x with ⟨_,h2,h3,_⟩ | ⟨A,cs,st,h1,h2,h3,h4,h5,h6,h7,h8⟩
 ·omega
 ·exact h7
theorem lX {x:SL} {ws:List AV} (hx:Sees h x ws) (hz:x.len * n=ws.length):iC h n x.len (.slice x.a x.len x.cap x.sz)=some ws:=by
 obtain ⟨g2,g3,g4⟩:=hx
 cases ha:x.a with
 | none=>
  have h0:=g3 ha;rw [h0,Nat.zero_mul] at hz
  have:ws=[]:=List.length_eq_zero_iff.1 hz.symm
  subst this;rfl
 | some q=>
  obtain ⟨A,off⟩:=q;obtain ⟨h1,bs,h5,h6⟩:=g4 A off ha;have hlen:((bs.drop off).take ws.length).length=ws.length:=by rw [h6]
  rw [List.length_take] at hlen;simp only [iC,Heap.read,bA7 A h5,hz];rw [iG _ _ (by omega),h6]
theorem oAm {st e:TypeId} {W:Nat} (ha:AppN E st e n W) {x:SL} {ws:List AV} (hx:Sees h x ws) (hz:x.len * n=ws.length) (hv:∀ w∈ws,AV.single w=true) (ho:OwC h s n vs) (hl:(s.len+x.len) * W≤1073741824) :
  ∃ s' h',uC E st st (.slice s.a s.len s.cap s.sz) (.slice x.a x.len x.cap x.sz) h=some (.slice s'.a s'.len s'.cap s'.sz,h')∧OwC h' s' n (vs++ws)∧s'.len=s.len+x.len∧Chg s.blk.toList h h'∧(∀ A,s'.blk=some A→s.blk=some A∨h.next≤A):=by
 obtain ⟨hu,⟨i,hi,hi1,hi2⟩,⟨z,hzz,hz1⟩⟩:=ha;have hfirst:=lX hx hz
 by_cases hn:x.len=0
 ·have hws:ws=[]:=List.length_eq_zero_iff.1 (by rw [← hz,hn,Nat.zero_mul])
  subst hws;refine ⟨s,h,?_,by rw [List.append_nil];exact ho,by omega,(Chg.refl [] h).mono (by simp),fun A hA=>.inl hA⟩;rw [hn] at hfirst;simp only [uC,hu,tJ,fS,cond_false,hi,hzz,wG,hi1,hn,hfirst,show Nat.beq 0 0=true from rfl,cond_true]
 have hn0:Nat.beq x.len 0=false:=by
  cases hq:Nat.beq x.len 0 with
  | false=>rfl
  | true=>exact absurd (Nat.eq_of_beq_eq_true hq) hn
 have hroom:Nat.ble ((s.len+x.len) * (i.bytes+i.size+1)) wM=true:=by
  have h1:(s.len+x.len) * (i.bytes+i.size+1)≤(s.len+x.len) * W:=Nat.mul_le_mul (Nat.le_refl _) (by omega);simp only [wM,Nat.ble_eq];omega
 have hsz:(Nat.beq s.sz i.size||s.a.isNone)=true:=by
  rcases ho with ⟨h1,_⟩ | ⟨A,cs,st',h1,h2,_⟩
  ·simp [h1]
  ·simp [hi1,h2]
 have key:uC E st st (.slice s.a s.len s.cap s.sz) (.slice x.a x.len x.cap x.sz) h=fM h s.a s.len s.cap n x.len ws:=by
  have hall:List.all ws AV.single=true:=by rw [List.all_eq_true];exact hv
  have hz2:Nat.beq z.cells.length i.size=true:=by rw [hz1,hi1];exact Nat.beq_refl _
  have hnl:Nat.beq ws.length (x.len * i.size)=true:=by rw [hi1,hz];exact Nat.beq_refl _
  simp only [uC,hu,tJ,fS,cond_false,hi,hzz,wG];rw [hi1] at hroom hsz hz2 hnl ⊢;simp only [hfirst,hn0,cond_false,hroom,hsz,hz2,hnl,hall,Bool.and_self,cond_true]
 rw [key];rcases ho with ⟨h1,h2,h3,rfl⟩ | ⟨A,bs,st',h1,h2,h4,h5,h6,h7,h9,h10⟩
 ·have c0:Chg [] h (h.push (.row ws .grown)):=(Chg.refl [] h).push _
  refine ⟨⟨some (h.next,0),x.len,x.len,n⟩,_,by simp only [fM,h1,h2,Nat.zero_add],.inr ⟨h.next,ws,.grown,rfl,rfl,by simp,uF _ rfl,by simp [hz],by simp,Nat.le_refl _,.inl rfl⟩,by show x.len=_;omega,c0.mono (by simp),fun A hA=>.inr (by simp [SL.blk] at hA;omega)⟩
 ·have hbl:s.blk=some A:=by simp [SL.blk,h1]
  have hcl:vs.length≤bs.length:=by
   have:(bs.take vs.length).length=vs.length:=by rw [h7]
   rw [List.length_take] at this;omega
  have hg:h.t.get A=some (.row bs st'):=by unfold Heap.g at h5;exact h5
  have htk:takeN (s.len * n) bs=some vs:=by rw [iG _ _ (by omega),← h6,h7]
  have hlen2:(vs++ws).length=(s.len+x.len) * n:=by rw [List.length_append,h6,← hz,Nat.add_mul]
  have fresh:∀ H:Heap,H.next=h.next→OwC (H.push (.row (vs++ws) .grown)) ⟨some (h.next,0),s.len+x.len,s.len+x.len,n⟩ n (vs++ws):=fun H hH=>
   .inr ⟨h.next,vs++ws,.grown,rfl,rfl,by simp [hH],uF _ hH.symm,hlen2,List.take_of_length_le (Nat.le_refl _),Nat.le_refl _,.inl rfl⟩
  rcases h10 with rfl | ⟨rfl,h10⟩
  ·have cH:Chg [A] h (h.put A (.row bs .dead)):=(Chg.refl [A] h).put (.inl (by simp)) _
   refine ⟨⟨some (h.next,0),s.len+x.len,s.len+x.len,n⟩,(h.put A (.row bs .dead)).push (.row (vs++ws) .grown),?_,fresh _ rfl,rfl,(cH.push _).mono (by simp [hbl]),fun C hC=>.inr (by simp [SL.blk] at hC;omega)⟩;simp only [fM,h1,hg,List.drop_zero,htk]
  ·by_cases hc:s.len+x.len≤s.cap
   ·have hb1:Nat.ble (s.len+x.len) s.cap=true:=by simpa using hc
    have hroom2:s.len * n+ws.length≤bs.length:=by
     rw [← hz,← Nat.add_mul,← h10];exact Nat.mul_le_mul_right _ hc
    have hov:=dA7 bs ws (s.len * n) hroom2;have cH:Chg [A] h (h.put A (.row (bs.take (s.len * n)++ws++bs.drop (s.len * n+ws.length)) .own)):=(Chg.refl [A] h).put (.inl (by simp)) _;have e1:bs.take (s.len * n)=vs:=by rw [← h6,h7]
    refine ⟨⟨some (A,0),s.len+x.len,s.cap,n⟩,_,?_,.inr ⟨A,_,.own,rfl,rfl,by simp;omega,wN _ rfl,hlen2,?_,hc,.inr ⟨rfl,?_⟩⟩,rfl,cH.mono (by simp [hbl]),fun C hC=>.inl (by simp [SL.blk] at hC;rw [hbl,hC])⟩
    ·simp only [fM,h1,hg,List.drop_zero,htk,hb1,cond_true,Nat.zero_add,hov]
    ·rw [e1,List.append_assoc,← List.append_assoc,List.take_append_of_le_length (Nat.le_refl _),List.take_of_length_le (Nat.le_refl _)]
    ·show s.cap * n=_
     rw [h10];simp only [List.length_append,List.length_take,List.length_drop];omega
   ·have hb1:Nat.ble (s.len+x.len) s.cap=false:=by
     cases hx:Nat.ble (s.len+x.len) s.cap with
     | false=>rfl
     | true=>exact absurd (by simpa using hx) hc
    have cH:Chg [A] h h:=Chg.refl [A] h;refine ⟨⟨some (h.next,0),s.len+x.len,s.len+x.len,n⟩,h.push (.row (vs++ws) .grown),?_,fresh _ rfl,rfl,(cH.push _).mono (by simp [hbl]),fun C hC=>.inr (by simp [SL.blk] at hC;omega)⟩;simp only [fM,h1,hg,List.drop_zero,htk,hb1,cond_false]
end
end Ai
namespace Qp
theorem yAq {h:Heap} {A:Nat} {cs:List AV} (x:h.own A cs) {j:Nat} {vs:List AV} (hj:j+vs.length≤cs.length) {ds:List AV} (hd:cs.take j++vs++cs.drop (j+vs.length)=ds):h.store (A,j) vs=some (h.put A (.row ds .own)):=by
 have hw:h.t.get A=some (.row cs .own):=x.1;simp only [Heap.store,Heap.rowW,hw,dA7 cs vs j hj,hd]
abbrev Fr0 (h:Heap) (C:Nat):Prop:=h.next≤C
section
variable {h h0:Heap} {V W:Nat→Prop}
theorem cA8:∀ {xs:List Bs} {vs:List AV} {n:Nat},De h V n (xs.map D.s) vs→vs=xs.map AV.str
 | [],vs,n,x=>by simpa [De] using x
 | y::r,vs,n,x=>by
  simp only [List.map_cons,De,Dt] at x;obtain ⟨a,b,rfl,_,rfl,hb⟩:=x;rw [cA8 hb];rfl
theorem mX (h:Heap) (V:Nat→Prop):∀ (xs:List Bs),De h V 1 (xs.map D.s) (xs.map AV.str)
 | []=>by simp [De]
 | y::r=>by
  simp only [List.map_cons,De,Dt];exact ⟨[.str y],r.map AV.str,rfl,rfl,rfl,mX h V r⟩
theorem dA8 {α:Type} {n k:Nat} {xs:List D} {L:Nat→SL→Int→Heap→Option (Out×α×Heap)} {fin:SL→α}
  (hstep:∀ (M i:Nat) (hi:i<xs.length) (out:SL) (h:Heap),OwV (Fr0 h0) h out n (xs.take i)→Chg [] h0 h→∃ out' h',L (M+1) out (i:Int) h=L M out' ((i+1:Nat):Int) h'∧OwV (Fr0 h0) h' out' n (xs.take (i+1))∧Chg [] h0 h')
  (hend:∀ M out h,L (M+1) out (xs.length:Int) h=some (.exit k,fin out,h)):∀ (M i:Nat) (out:SL) (h:Heap),i≤xs.length→xs.length-i<M→OwV (Fr0 h0) h out n (xs.take i)→Chg [] h0 h→∃ out' h',L M out (i:Int) h=some (.exit k,fin out',h')∧OwV (Fr0 h0) h' out' n xs∧Chg [] h0 h':=by
 intro M
 induction M with
 | zero=>intro i _ _ _ h;omega
 | succ M ih=>
  intro i out h hi hM ho hc
  by_cases q:i<xs.length
  ·obtain ⟨out',h',e,o',c'⟩:=hstep M i q out h ho hc
   rw [e];exact ih (i+1) out' h' q (by omega) o' c'
  ·have:i=xs.length:=by omega
   subst this;rw [hend];exact ⟨out,h,rfl,by rw [List.take_length] at ho;exact ho,hc⟩
theorem gAw {st e:TypeId} {n Wd:Nat} (ha:AppN E st e n Wd) (hn:0<n) {out:SL} {xs:List D} {i:Nat} (hi:i<xs.length) (ho:OwV (Fr0 h0) h out n (xs.take i)) (c0:Chg [] h0 h) {H:Heap} (cH:Chg [] h H) {cs:List AV} (hd:Dt H (Fr0 h) xs[i] cs) (hcs:cs.length=n) (hl:(i+1) * Wd≤1073741824) :
  ∃ s' h',(∀ {β:Type} (K:SL→Heap→Option β),cI (.val zG2) (uC E st st (.slice out.a out.len out.cap out.sz) (.slice (some (H.next,0)) 1 1 n) (H.push (.row cs .own))) K=K s' h')∧OwV (Fr0 h0) h' s' n (xs.take (i+1))∧Chg [] h0 h':=by
 have hle:=c0.next;have hle2:=cH.next;have o1:=ho.chg cH (by simp);obtain ⟨s',h',e,o',c',_⟩:=cAe ha hn o1 (d:=xs[i]) (cs:=cs) (Dt.weak (fun C hC hl=>⟨by show h0.next≤C;have:h.next≤C:=hC;omega,fun hb=>by have:=(ho.ge C hb).2;have:h.next≤C:=hC;omega⟩) hd) hcs (fun A hA=>by show h0.next≤A;omega) (by rw [List.length_take,Nat.min_eq_left (by omega)];exact hl);refine ⟨s',h',fun K=>by rw [e];rfl,by rw [List.take_succ_eq_append_getElem hi];exact o',(c0.trans cH).step c' fun A hA hlt=>?_⟩;have hb:out.blk=some A:=by simpa using hA
 have:=(ho.ge A hb).1
 exact absurd this (by show ¬ h0.next≤A;omega)
end
section
variable {N:Nat}
end
end Qp
namespace Qp
structure WR (h0 H:Heap) (cs1 cs2:List AV):Prop where
 o1:H.own h0.next cs1
 o2:H.own (h0.next+1) cs2
 c:Chg [] h0 H
 nx:h0.next+2≤H.next
section
variable {h0 H H':Heap} {cs1 cs2:List AV}
end
section
variable {N:Nat} {h:Heap} {V:Nat→Prop}
end
end Qp
namespace Qp
abbrev MP:=Heap→(Nat→Prop)→SL→List D→Prop
structure MeP (M:MP) (h:Heap) (S:Nat→Prop) (r:SmR) (ty pl va co:D) (th el:List D) (S0 S1 S2:Nat→Prop):Prop where
 ty:Dt h S0 ty (tyc r.ty)
 pl:Dt h S0 pl (lfc r.pl)
 va:Dt h S0 va (vac r.va)
 co:Dt h S0 co (opc r.co)
 th:M h S1 r.th th
 el:M h S2 r.el el
 i0:∀ C,S0 C→S C
 i1:∀ C,S1 C→S C
 i2:∀ C,S2 C→S C
 d01:∀ C,S0 C→¬ S1 C
 d02:∀ C,S0 C→¬ S2 C
 d12:∀ C,S1 C→¬ S2 C
section
variable {M:MP} {h h':Heap} {S W:Nat→Prop} {c vs:List AV} {x:D} {xs:List D} {L:List Nat}
end
theorem qH {h:Heap} {V:Nat→Prop} {r:SmR} {ty pl va co:D} {th el:List D} (x1:Dt h V ty (tyc r.ty)) (x2:Dt h V pl (lfc r.pl)) (x3:Dt h V va (vac r.va)) (x4:Dt h V co (opc r.co)) (x5:Sl h V r.th th) (x6:Sl h V r.el el):Dt h V (smT r.k r.at_ r.m r.nm ty r.has pl va co th el) (smc r):=
 vAv ⟨[.int .i64 r.k],_,rfl,nAq _ _ _,[.int .i64 r.at_],_,rfl,nAq _ _ _,[.bool r.m],_,rfl,rB2 _ _ _,[.str r.nm],_,rfl,mAb _ _ _,tyc r.ty,_,rfl,x1,[.bool r.has],_,rfl,rB2 _ _ _,lfc r.pl,_,rfl,x2,vac r.va,_,rfl,x3,opc r.co,_,rfl,x4,[SL.av r.th],_,rfl,gR.2 x5,[SL.av r.el],[],rfl,gR.2 x6,rfl⟩
def pAm:Nat→D→D
 | n+1,.t [k,_,m,nm,ty,hs,pl,va,co,.l th,.l el]=>.t [k,.i 0,m,nm,ty,hs,pl,va,co,.l (th.map (pAm n)),.l (el.map (pAm n))]
 | _,d=>d
end Qp
namespace Qp
theorem jL (cs:List AV):rB (some (.agg cs)) (.agg cs)=true:=eC _
section
variable {N:Nat} {h:Heap} {V:Nat→Prop}
end
end Qp
namespace Qp
structure W1 (h0 H:Heap) (cs:List AV):Prop where
 o:H.own h0.next cs
 c:Chg [] h0 H
 nx:h0.next+1≤H.next
section
variable {h0 H H':Heap} {cs:List AV}
theorem W1.call (w:W1 h0 H cs) (c:Chg [] H H'):W1 h0 H' cs:=⟨w.o.chg c (by simp),w.c.trans c,Nat.le_trans w.nx c.next⟩
theorem W1.set (w:W1 h0 H cs) {j:Nat} {vs ds:List AV} (hj:j+vs.length≤cs.length) (hd:cs.take j++vs++cs.drop (j+vs.length)=ds):∃ H',(∀ {β:Type} (K:Heap→Option β),tA (H.store (h0.next,j) vs) K=K H')∧W1 h0 H' ds∧Chg [h0.next] H H'∧H'.next=H.next:=
 ⟨_,fun K=>by rw [yAq w.o hj hd,fA],⟨fK w.o ds,w.c.put (.inr (Nat.le_refl _)) _,w.nx⟩,w.o.put ds,rfl⟩
end
section
variable {N:Nat}
end
end Qp
namespace Qp
section
variable {N:Nat}
end
end Qp
namespace Qp
section
variable {N:Nat} {h:Heap} {V:Nat→Prop}
end
end Qp
namespace Qp
theorem iAw {h:Heap} {V:Nat→Prop} {pub:Bool} {nm:Bs} {lv ps bd:List D} {ty:D} {a:Int} {s1 s2 s3:SL} {r:TyV} (y1:Sl h V s1 lv) (y2:Sl h V s2 ps) (yt:Dt h V ty (tyc r)) (y3:Sl h V s3 bd):Dt h V (fuT pub nm lv ps ty bd a) (fuc ⟨pub,nm,s1,s2,r,s3,a⟩):=
 vAv ⟨[.bool pub],_,rfl,rB2 _ _ _,[.str nm],_,rfl,mAb _ _ _,[SL.av s1],_,rfl,gR.2 y1,[SL.av s2],_,rfl,gR.2 y2,tyc r,_,rfl,yt,[SL.av s3],_,rfl,gR.2 y3,[.int .i64 a],[],rfl,nAq _ _ _,rfl⟩
section
variable {N:Nat} {h3:Heap} {V:Nat→Prop} {R:Nat}
end
end Qp
namespace Qp
section
variable {σ α β γ:Type} {R:σ→σ→Prop} {Q:α→α→Prop} {Q2:β→β→Prop}
end
section
variable {U V:List Tok} {d:Nat} {α:Type}
def Qs (n:Nat) (x y:D):Prop:=pAm n x=pAm n y
end
end Qp
namespace Qp
section
variable {T' T:List Tok} {E:Nat} {Bd:Int×Int→Prop}
end
end Qp
namespace Qp
section
variable {U V:List Tok} {d n:Nat} {α β:Type}
end
end Qp
namespace Qp
section
variable {T:List Tok}
theorem wF:isLf pl0:=⟨[],[],rfl,by simp⟩
theorem oE:isOp op0:=⟨0,0,_,rfl,wF⟩
theorem iP:isTy 65 ty0D:=⟨0,[],[],[],rfl,by simp,by simp,by simp⟩
theorem aB3 {k op:Int} {a b pl:D} {nm:Bs} (h1:isOp a) (h2:isOp b) (h3:isLf pl):aAf (vaD k a b op pl nm [] []):=⟨k,a,b,op,pl,nm,[],[],rfl,h1,h2,h3,by simp,by simp,by simp⟩
theorem mU:aAf va00:=aB3 oE oE wF
end
end Qp
namespace Qp
section
variable {r x:Bs} {a m:Nat} {l:List Tok} {c d:UInt8}
end
end Qp
namespace Qp
section
variable {T r:List Tok} {i a c:Nat}
end
end Qp
namespace Qp
section
variable {N:Nat}
end
end Qp
namespace Qp
end Qp
namespace Qp
end Qp
namespace Qp
section
variable {σ α β:Type} {st:σ→St} {P:α→Prop} {Q:β→Prop}
end
section
variable {T:List Tok} {α:Type} {Q:α→Prop}
def jAw (g:Nat) (l:List Bs):Prop:=l.length≤g∧∀ x∈l,qE x=true
def jP (g:Nat) (P:D→Prop) (l:List D):Prop:=l.length≤g∧∀ x∈l,P x
def gJ (g:Nat) (d:D):Prop:=∃ p:PT,d=p.D∧p.ok g
def oJ (mu:Bool) (d:D):Prop:=∃ m nm ty,d=fdD m nm ty∧(m=true→mu=true)∧yC nm=true∧gJ 64 ty
def kR (d:D):Prop:=∃ (nm:Bs) (xs:List Bs),d=gE nm (xs.map D.s)∧qE nm=true∧jAw 64 xs
def eA8 (x:Bs):Prop:=x=[42]∨yC x=true
def aAr (g:Nat) (l:List Bs):Prop:=l.length≤g∧∀ x∈l,eA8 x
def qL (d:D):Prop:=∃ (nm:Bs) (xs:List Bs),d=gE nm (xs.map D.s)∧yC nm=true∧aAr 64 xs
def oD (d:D):Prop:=(∃ n:Nat,d=opD 1 (n:Int) pl0∧n≤2147483647)∨(∃ n:Int,(n=0∨n=1)∧d=opD 2 n pl0)∨∃ p,d=opD 3 0 p∧qL p
inductive mayVa:D→Prop
 | op {o:D} (h:oD o):mayVa (vaD 1 o op0 0 pl0 [] [] [])
 | ref {k:Int} {p:D} (hk:k=2∨k=3) (h:qL p):mayVa (vaD k op0 op0 0 p [] [] [])
 | no {o:D} (h:oD o):mayVa (vaD 4 o op0 0 pl0 [] [] [])
 | bin {a b:D} {k:Int} (ha:oD a) (hb:oD b) (hk:k=1∨k=2∨k=3∨k=4):mayVa (vaD 5 a b k pl0 [] [] [])
 | call {nm:Bs} {ag:List D} (hn:dU nm) (h:jP 64 oD ag):mayVa (vaD 6 op0 op0 0 pl0 nm [] ag)
 | make {nm:Bs} {ns:List Bs} {ag:List D} (hn:dU nm) (hl:ns.length=ag.length) (hs:∀ x∈ns,yC x=true) (h:jP 64 oD ag):mayVa (vaD 7 op0 op0 0 pl0 nm (ns.map D.s) ag)
end
def gAi (s:Bs) (a:Nat) (w:Bs):Prop:=a+w.length≤s.length∧(s.drop a).take w.length=w
def qAm (hs:Bool) (va:D):Prop:=(hs=true∧mayVa va)∨(hs=false∧va=va00)
def mB6:Bs:=[108,101,116]
def wIf:Bs:=[105,102]
def kAw:Bs:=[119,104,105,108,101]
def bB3:Bs:=[108,111,111,112]
def lAw:Bs:=[98,114,101,97,107]
def cB3:Bs:=[99,111,110,116,105,110,117,101]
def nB6:Bs:=[114,101,116,117,114,110]
def dB3:Bs:=[100,114,111,112]
inductive SmK (s:Bs) (a n:Nat):Int→Bool→Bs→D→Bool→D→D→D→List D→List D→Prop
 | let_ {m nm ty hs va} (hn:yC nm=true) (ht:gJ 64 ty) (hv:qAm hs va) (hw:gAi s a mB6):SmK s a n 1 m nm ty hs pl0 va op0 [] []
 | set {nm:Bs} {xs:List Bs} {va} (hn:yC nm=true) (hx:aAr 64 xs) (hv:mayVa va) (hw:gAi s a nm):SmK s a n 2 false [] ty0D false (gE nm (xs.map D.s)) va op0 [] []
 | call {nm:Bs} {ag:List D} (hn:dU nm) (h:jP 64 oD ag) (hw:gAi s a []):SmK s a n 3 false [] ty0D false pl0 (vaD 6 op0 op0 0 pl0 nm [] ag) op0 [] []
 | if_ {hs co th el} (h0:0<n) (hc:oD co) (he:hs=false→el=[]) (hw:gAi s a wIf):SmK s a n 4 false [] ty0D hs pl0 va00 co th el
 | while_ {co th} (h0:0<n) (hc:oD co) (hw:gAi s a kAw):SmK s a n 5 false [] ty0D false pl0 va00 co th []
 | loop {th} (h0:0<n) (hw:gAi s a bB3):SmK s a n 6 false [] ty0D false pl0 va00 op0 th []
 | block {th} (h0:0<n) (hw:gAi s a [123]):SmK s a n 7 false [] ty0D false pl0 va00 op0 th []
 | break_ (hw:gAi s a lAw):SmK s a n 8 false [] ty0D false pl0 va00 op0 [] []
 | cont (hw:gAi s a cB3):SmK s a n 9 false [] ty0D false pl0 va00 op0 [] []
 | ret {hs va} (hv:qAm hs va) (hw:gAi s a nB6):SmK s a n 10 false [] ty0D hs pl0 va op0 [] []
 | drop {pl} (hp:qL pl) (hw:gAi s a dB3):SmK s a n 11 false [] ty0D false pl va00 op0 [] []
def rAm (s:Bs):Nat→D→Prop
 | 0,_=>False
 | n+1,d=>∃ (k:Int) (a:Nat) (m:Bool) (nm:Bs) (ty:D) (hs:Bool) (pl va co:D) (th el:List D),d=smT k (a:Int) m nm ty hs pl va co th el∧(∀ x∈th,rAm s n x)∧(∀ x∈el,rAm s n x)∧SmK s a n k m nm ty hs pl va co th el
def thD:D→List D
 | .t [_,_,_,_,_,_,_,_,_,.l th,_]=>th
 | _=>[]
def elD:D→List D
 | .t [_,_,_,_,_,_,_,_,_,_,.l el]=>el
 | _=>[]
def mJ:Nat→List D→Nat
 | 0,_=>0
 | n+1,l=>l.length+(l.map fun d=>mJ n (thD d)+mJ n (elD d)).sum
section
variable {T:List Tok} {s:Bs}
def S1 (s:Bs) (a:Nat) (n:Nat) (d:D):Prop:=∃ (k:Int) (m:Bool) (nm:Bs) (ty:D) (hs:Bool) (pl va co:D) (th el:List D),d=smT k (a:Int) m nm ty hs pl va co th el∧(∀ x∈th,rAm s n x)∧(∀ x∈el,rAm s n x)∧SmK s a n k m nm ty hs pl va co th el
section
variable {α β:Type} {P:Nat→α→Nat→Prop} {Q:Nat→β→Nat→Prop}
end
end
end Qp
namespace Qp
inductive SmN (n:Nat):Int→Bool→Bs→D→Bool→D→D→D→List D→List D→Prop
 | let_ {m nm ty hs va} (hn:yC nm=true) (ht:gJ 64 ty) (hv:qAm hs va):SmN n 1 m nm ty hs pl0 va op0 [] []
 | set {nm:Bs} {xs:List Bs} {va} (hn:yC nm=true) (hx:aAr 64 xs) (hv:mayVa va):SmN n 2 false [] ty0D false (gE nm (xs.map D.s)) va op0 [] []
 | call {nm:Bs} {ag:List D} (hn:dU nm) (h:jP 64 oD ag):SmN n 3 false [] ty0D false pl0 (vaD 6 op0 op0 0 pl0 nm [] ag) op0 [] []
 | if_ {hs co th el} (h0:0<n) (hc:oD co) (he:hs=false→el=[]):SmN n 4 false [] ty0D hs pl0 va00 co th el
 | while_ {co th} (h0:0<n) (hc:oD co):SmN n 5 false [] ty0D false pl0 va00 co th []
 | loop {th} (h0:0<n):SmN n 6 false [] ty0D false pl0 va00 op0 th []
 | block {th} (h0:0<n):SmN n 7 false [] ty0D false pl0 va00 op0 th []
 | break_:SmN n 8 false [] ty0D false pl0 va00 op0 [] []
 | cont:SmN n 9 false [] ty0D false pl0 va00 op0 [] []
 | ret {hs va} (hv:qAm hs va):SmN n 10 false [] ty0D hs pl0 va op0 [] []
 | drop {pl} (hp:qL pl):SmN n 11 false [] ty0D false pl va00 op0 [] []
def lP:Nat→D→Prop
 | 0,_=>False
 | n+1,d=>∃ (k:Int) (a:Int) (m:Bool) (nm:Bs) (ty:D) (hs:Bool) (pl va co:D) (th el:List D),d=smT k a m nm ty hs pl va co th el∧(∀ x∈th,lP n x)∧(∀ x∈el,lP n x)∧SmN n k m nm ty hs pl va co th el
def lR (d:D):Prop:=∃ (pub:Bool) (nm:Bs) (lv:List Bs) (fs:List D) (a:Int),d=iAm pub nm lv fs a∧yC nm=true∧jAw 64 lv∧jP 64 (oJ false) fs
def mP (d:D):Prop:=∃ (pub:Bool) (nm:Bs) (lv ps:List D) (ty:D) (bd:List D) (a:Int),d=fuT pub nm lv ps ty bd a∧yC nm=true∧jP 64 kR lv∧jP 64 (oJ true) ps∧(ty=ty0D∨gJ 64 ty)∧(∀ x∈bd,lP 64 x)∧mJ 64 bd≤2000
end Qp
namespace Qk
open Qa
def rho:Go.Shelf.Ren:=⟨fun n=>bif Nat.beq n 145 then 196 else bif Nat.beq n 217 then 187 else bif Nat.beq n 219 then 227 else bif Nat.beq n 220 then 215 else bif Nat.beq n 224 then 237 else bif Nat.beq n 225 then 236 else bif Nat.beq n 266 then 206 else bif Nat.beq n 267 then 238 else 250,
 fun n=>bif Nat.beq n 3 then 3 else bif Nat.beq n 4 then 4 else bif Nat.beq n 5 then 5 else bif Nat.beq n 9 then 9 else bif Nat.beq n 46 then 191 else bif Nat.beq n 51 then 205 else bif Nat.beq n 59 then 201 else 206,fun _=>0⟩
theorem lays:Lays.n145 Tryz.prog rho where
 mixed:=by kernel_rfl
 f145:=by kernel_rfl
 f217:=by kernel_rfl
 f219:=by kernel_rfl
 f220:=by kernel_rfl
 f224:=by kernel_rfl
 f225:=by kernel_rfl
 f266:=by kernel_rfl
 f267:=by kernel_rfl
 f314:=by kernel_rfl
 t3:=by kernel_rfl
 a3:=fun _=>by kernel_rfl
 z3:=fun _=>by kernel_rfl
 v3:=fun _=>by kernel_rfl
 t4:=by kernel_rfl
 a4:=fun _=>by kernel_rfl
 z4:=fun _=>by kernel_rfl
 v4:=fun _=>by kernel_rfl
 t5:=by kernel_rfl
 a5:=fun _=>by kernel_rfl
 z5:=fun _=>by kernel_rfl
 v5:=fun _=>by kernel_rfl
 t9:=by kernel_rfl
 a9:=fun _=>by kernel_rfl
 z9:=fun _=>by kernel_rfl
 v9:=fun _=>by kernel_rfl
 t46:=by kernel_rfl
 a46:=fun _=>by kernel_rfl
 z46:=fun _=>by kernel_rfl
 v46:=fun _=>by kernel_rfl
 t51:=by kernel_rfl
 a51:=fun _=>by kernel_rfl
 z51:=fun _=>by kernel_rfl
 v51:=fun _=>by kernel_rfl
 t59:=by kernel_rfl
 a59:=fun _=>by kernel_rfl
 z59:=fun _=>by kernel_rfl
 v59:=fun _=>by kernel_rfl
 t146:=by kernel_rfl
 a146:=fun _=>by kernel_rfl
 z146:=fun _=>by kernel_rfl
 v146:=fun _=>by kernel_rfl
 g1:=by kernel_rfl
def tAt:Ai.Loc:=⟨0,0,1,false⟩
def iAi:Option Blk→Bool
 | some (.row [.int .i64 _] .ro)=>true
 | _=>false
def pinned (h:Heap):Bool:=iZ 4 tAt h.pins&&iAi (h.t.get 4)
theorem jAi {b:Option Blk} (h:iAi b=true):∃ m,b=some (.row [.int .i64 m] .ro):=by
 unfold iAi at h
 split at h
 ·exact ⟨_,rfl⟩
 ·cases h
def mAw (s sep:List UInt8) (h:Heap):Option ((List UInt8×List UInt8×Bool×Unit)×Heap):=bif pinned h&&Nat.blt s.length 4294967281 then some (((Lib.cut s sep).1,(Lib.cut s sep).2.1,(Lib.cut s sep).2.2,()),h) else none
theorem fA8 (_N:Nat):kC Tryz.prog 196 [(.one .str),(.one .str)] (.tup [(.one .str),(.one .str),(.one .bool)]) (fun x h=>mAw x.1 x.2.1 h):=by
 intro xs h r h' hx μ w args' hr hv;obtain ⟨s,sep,_⟩:=xs;have hx':mAw s sep h=some (r,h'):=hx;unfold mAw at hx'
 cases hb:(pinned h&&Nat.blt s.length 4294967281) with
 | false=>rw [hb] at hx';cases hx'
 | true=>
  rw [hb] at hx';simp only [cond_true,Option.some.injEq,Prod.mk.injEq] at hx';obtain ⟨rfl,rfl⟩:=hx';simp only [Bool.and_eq_true,pinned] at hb;obtain ⟨⟨b3,b4⟩,b5⟩:=hb;obtain ⟨m,b4⟩:=jAi b4;have hv':VRs μ [.str s,.str sep] args'.toList:=hv;simp only [VRs,VR] at hv';obtain ⟨y1,ys1,e1,rfl,y2,ys2,e2,rfl,e3⟩:=hv';subst e2 e3;have ea:args' = #[.string ⟨s.toArray⟩,.string ⟨sep.toArray⟩]:=by rw [← Array.toList_inj,e1]
  subst ea;have hm2:=hr.pin _ (fA4 b3);have hrow:RowR μ w tAt [.int .i64 m]:=hr.blk 4 tAt _ hm2 b4;obtain ⟨y,h1,h2⟩:=hrow.cell 0 _ rfl;simp only [VR] at h2;subst h2;have hs:(⟨s.toArray⟩:ByteArray).size<4294967281:=by
   have:s.length<4294967281:=by simpa [Nat.blt_eq] using b5
   exact this
  refine ⟨vR cB1 (fn:=Tryz.f196) (by kernel_rfl) (by kernel_rfl) _ _,(Any.strings_Cut lays ⟨s.toArray⟩ ⟨sep.toArray⟩ m w hs h1).mono ?_⟩;rintro ev w' ⟨rfl,n,rfl⟩;have hb:Below w.heap.size w (w.drewN n):=below_drewN (Below.refl _ _) n;refine ⟨_,rfl,μ,?_,hr.below hb,Ext.of_below hb⟩;show VR μ (.tuple [.str _,.str _,.bool _]) _;simp only [VR,VRs];exact ⟨_,rfl,_,_,rfl,rfl,_,_,rfl,rfl,_,_,rfl,rfl,rfl⟩
end Qk
namespace Tw
open Go.Shelf
def Tryz.lays156_ren:Go.Shelf.Ren:=⟨fun | 156=>50 | 165=>89 | 166=>81 | 169=>44 | 240=>127 | 241=>139 | 276=>175 | 277=>185 | n=>n,fun | 31=>38 | 9=>9 | 3=>3 | 4=>4 | 0=>0 | 20=>20 | 72=>83 | 76=>141 | 70=>80 | 37=>81 | 75=>29 | 127=>144 | 164=>189 | 5=>5 | 80=>92 | n=>n,fun | n=>n⟩
theorem Tryz.lays156:Go.Proofs.Lays.n156 Tryz.prog Tryz.lays156_ren:={
 mixed:=by kernel_rfl
 f156:=Tryz.func50.trans (congrArg some (by kernel_rfl))
 f165:=Tryz.func89.trans (congrArg some (by kernel_rfl))
 f166:=Tryz.func81.trans (congrArg some (by kernel_rfl))
 f169:=Tryz.func44.trans (congrArg some (by kernel_rfl))
 f240:=Tryz.func127.trans (congrArg some (by kernel_rfl))
 f241:=Tryz.func139.trans (congrArg some (by kernel_rfl))
 f276:=Tryz.func175.trans (congrArg some (by kernel_rfl))
 f277:=Tryz.func185.trans (congrArg some (by kernel_rfl))
 t0:=Tryz.underlying0
 a0:=Tryz.isAgg0
 z0:=Tryz.sizeOf0
 v0:=Tryz.zeroValue0
 t3:=Tryz.underlying3
 a3:=Tryz.isAgg3
 z3:=Tryz.sizeOf3
 v3:=Tryz.zeroValue3
 t4:=Tryz.underlying4
 a4:=Tryz.isAgg4
 z4:=Tryz.sizeOf4
 v4:=Tryz.zeroValue4
 t9:=Tryz.underlying9
 a9:=Tryz.isAgg9
 z9:=Tryz.sizeOf9
 v9:=Tryz.zeroValue9
 t20:=Tryz.underlying20
 a20:=Tryz.isAgg20
 z20:=Tryz.sizeOf20
 v20:=Tryz.zeroValue20
 t31:=Tryz.underlying38
 a31:=Tryz.isAgg38
 z31:=Tryz.sizeOf38
 v31:=Tryz.zeroValue38
 t37:=Tryz.underlying81
 a37:=Tryz.isAgg81
 z37:=Tryz.sizeOf81
 v37:=Tryz.zeroValue81
 t70:=Tryz.underlying80
 a70:=Tryz.isAgg80
 z70:=Tryz.sizeOf80
 v70:=Tryz.zeroValue80
 t72:=Tryz.underlying83
 a72:=Tryz.isAgg83
 z72:=Tryz.sizeOf83
 v72:=Tryz.zeroValue83
 t75:=Tryz.underlying29
 a75:=Tryz.isAgg29
 z75:=Tryz.sizeOf29
 v75:=Tryz.zeroValue29
 t76:=Tryz.underlying141
 a76:=Tryz.isAgg141
 z76:=Tryz.sizeOf141
 v76:=Tryz.zeroValue141
 t127:=Tryz.underlying144
 a127:=Tryz.isAgg144
 z127:=Tryz.sizeOf144
 v127:=Tryz.zeroValue144
 t164:=Tryz.underlying189
 a164:=Tryz.isAgg189
 z164:=Tryz.sizeOf189
 v164:=Tryz.zeroValue189 }
theorem Tryz.Builder_Extra_156:Builder.Extra Tryz.prog Tryz.lays156_ren:={
 sizeBuilder:=by kernel_rfl
 liesBuilder:=by kernel_rfl
 t5:=Tryz.underlying5
 a5:=Tryz.isAgg5
 z5:=Tryz.sizeOf5
 v5:=Tryz.zeroValue5
 infoByte:=by kernel_rfl
 cellsByte:=by kernel_rfl
 sizeByte:=by kernel_rfl
 neB5:=by decide }
open Go.RowKit in
theorem Tryz.strings_Join_none (a:Option Addr) (c:Nat) (sep:ByteArray) (w:World) :
  Calls Tryz.prog 50 #[.slice a 0 c,.string sep] w fun e w'=>e=.returned (.string ⟨#[]⟩)∧w'=w:=Any.strings_Join_none Tryz.lays156 Tryz.Builder_Extra_156 a c sep w
open Go.RowKit in
theorem Tryz.strings_Join (bk o c:Nat) (xs:List ByteArray) (sep:ByteArray) (w:World) (hcells:∀ (j:Nat) x,xs[j]? = some x→w.cell? ⟨bk,o+j,none⟩=some (.string x)) (hbk:bk<w.heap.size) (hN:xs.length≤140737488355328) (hcap:xs.length≤c) (hlen:(Lib.join (xs.map (·.data.toList)) sep.data.toList).length≤140737488355328) :
  Calls Tryz.prog 50 #[.slice (some ⟨bk,o,none⟩) xs.length c,.string sep] w fun e w'=>e=.returned (.string ⟨(Lib.join (xs.map (·.data.toList)) sep.data.toList).toArray⟩)∧Below w.heap.size w w':=Any.strings_Join Tryz.lays156 Tryz.Builder_Extra_156 bk o c xs sep w hcells hbk hN hcap hlen
def Tryz.laysM171_ren:Go.Shelf.Ren:=⟨fun | 171=>204 | 243=>217 | 246=>230 | 283=>240 | 284=>241 | 285=>242 | 286=>243 | 129=>252 | 317=>251 | 318=>253 | 319=>254 | 320=>255 | 337=>260 | 338=>261 | n=>n,fun | 3=>3 | 9=>9 | 2=>2 | 4=>4 | 171=>251 | 0=>0 | 53=>208 | 37=>81 | 5=>5 | 173=>254 | 212=>264 | 51=>205 | 20=>20 | 213=>265 | 46=>191 | 232=>278 | 233=>279 | n=>n,fun | 17=>2 | 18=>5 | 19=>6 | n=>n⟩
theorem Tryz.laysM171:Go.Proofs.LaysM.n171 Tryz.prog Tryz.laysM171_ren:={
 mixed:=by kernel_rfl
 f129:=Tryz.func252.trans (congrArg some (by kernel_rfl))
 f171:=Tryz.func204.trans (congrArg some (by kernel_rfl))
 f243:=Tryz.func217.trans (congrArg some (by kernel_rfl))
 f246:=Tryz.func230.trans (congrArg some (by kernel_rfl))
 f283:=Tryz.func240.trans (congrArg some (by kernel_rfl))
 f284:=Tryz.func241.trans (congrArg some (by kernel_rfl))
 f285:=Tryz.func242.trans (congrArg some (by kernel_rfl))
 f286:=Tryz.func243.trans (congrArg some (by kernel_rfl))
 f317:=Tryz.func251.trans (congrArg some (by kernel_rfl))
 f318:=Tryz.func253.trans (congrArg some (by kernel_rfl))
 f319:=Tryz.func254.trans (congrArg some (by kernel_rfl))
 f320:=Tryz.func255.trans (congrArg some (by kernel_rfl))
 f337:=Tryz.func260.trans (congrArg some (by kernel_rfl))
 f338:=Tryz.func261.trans (congrArg some (by kernel_rfl))
 t0:=Tryz.underlying0
 a0:=Tryz.isAgg0
 z0:=Tryz.sizeOf0
 v0:=Tryz.zeroValue0
 t2:=Tryz.underlying2
 a2:=Tryz.isAgg2
 z2:=Tryz.sizeOf2
 v2:=Tryz.zeroValue2
 t3:=Tryz.underlying3
 a3:=Tryz.isAgg3
 z3:=Tryz.sizeOf3
 v3:=Tryz.zeroValue3
 t4:=Tryz.underlying4
 a4:=Tryz.isAgg4
 z4:=Tryz.sizeOf4
 v4:=Tryz.zeroValue4
 t5:=Tryz.underlying5
 a5:=Tryz.isAgg5
 z5:=Tryz.sizeOf5
 v5:=Tryz.zeroValue5
 t9:=Tryz.underlying9
 a9:=Tryz.isAgg9
 z9:=Tryz.sizeOf9
 v9:=Tryz.zeroValue9
 t20:=Tryz.underlying20
 a20:=Tryz.isAgg20
 z20:=Tryz.sizeOf20
 v20:=Tryz.zeroValue20
 t37:=Tryz.underlying81
 a37:=Tryz.isAgg81
 z37:=Tryz.sizeOf81
 v37:=Tryz.zeroValue81
 t46:=Tryz.underlying191
 a46:=Tryz.isAgg191
 z46:=Tryz.sizeOf191
 v46:=Tryz.zeroValue191
 t51:=Tryz.underlying205
 a51:=Tryz.isAgg205
 z51:=Tryz.sizeOf205
 v51:=Tryz.zeroValue205
 t53:=Tryz.underlying208
 a53:=Tryz.isAgg208
 z53:=Tryz.sizeOf208
 v53:=Tryz.zeroValue208
 t171:=Tryz.underlying251
 a171:=Tryz.isAgg251
 z171:=Tryz.sizeOf251
 v171:=Tryz.zeroValue251
 t173:=Tryz.underlying254
 a173:=Tryz.isAgg254
 z173:=Tryz.sizeOf254
 v173:=Tryz.zeroValue254
 t212:=Tryz.underlying264
 a212:=Tryz.isAgg264
 z212:=Tryz.sizeOf264
 v212:=Tryz.zeroValue264
 t213:=Tryz.underlying265
 a213:=Tryz.isAgg265
 z213:=Tryz.sizeOf265
 t232:=Tryz.underlying278
 a232:=Tryz.isAgg278
 z232:=Tryz.sizeOf278
 v232:=Tryz.zeroValue278
 t233:=Tryz.underlying279
 a233:=Tryz.isAgg279
 z233:=Tryz.sizeOf279
 v233:=Tryz.zeroValue279
 g17:=by kernel_rfl
 g18:=by kernel_rfl
 g19:=by kernel_rfl
 i0:=by kernel_rfl
 i2:=by kernel_rfl
 i3:=by kernel_rfl
 i4:=by kernel_rfl
 i5:=by kernel_rfl
 i9:=by kernel_rfl
 i20:=by kernel_rfl
 i37:=by kernel_rfl
 i46:=by kernel_rfl
 i51:=by kernel_rfl
 i53:=by kernel_rfl
 i171:=by kernel_rfl
 i173:=by kernel_rfl
 i212:=by kernel_rfl
 i232:=by kernel_rfl
 i233:=by kernel_rfl
 m17:=by kernel_rfl
 m18:=by kernel_rfl
 m19:=by kernel_rfl }
open Go.RowKit Go.Sort Go.Lib in
theorem Tryz.strconv_Itoa (n:Int) (h0:-9223372036854775808≤n) (h1:n≤9223372036854775807) (w:World) (htab:Lib.TabIs Tryz.prog w "internal/strconv.uint64pow10" .u64 Lib.pow10Tab) :
  Calls Tryz.prog 204 #[.int .i64 n] w fun e w'=>e=.returned (.string ⟨(Lib.itoa n).toArray⟩)∧∃ k os,w'=grow (w.drewN k) os:=Any.strconv_Itoa Tryz.laysM171 n h0 h1 w htab
def Tryz.lays105_ren:Go.Shelf.Ren:=⟨fun | 105=>128 | 212=>176 | 99=>140 | 165=>89 | 166=>81 | 170=>43 | 169=>44 | 263=>202 | 264=>203 | 206=>186 | 240=>127 | 241=>139 | 276=>175 | 277=>185 | n=>n,fun | 9=>9 | 3=>3 | 4=>4 | 20=>20 | 0=>0 | 46=>191 | 109=>192 | 5=>5 | 72=>83 | 76=>141 | 51=>205 | 146=>206 | 53=>208 | 148=>209 | 70=>80 | 37=>81 | 75=>29 | 127=>144 | 164=>189 | 80=>92 | n=>n,fun | n=>n⟩
theorem Tryz.lays105:Go.Proofs.Lays.n105 Tryz.prog Tryz.lays105_ren:={
 mixed:=by kernel_rfl
 f99:=Tryz.func140.trans (congrArg some (by kernel_rfl))
 f105:=Tryz.func128.trans (congrArg some (by kernel_rfl))
 f165:=Tryz.func89.trans (congrArg some (by kernel_rfl))
 f166:=Tryz.func81.trans (congrArg some (by kernel_rfl))
 f169:=Tryz.func44.trans (congrArg some (by kernel_rfl))
 f170:=Tryz.func43.trans (congrArg some (by kernel_rfl))
 f206:=Tryz.func186.trans (congrArg some (by kernel_rfl))
 f212:=Tryz.func176.trans (congrArg some (by kernel_rfl))
 f240:=Tryz.func127.trans (congrArg some (by kernel_rfl))
 f241:=Tryz.func139.trans (congrArg some (by kernel_rfl))
 f263:=Tryz.func202.trans (congrArg some (by kernel_rfl))
 f264:=Tryz.func203.trans (congrArg some (by kernel_rfl))
 f276:=Tryz.func175.trans (congrArg some (by kernel_rfl))
 f277:=Tryz.func185.trans (congrArg some (by kernel_rfl))
 t0:=Tryz.underlying0
 a0:=Tryz.isAgg0
 z0:=Tryz.sizeOf0
 v0:=Tryz.zeroValue0
 t3:=Tryz.underlying3
 a3:=Tryz.isAgg3
 z3:=Tryz.sizeOf3
 v3:=Tryz.zeroValue3
 t4:=Tryz.underlying4
 a4:=Tryz.isAgg4
 z4:=Tryz.sizeOf4
 v4:=Tryz.zeroValue4
 t5:=Tryz.underlying5
 a5:=Tryz.isAgg5
 z5:=Tryz.sizeOf5
 v5:=Tryz.zeroValue5
 t9:=Tryz.underlying9
 a9:=Tryz.isAgg9
 z9:=Tryz.sizeOf9
 v9:=Tryz.zeroValue9
 t20:=Tryz.underlying20
 a20:=Tryz.isAgg20
 z20:=Tryz.sizeOf20
 v20:=Tryz.zeroValue20
 t37:=Tryz.underlying81
 a37:=Tryz.isAgg81
 z37:=Tryz.sizeOf81
 v37:=Tryz.zeroValue81
 t46:=Tryz.underlying191
 a46:=Tryz.isAgg191
 z46:=Tryz.sizeOf191
 v46:=Tryz.zeroValue191
 t51:=Tryz.underlying205
 a51:=Tryz.isAgg205
 z51:=Tryz.sizeOf205
 v51:=Tryz.zeroValue205
 t53:=Tryz.underlying208
 a53:=Tryz.isAgg208
 z53:=Tryz.sizeOf208
 v53:=Tryz.zeroValue208
 t70:=Tryz.underlying80
 a70:=Tryz.isAgg80
 z70:=Tryz.sizeOf80
 v70:=Tryz.zeroValue80
 t72:=Tryz.underlying83
 a72:=Tryz.isAgg83
 z72:=Tryz.sizeOf83
 v72:=Tryz.zeroValue83
 t75:=Tryz.underlying29
 a75:=Tryz.isAgg29
 z75:=Tryz.sizeOf29
 v75:=Tryz.zeroValue29
 t76:=Tryz.underlying141
 a76:=Tryz.isAgg141
 z76:=Tryz.sizeOf141
 v76:=Tryz.zeroValue141
 t109:=Tryz.underlying192
 a109:=Tryz.isAgg192
 z109:=Tryz.sizeOf192
 v109:=Tryz.zeroValue192
 t127:=Tryz.underlying144
 a127:=Tryz.isAgg144
 z127:=Tryz.sizeOf144
 v127:=Tryz.zeroValue144
 t146:=Tryz.underlying206
 a146:=Tryz.isAgg206
 z146:=Tryz.sizeOf206
 v146:=Tryz.zeroValue206
 t148:=Tryz.underlying209
 a148:=Tryz.isAgg209
 z148:=Tryz.sizeOf209
 v148:=Tryz.zeroValue209
 t164:=Tryz.underlying189
 a164:=Tryz.isAgg189
 z164:=Tryz.sizeOf189
 v164:=Tryz.zeroValue189 }
theorem Tryz.Builder_Extra_105:Builder.Extra Tryz.prog Tryz.lays105_ren:={
 sizeBuilder:=by kernel_rfl
 liesBuilder:=by kernel_rfl
 t5:=Tryz.underlying5
 a5:=Tryz.isAgg5
 z5:=Tryz.sizeOf5
 v5:=Tryz.zeroValue5
 infoByte:=by kernel_rfl
 cellsByte:=by kernel_rfl
 sizeByte:=by kernel_rfl
 neB5:=by decide }
open Go.RowKit Go.Lib in
theorem Tryz.strings_Repeat (s:ByteArray) (c:Nat) (w:World) (hc:c≤9223372036854775807) (hlen:s.size * c≤140737488355328) :
  Calls Tryz.prog 128 #[.string s,.int .i64 c] w fun e w'=>e=.returned (.string ⟨(Lib.repeatL s.data.toList c).toArray⟩)∧Below w.heap.size w w':=Any.strings_Repeat Tryz.lays105 Tryz.Builder_Extra_105 s c w hc hlen
end Tw
open Go.ChangeShapes Go.WideShapes
namespace Qb
open Tw
def strsOf:List AV→Option (List (List UInt8))
 | []=>some []
 | .str s::r=>match strsOf r with
  | some l=>some (s::l)
  | none=>none
 | _::_=>none
def joinL:List (List UInt8)→List UInt8→List UInt8
 | [],_=>[]
 | [x],_=>x
 | x::y::r,sep=>x++(sep++joinL (y::r) sep)
theorem iA0:∀ (l:List (List UInt8)) (sep:List UInt8),joinL l sep=Lib.join l sep
 | [],sep=>rfl
 | [x],sep=>(Lib.join_one x sep).symm
 | x::y::r,sep=>by
  rw [Lib.join_cons];show x++(sep++joinL (y::r) sep)=_;rw [iA0 (y::r) sep,Lib.join_cons];simp [Lib.joinTail]
def joinF (s:SL) (sep:List UInt8) (h:Heap):Option (List UInt8×Heap):=
 bif Nat.beq s.len 0 then some ([],h) else
 match s.a with
 | some (A,off)=>bif Nat.ble s.len s.cap then
   match h.read A off s.len with
   | some vs=>match strsOf vs with
    | some xs=>bif Nat.ble xs.length 140737488355328&&Nat.ble (joinL xs sep).length 140737488355328 then some (joinL xs sep,h) else none
    | none=>none
   | none=>none
  else none
 | none=>none
theorem nX {μ:Mu}:∀ {vs:List AV} {xs:List (List UInt8)} {ys:List Value},strsOf vs=some xs→VRs μ vs ys→ys=xs.map fun s=>.string ⟨s.toArray⟩
 | [],xs,ys,h,hv=>by simp [strsOf] at h;subst h;simpa [VRs] using hv
 | v::r,xs,ys,h,hv=>by
  cases v with
  | str s=>
   simp only [strsOf] at h
   cases hr:strsOf r with
   | none=>simp [hr] at h
   | some l=>
    simp only [hr,Option.some.injEq] at h;subst h;simp only [VRs,VR] at hv;obtain ⟨y,ys',rfl,rfl,h2⟩:=hv;rw [nX hr h2];rfl
  | _=>simp [strsOf] at h
theorem bAr {s:SL} {sep r:List UInt8} {h h':Heap} (hx:joinF s sep h=some (r,h')) {μ:Mu} {w:World} {args':Array Value} (hr:HR μ h w) (hv:VRs μ [.slice s.a s.len s.cap s.sz,.str sep] args'.toList) :
  (callFunc 50 args').run Tryz.prog w=.ok (.enter 50 args') w∧Calls Tryz.prog 50 args' w fun e w'=>∃ u,e=.returned u∧nAt μ h w (.str r) h' u w':=by
 refine ⟨vR Qa.cB1 (fn:=Tryz.f50) (by kernel_rfl) (by kernel_rfl) _ _,?_⟩;simp only [VRs] at hv;obtain ⟨y,ys,e1,hy,y2,ys2,e2,hy2,e3⟩:=hv;subst e2 e3;simp only [VR] at hy2;subst hy2;have ea:args' = #[y,.string ⟨sep.toArray⟩]:=by rw [← Array.toList_inj,e1]
 subst ea;unfold joinF at hx
 cases hb:Nat.beq s.len 0 with
 | true=>
  simp only [hb,cond_true,Option.some.injEq,Prod.mk.injEq] at hx;obtain ⟨rfl,rfl⟩:=hx;have hl:s.len=0:=Nat.eq_of_beq_eq_true hb
  have:∃ a c,y=.slice a 0 c:=by
   cases ha:s.a with
   | none=>rw [ha] at hy;simp only [VR] at hy;exact ⟨none,0,hy.1⟩
   | some q=>
    obtain ⟨A,off⟩:=q;rw [ha] at hy;simp only [VR] at hy;obtain ⟨l,a',cap',_,h2,_⟩:=hy;exact ⟨some a',cap',by rw [h2,hl]⟩
  obtain ⟨a,c,rfl⟩:=this;refine (Tryz.strings_Join_none a c ⟨sep.toArray⟩ w).mono ?_;rintro e w' ⟨rfl,rfl⟩;exact ⟨_,rfl,μ,by simp [VR],hr,Ext.refl μ h w'⟩
 | false=>
  simp only [hb,cond_false] at hx
  cases ha:s.a with
  | none=>simp [ha] at hx
  | some q=>
   obtain ⟨A,off⟩:=q;simp only [ha] at hx
   cases hc:Nat.ble s.len s.cap with
   | false=>simp [hc] at hx
   | true=>
    simp only [hc,cond_true] at hx
    cases hrd:h.read A off s.len with
    | none=>simp [hrd] at hx
    | some vs=>
     simp only [hrd] at hx
     cases hst:strsOf vs with
     | none=>simp [hst] at hx
     | some xs=>
      simp only [hst] at hx
      cases hbd:Nat.ble xs.length 140737488355328&&Nat.ble (joinL xs sep).length 140737488355328 with
      | false=>simp [hbd] at hx
      | true=>
       simp only [hbd,cond_true,Option.some.injEq,Prod.mk.injEq] at hx;obtain ⟨rfl,rfl⟩:=hx;simp only [Bool.and_eq_true,Nat.ble_eq] at hbd hc;rw [ha] at hy;simp only [VR] at hy;obtain ⟨l,a',cap',hA,rfl,h3,h4⟩:=hy;have hpos:0<s.len:=by
        rcases Nat.eq_zero_or_pos s.len with h0 | h0
        ·rw [h0] at hb;cases hb
        ·exact h0
       rcases h4 with ⟨h4,_⟩ | ⟨rfl,h5,h6,h7⟩
       ·omega
       ·obtain ⟨ys,_,h8,h9,h10⟩:=hr.read (P:=Tryz.prog) hA hrd
        have h11:=nX hst h9;have hxl:xs.length=s.len:=by rw [← h8,h11,List.length_map]
        have hmap:(xs.map (fun s=>(⟨s.toArray⟩:ByteArray))).map (·.data.toList)=xs:=by
         rw [List.map_map];simp [Function.comp_def]
        have:=Tryz.strings_Join l.b (l.sh+off) cap' (xs.map fun s=>⟨s.toArray⟩) ⟨sep.toArray⟩ w (fun j x hj=>by
          refine h10 j _ ?_;rw [h11];rw [List.getElem?_map] at hj ⊢
          cases hq:xs[j]? with
          | none=>rw [hq] at hj;simp at hj
          | some z=>rw [hq] at hj;simp only [Option.map_some,Option.some.injEq] at hj ⊢;rw [hj])
         (hr.dom A l hA).2 (by rw [List.length_map];exact hbd.1) (by rw [List.length_map];omega) (by rw [hmap];rw [← iA0];exact hbd.2)
        rw [List.length_map,hxl,hmap] at this;refine this.mono ?_;rintro e w' ⟨rfl,hbel⟩;refine ⟨_,rfl,μ,?_,hr.below hbel,Ext.of_below hbel⟩;simp only [VR];rw [iA0]
theorem f50_ok (N:Nat):kC Tryz.prog 50 [(.one .slice),(.one .str)] (.val (.one .str)) (fun x h=>joinF x.1 x.2.1 h):=by
 intro xs h r h' hx μ w args' hr hv;exact bAr hx hr hv
def escF (v:AV) (h:Heap):Option (AV×Heap):=match v with
 | .ptr a=>some (.ptr a,h)
 | _=>none
theorem f175_ok (N:Nat):eAq Tryz.prog 175 [(.one .any)] (.val (.one .any)) (fun x h=>escF x.1 h):=by
 intro xs h r h' hx μ w args' hr hv;obtain ⟨v,_⟩:=xs;have hx':escF v h=some (r,h'):=hx;unfold escF at hx'
 split at hx'
 ·rename_i a
  simp only [Option.some.injEq,Prod.mk.injEq] at hx';obtain ⟨rfl,rfl⟩:=hx';have hv':VRs μ [.ptr a] args'.toList:=hv;simp only [VRs] at hv';obtain ⟨y1,ys1,e1,hy,rfl⟩:=hv';have ea:args' = #[y1]:=by rw [← Array.toList_inj,e1]
  subst ea;refine ⟨y1,w,?_,μ,hy,hr,Ext.refl μ _ w⟩;have h1:=@run_callFunc_extern Tryz.prog 175 _ Extern.AbiNoEscape.same Tryz.func175 (by kernel_rfl) (by kernel_rfl) (by kernel_rfl) (by kernel_rfl) #[y1] w;rw [h1];rfl
 ·cases hx'
def repF (s:List UInt8) (c:Int) (h:Heap):Option (List UInt8×Heap):=match c with
 | .ofNat n=>bif Nat.ble n 9223372036854775807&&Nat.ble (s.length * n) 140737488355328 then some (Lib.repeatL s n,h) else none
 | .negSucc _=>none
theorem f128_ok (N:Nat):kC Tryz.prog 128 [(.one .str),(.one (.int .i64))] (.val (.one .str)) (fun x h=>repF x.1 x.2.1 h):=by
 intro xs h r h' hx μ w args' hr hv;obtain ⟨s,c,_⟩:=xs;have hx':repF s c h=some (r,h'):=hx;unfold repF at hx'
 split at hx'
 ·rename_i n
  cases hb:(Nat.ble n 9223372036854775807&&Nat.ble (s.length * n) 140737488355328) with
  | false=>simp [hb] at hx'
  | true=>
   simp only [hb,cond_true,Option.some.injEq,Prod.mk.injEq] at hx';obtain ⟨rfl,rfl⟩:=hx';simp only [Bool.and_eq_true,Nat.ble_eq] at hb;have hv':VRs μ [.str s,.int .i64 (n:Int)] args'.toList:=hv;simp only [VRs,VR] at hv';obtain ⟨y1,ys1,e1,rfl,y2,ys2,e2,rfl,e3⟩:=hv';subst e2 e3;have ea:args' = #[.string ⟨s.toArray⟩,.int .i64 (n:Int)]:=by rw [← Array.toList_inj,e1]
   subst ea;refine ⟨vR Qa.cB1 (fn:=Tryz.f128) (by kernel_rfl) (by kernel_rfl) _ _,(Tryz.strings_Repeat ⟨s.toArray⟩ n w hb.1 hb.2).mono ?_⟩;rintro e w' ⟨rfl,hbel⟩;exact ⟨_,rfl,μ,by simp [Ty.to,VTy.to,CTy.to,VR],hr.below hbel,Ext.of_below hbel⟩
 ·cases hx'
def tab:List AV:=Lib.pow10Tab.map (AV.int .u64)
def gTab:Nat:=2
theorem gTab_is:Tryz.prog.globalNamed "internal/strconv.uint64pow10" = some gTab:=by kernel_rfl
def tabLoc:Ai.Loc:=⟨gTab,0,20,false⟩
theorem tab_len:tab.length=20:=by unfold tab;rw [List.length_map,Lib.pow10Tab_length]
theorem tAm {μ:Mu} {h:Heap} {w:World} (hr:HR μ h w) (hp:(5,tabLoc)∈h.pins) (hg:h.t.get 5=some (.row tab .ro)):Lib.TabIs Tryz.prog w "internal/strconv.uint64pow10" .u64 Lib.pow10Tab:=by
 have hμ:=hr.pin _ hp;have hb:RowR μ w tabLoc tab:=hr.blk 5 tabLoc _ hμ hg;unfold Lib.TabIs World.var?;rw [gTab_is];obtain ⟨e,hs⟩:=hb.shape;have hs':w.shape? gTab=some (e,20):=hs;unfold World.shape? at hs';have hc:∀ (i:Nat) (x:AV),tab[i]? = some x→∃ y,w.cell? ⟨gTab,0+i,none⟩=some y∧VR μ x y:=hb.cell;simp only [World.cell?] at hc;show (match w.heap[gTab]? with | some (.cells cs _ _)=>some cs | _=>none)=_
 cases hq:w.heap[gTab]? with
 | none=>rw [hq] at hs';cases hs'
 | some o=>
  rw [hq] at hs' hc
  cases o with
  | cells cs t fz=>
   simp only [Option.some.injEq,Prod.mk.injEq] at hs';simp only [Option.isSome_none,Bool.false_eq_true,if_false,Nat.zero_add] at hc;simp only [Option.some.injEq]
   apply Array.ext'
   apply List.ext_getElem?
   intro i;rw [Array.getElem?_toList];have hl:=Lib.pow10Tab_length
   by_cases hi:i<20
   ·obtain ⟨y,h1,h2⟩:=hc i (AV.int .u64 (Lib.pow10Tab[i]'(by omega))) (by unfold tab;rw [List.getElem?_map,List.getElem?_eq_getElem (by omega)];rfl)
    rw [h1];simp only [VR] at h2;rw [h2,List.getElem?_map,List.getElem?_eq_getElem (by omega)];rfl
   ·rw [Array.getElem?_eq_none (by omega),List.getElem?_eq_none (by rw [List.length_map];omega)]
  | _=>cases hs'
open Classical in
noncomputable def itoaF (i:Int) (h:Heap):Option (List UInt8×Heap):=
 if (5,tabLoc)∈h.pins∧h.t.get 5=some (.row tab .ro)∧-9223372036854775808≤i∧i≤9223372036854775807 then some (Lib.itoa i,h) else none
theorem f204_ok (N:Nat):kC Tryz.prog 204 [.one (.int .i64)] (.val (.one .str)) (fun x h=>itoaF x.1 h):=by
 rintro ⟨i,_⟩ h r h' hx μ w args' hr hv;have hx:itoaF i h=some (r,h'):=hx;unfold itoaF at hx
 split at hx
 ·rename_i hc
  obtain ⟨h1,h2,h3,h4⟩:=hc;simp only [Option.some.injEq,Prod.mk.injEq] at hx;obtain ⟨rfl,rfl⟩:=hx;have ht:=tAm hr h1 h2;refine ⟨vR Qa.cB1 (fn:=Tryz.f204) (by kernel_rfl) (by kernel_rfl) _ _,?_⟩;have hv':VRs μ [.int .i64 i] args'.toList:=hv;simp only [VRs,VR] at hv';obtain ⟨y,ys,e1,rfl,rfl⟩:=hv';have ea:args' = #[.int .i64 i]:=by rw [← Array.toList_inj,e1]
  subst ea;refine (Tryz.strconv_Itoa i h3 h4 w ht).mono ?_;rintro e w' ⟨rfl,k,os,rfl⟩;have hbel:=Lib.below_grow w.heap.size w (Nat.le_refl _) k os;exact ⟨_,rfl,μ,by simp [Ty.to,VTy.to,CTy.to,VR],hr.below hbel,Ext.of_below hbel⟩
 ·cases hx
end Qb
namespace Qp
end Qp
end Go.Proofs.YtkcjphhjmlienaaGreatDoor
