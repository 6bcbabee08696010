import Derived.Orders
import Derived.Laws.Sem
import Derived.Laws.World
import Derived.Laws.Strings
import Derived.Below
import Derived.Laws.StructEq
import Derived.ChangeKeysEq
import Derived.Laws.BytesString
import Derived.Lib.UnsafeStr
import Derived.WideKeyRuns
import Derived.MapKept
import Derived.LoopN
import Derived.Scope
/- A verified evaluator for the model of the program: what it evaluates is what the program computes, whatever else the memory holds; part 1. Conditions: no package variables. -/
namespace Go.Proofs.YtkcjphhjmlienaaGreatDoor
set_option linter.unusedVariables false
set_option linter.unusedSimpArgs false
set_option linter.defProp false
def xA{α:Sort _}(a b:α):cond true a b=a:=rfl
def xB{α:Sort _}(a b:α):cond false a b=b:=rfl
def xC(n:Nat):0+n=n:=Nat.zero_add n
def xD(n:Nat):n<=n:=Nat.le_refl n
def xE:(false=true)=False:=Bool.false_eq_true
theorem xF{α:Type _}(a b:α):(some a=some b)=(a=b):=Option.some.injEq a b
def xG(a b:Bool):((a&&b)=true)=(a=true/\b=true):=Bool.and_eq_true a b
theorem xI{α:Type _}{β:Type _}(a:α)(b:β)(c:α)(d:β):((a,b)=(c,d))=(a=c/\b=d):=Prod.mk.injEq a b c d
theorem xJ{α:Type _}{a:α}{l:List α}:(a::l).length=l.length+1:=rfl
theorem xK{n m:Nat}(h:Nat.beq n m=true):n=m:=Nat.eq_of_beq_eq_true h
def xL{α:Sort _}{_:Decidable False}(t e:α):ite False t e=e:=if_false t e
def xM{α:Sort _}{_:Decidable True}(t e:α):ite True t e=t:=if_true t e
theorem xN{α:Type _}{a b:List α}:(a++b).length=a.length+b.length:=List.length_append
theorem xO(h:Decidable True):@decide True h=true:=decide_true h
def xP(n:Nat):n<n.succ:=Nat.lt_succ_self n
theorem xQ(h:Decidable False):@decide False h=false:=decide_false h
theorem xR{α:Type _}{l:List α}{n:Nat}(h:n<l.length):l[n]∈l:=List.getElem_mem h
theorem xS{α:Type _}{β:Type _}{l:List α}(f:α->β):(l.map f).length=l.length:=List.length_map f
theorem xT{a b c:Nat}(h:a<=b)(k:b<=c):a<=c:=Nat.le_trans h k
def xU{p:Prop}[Decidable p]:(decide p=true)=p:=decide_eq_true_eq
def xV:(!true)=false:=rfl
def xW{a b c:Nat}(h:a<b)(k:b<=c):a<c:=Nat.lt_of_lt_of_le h k
def xX(n:Nat):n+0=n:=rfl
theorem xY{α:Type _}(a b c:List α):a++b++c=a++(b++c):=List.append_assoc a b c
theorem xZ{α:Type _}:([]:List α).length=0:=rfl
def xc(n:Nat):0<=n:=Nat.zero_le n
theorem xd{p:Prop}{_:Decidable p}:decide p=false<->¬p:=decide_eq_false_iff_not
theorem xe{α:Type _}(y:α){a:α}{l:List α}(h:a∈l):a∈y::l:=List.mem_cons_of_mem y h
def xg{α:Type _}{b:α}(a:List α){c:List α}(h:b∈c):b∈a++c:=List.mem_append_right a h
namespace Ai
inductive AV where
 | bool (b:Bool)
 | int (k:IntKind) (n:Int)
 | str (s:List UInt8)
 | ptr (a:Option (Nat×Nat))
 | slice (a:Option (Nat×Nat)) (len cap sz:Nat)
 | map (r:Option Nat)
 | func (fn:Fn) (first captured:List AV)
 | nilFunc
 | iface (t:TypeId) (v:AV)
 | nilIface
 | agg (cs:List AV)
 | tuple (vs:List AV)
 deriving Inhabited
inductive Tr (α:Type) where
 | nil
 | node (l:Tr α) (v:Option α) (r:Tr α)
namespace Tr
variable {α:Type}
def get:Tr α->Nat->Option α
 | nil,_=>none
 | node l v r,n=>bif Nat.beq n 0 then v else bif Nat.beq (n % 2) 1 then get l (n / 2) else get r (n / 2-1)
def setN:Nat->Tr α->Nat->α->Tr α
 | 0,_,_,_=>nil
 | f+1,nil,n,x=>bif Nat.beq n 0 then node nil (some x) nil else bif Nat.beq (n % 2) 1 then node (setN f nil (n / 2) x) none nil else node nil none (setN f nil (n / 2-1) x)
 | f+1,node l v r,n,x=>bif Nat.beq n 0 then node l (some x) r else bif Nat.beq (n % 2) 1 then node (setN f l (n / 2) x) v r else node l v (setN f r (n / 2-1) x)
def set (t:Tr α) (n:Nat) (x:α):Tr α:=setN (n+1) t n x
end Tr
inductive BState where
 | ro | own | grown | dead | bytes (t:Nat) | ty (t:Nat)
inductive Blk where
 | row (cs:List AV) (st:BState)
 | map (es:List (AV×AV×Nat)) (clock:Nat)
 | siter (s:List UInt8) (pos:Nat)
structure Loc where
 b:Nat
 sh:Nat
 tot:Nat
 ex:Bool
structure Heap where
 t:Tr Blk
 next:Nat
 pins:List (Nat×Loc):=[]
structure Env where
 info:TypeId->Option TypeInfo
 fn:FuncId->Option Func
 native:FuncId->Option (List AV->Heap->Option (AV×Heap))
 cmp:TypeId->Bool
 trk:TypeId->Bool
 lies:TypeId->Nat->TypeId->Bool
def Env.und (E:Env) (t:TypeId):Option TypeDesc:=
 match E.info t with
 | some i=>match i.desc with
  | .named _ u=>match E.info u with
   | some j=>some j.desc
   | none=>none
  | d=>some d
 | none=>none
def undefA:AV:=.tuple []
def AV.cells:AV->List AV
 | .agg cs=>cs
 | v=>[v]
def AV.single:AV->Bool
 | .agg _=>false
 | .tuple _=>false
 | _=>true
def bB4:Value->Option AV
 | .bool b=>some (.bool b)
 | .int k n=>some (.int k n)
 | .string s=>some (.str s.data.toList)
 | .pointer none=>some (.ptr none)
 | .slice none 0 0=>some (.slice none 0 0 0)
 | .map none=>some (.map none)
 | .nilFunc=>some .nilFunc
 | .nilIface=>some .nilIface
 | _=>none
def aA8:List Value->Option (List AV)
 | []=>some []
 | v::r=>match bB4 v with
  | some x=>match aA8 r with
   | some xs=>some (x::xs)
   | none=>none
  | none=>none
def ofV:Value->Option AV
 | .agg cs=>(aA8 cs.toList).map .agg
 | .tuple cs=>if cs.size=0 then some (.tuple []) else none
 | v=>bB4 v
abbrev Fr:=Tr AV
def rI (h:Fr):Operand->Option AV
 | .tmp t=>h.get t
 | .const v=>ofV v
 | .global _=>none
 | .func f=>some (.func (.func f) [] [])
def wI (f:Fr):List Operand->Option (List AV)
 | []=>some []
 | x::r=>match rI f x with
  | some v=>match wI f r with
   | some l=>some (v::l)
   | none=>none
  | none=>none
def Heap.row (h:Heap) (A:Nat):Option (List AV):=
 match h.t.get A with
 | some (.row cs st)=>match st with
  | .dead=>none
  | _=>some cs
 | _=>none
def Heap.rowW (h:Heap) (A:Nat):Option (List AV×BState):=
 match h.t.get A with
 | some (.row cs st)=>match st with
  | .own=>some (cs,st)
  | .grown=>some (cs,st)
  | .bytes _=>some (cs,st)
  | .ty _=>some (cs,st)
  | _=>none
 | _=>none
def Heap.push (h:Heap) (b:Blk):Heap:={ t:=h.t.set h.next b,next:=h.next+1,pins:=h.pins }
def Heap.put (h:Heap) (A:Nat) (b:Blk):Heap:={ h with t:=h.t.set A b }
def takeN:Nat->List AV->Option (List AV)
 | 0,_=>some []
 | n+1,x::r=>match takeN n r with
  | some l=>some (x::l)
  | none=>none
 | _+1,[]=>none
def Heap.read (h:Heap) (A off n:Nat):Option (List AV):=
 match h.row A with
 | some cs=>takeN n (cs.drop off)
 | none=>none
def over:Nat->List AV->List AV->Option (List AV)
 | _,cs,[]=>some cs
 | _,[],_::_=>none
 | 0,_::cs,v::vs=>match over 0 cs vs with
  | some l=>some (v::l)
  | none=>none
 | n+1,c::cs,v::vs=>match over n cs (v::vs) with
  | some l=>some (c::l)
  | none=>none
def cB8:TypeDesc->Bool
 | .struct _=>true
 | .array _ _=>true
 | _=>false
def Env.isAgg (E:Env) (t:TypeId):Option Bool:=(E.und t).map cB8
def Env.size (E:Env) (t:TypeId):Option Nat:=(E.info t).map (·.size)
def Env.zero (E:Env) (t:TypeId):Option AV:=
 match E.info t with
 | some i=>match i.zero with
  | some v=>ofV v
  | none=>none
 | none=>none
def kS (E:Env) (h:Heap) (t:TypeId) (a:AV):Option AV:=
 match a with
 | .ptr (some (A,off))=>
  match E.isAgg t with
  | some true=>match E.size t with
   | some n=>match h.read A off n with
    | some l=>some (.agg l)
    | none=>none
   | none=>none
  | some false=>match h.read A off 1 with
   | some [v]=>some v
   | _=>none
  | none=>none
 | _=>none
def bA8 (E:Env) (h:Heap) (t:TypeId) (a v:AV):Option Heap:=
 match a with
 | .ptr (some (A,off))=>
  match E.size t with
  | some n=>
   if v.cells.length=n&&v.cells.all AV.single then
    match h.rowW A with
    | some (cs,st)=>match over off cs v.cells with
     | some f=>some (h.put A (.row f st))
     | none=>none
    | none=>none
   else none
  | none=>none
 | _=>none
def pT (h:Heap) (cs:List AV):AV×Heap:=(.ptr (some (h.next,0)),h.push (.row cs .own))
def aA3 (place:Nat->Option (Nat×Nat)):List AV->List (Nat×AV)->Option (List AV)
 | cs,[]=>some cs
 | cs,(i,v)::rest=>
  match place i with
  | some (off,size)=>bif Nat.beq v.cells.length size&&Nat.ble (off+size) cs.length then
    match over off cs v.cells with
    | some f=>aA3 place f rest
    | none=>none
   else none
  | none=>none
def qT (E:Env):List Field->Option (List (Nat×Nat))
 | []=>some []
 | f::r=>match E.size f.type with
  | some n=>match qT E r with
   | some l=>some ((f.offset,n)::l)
   | none=>none
  | none=>none
def Env.fieldAt (E:Env) (t:TypeId) (f:Nat):Option Field:=
 match E.und t with
 | some (.struct h)=>h[f]?
 | _=>none
def lAv (E:Env) (t:TypeId) (parts:List (Nat×AV)):Option AV:=
 match E.zero t with
 | some z=>match E.und t with
  | some (.struct f)=>match qT E f.toList with
   | some l=>match aA3 (fun i=>l[i]?) z.cells parts with
    | some cs=>some (.agg cs)
    | none=>none
   | none=>none
  | some (.array _ e)=>match E.size e with
   | some n=>match aA3 (fun i=>some (i * n,n)) z.cells parts with
    | some cs=>some (.agg cs)
    | none=>none
   | none=>none
  | _=>none
 | none=>none
def mAv:Nat->List AV->List AV
 | 0,_=>[]
 | n+1,l=>l++mAv n l
def yI (E:Env) (h:Heap) (t:TypeId) (len:Nat) (parts:List (Nat×AV)):Option (AV×Heap):=
 match E.und t with
 | some (.slice e)=>match E.size e with
  | some n=>match E.zero e with
   | some z=>bif Nat.beq z.cells.length n&&Nat.ble (len * n) 16777216 then
     match aA3 (fun i=>some (i * n,n)) (mAv len z.cells) parts with
     | some cs=>some (.slice (some (h.next,0)) len len n,h.push (.row cs .own))
     | none=>none
    else none
   | none=>none
  | none=>none
 | _=>none
def rT (E:Env) (t:TypeId) (cs:List AV) (off:Nat):Option AV:=
 match E.isAgg t with
 | some true=>match E.size t with
  | some n=>(takeN n (cs.drop off)).map .agg
  | none=>none
 | some false=>match cs.drop off with
  | v::_=>some v
  | []=>none
 | none=>none
def dAs (a b:Option (Nat×Nat)):Option Bool:=
 match a,b with
 | none,none=>some true
 | none,some _=>some false
 | some _,none=>some false
 | some (A,i),some (B,j)=>bif Nat.beq A B then some (Nat.beq i j) else none
def nAv (E:Env) (f:AV->AV->Option Bool) (e:TypeId) (n:Nat):Nat->List AV->List AV->Option Bool
 | 0,_,_=>some true
 | len+1,xs,ys=>match rT E e xs 0,rT E e ys 0 with
  | some x,some y=>match f x y with
   | some true=>nAv E f e n len (xs.drop n) (ys.drop n)
   | some false=>some false
   | none=>none
  | _,_=>none
def eqFields (E:Env) (eqr:TypeId->AV->AV->Option Bool):List Field->List AV->List AV->Option Bool
 | [],_,_=>some true
 | f::fs,xs,ys=>
  if f.name = "_" then none else
  match rT E f.type xs f.offset,rT E f.type ys f.offset with
  | some x,some y=>match eqr f.type x y with
   | some true=>eqFields E eqr fs xs ys
   | some false=>some false
   | none=>none
  | _,_=>none
def bB:List UInt8->List UInt8->Bool
 | [],[]=>true
 | a::x,b::y=>bif Nat.beq a.toNat b.toNat then bB x y else false
 | _,_=>false
def pA:Int->Int->Bool
 | .ofNat a,.ofNat b=>Nat.beq a b
 | .negSucc a,.negSucc b=>Nat.beq a b
 | _,_=>false
def eM (k f:IntKind):Bool:=decide (k=f)
def eqA (E:Env):Nat->TypeId->AV->AV->Option Bool
 | 0,_,_,_=>none
 | d+1,t,x,y=>
  match E.und t,x,y with
  | some .bool,.bool a,.bool b=>some (bif a then b else !b)
  | some (.int _),.int k a,.int j b=>bif eM k j then some (pA a b) else none
  | some .string,.str a,.str b=>some (bB a b)
  | some (.pointer e),.ptr a,.ptr b=>match E.size e with
    | some (_+1)=>dAs a b
    | _=>none
  | some (.interface _),.nilIface,.nilIface=>some true
  | some (.interface _),.nilIface,.iface _ _=>some false
  | some (.interface _),.iface _ _,.nilIface=>some false
  | some (.interface _),.iface f r,.iface ty p=>bif Nat.beq f ty then match E.info f with
     | some i=>bif i.comparable then eqA E d f r p else none
     | none=>none
    else some false
  | some (.slice _),.slice none _ _ _,.slice b _ _ _=>some b.isNone
  | some (.slice _),.slice (some _) _ _ _,.slice none _ _ _=>some false
  | some (.map _ _),.map none,.map b=>some b.isNone
  | some (.map _ _),.map (some _),.map none=>some false
  | some (.func _ _ _),.nilFunc,.nilFunc=>some true
  | some (.func _ _ _),.nilFunc,.func _ _ _=>some false
  | some (.func _ _ _),.func _ _ _,.nilFunc=>some false
  | some (.array len e),.agg xs,.agg ys=>match E.size e with
    | some n=>nAv E (eqA E d e) e n len xs ys
    | none=>none
  | some (.struct h),.agg xs,.agg ys=>bif E.cmp t then eqFields E (eqA E d) h.toList xs ys else none
  | _,_,_=>none
end Ai
namespace Ai
def pw:IntKind->Nat
 | .i8=>256
 | .u8=>256
 | .i16=>65536
 | .u16=>65536
 | .i32=>4294967296
 | .u32=>4294967296
 | .i64=>18446744073709551616
 | .u64=>18446744073709551616
def wrapN (k:IntKind) (m:Nat):Int:=bif k.signed&&Nat.ble (pw k / 2) m then .negSucc (pw k-1-m) else .ofNat m
def fB (k:IntKind):Int->Int
 | .ofNat a=>wrapN k (a % pw k)
 | .negSucc a=>wrapN k (pw k-1-a % pw k)
def dB8 (k:IntKind):Int->Nat
 | .ofNat a=>a % pw k
 | .negSucc a=>pw k-1-a % pw k
def ltInt (a b:Int):Bool:=match b-a with
 | .ofNat n=>!(Nat.beq n 0)
 | .negSucc _=>false
def cD (a b:Int):Bool:=match b-a with
 | .ofNat _=>true
 | .negSucc _=>false
def kP:List UInt8->List UInt8->Bool
 | _,[]=>false
 | [],_::_=>true
 | a::x,b::y=>bif Nat.blt a.toNat b.toNat then true else bif Nat.beq a.toNat b.toNat then kP x y else false
def oAv (op:BinOp) (k:IntKind) (x y:Int):Option AV:=
 let a:=dB8 k x
 let b:=dB8 k y
 match op with
 | .and=>some (.int k (fB k (Nat.land a b)))
 | .or=>some (.int k (fB k (Nat.lor a b)))
 | .xor=>some (.int k (fB k (Nat.xor a b)))
 | .andNot=>some (.int k (fB k (Nat.xor a (Nat.land a b))))
 | _=>none
def kAo (op:BinOp) (k:IntKind) (x y:Int):Option AV:=
 match op with
 | .add=>some (.int k (fB k (x+y)))
 | .sub=>some (.int k (fB k (x-y)))
 | .mul=>some (.int k (fB k (x * y)))
 | .quo=>bif pA y 0 then none else some (.int k (fB k (x.tdiv y)))
 | .rem=>bif pA y 0 then none else some (.int k (x.tmod y))
 | .eql=>some (.bool (pA x y))
 | .neq=>some (.bool (!pA x y))
 | .lss=>some (.bool (ltInt x y))
 | .leq=>some (.bool (cD x y))
 | .gtr=>some (.bool (ltInt y x))
 | .geq=>some (.bool (cD y x))
 | .shl=>none
 | .shr=>none
 | op=>oAv op k x y
def cA8 (op:BinOp) (k:IntKind) (x y:Int):Option AV:=
 match y with
 | .negSucc _=>none
 | .ofNat m=>
  let n:=min m k.bits
  match op with
  | .shl=>some (.int k (fB k (x * Int.ofNat (2 ^ n))))
  | .shr=>some (.int k (x.fdiv (Int.ofNat (2 ^ n))))
  | _=>none
def fC (op:BinOp) (x y:List UInt8):Option AV:=
 match op with
 | .add=>bif Nat.ble (x.length+y.length) 1099511627776 then some (.str (x++y)) else none
 | .eql=>some (.bool (bB x y))
 | .neq=>some (.bool (!bB x y))
 | .lss=>some (.bool (kP x y))
 | .leq=>some (.bool (!kP y x))
 | .gtr=>some (.bool (kP y x))
 | .geq=>some (.bool (!kP x y))
 | _=>none
def iR:Operand->Bool
 | .const _=>true
 | _=>false
def eBa (op:BinOp) (k f:IntKind) (a b:Int):Option AV:=
 match op with
 | .shl=>cA8 .shl k a b
 | .shr=>cA8 .shr k a b
 | op=>bif eM k f then kAo op k a b else none
def pAv:AV->AV->Bool
 | .bool _,.bool _=>true
 | .ptr _,.ptr _=>true
 | .slice ..,.slice ..=>true
 | .map _,.map _=>true
 | .iface ..,.iface ..=>true
 | .iface ..,.nilIface=>true
 | .nilIface,.iface ..=>true
 | .nilFunc,.nilFunc=>true
 | .nilFunc,.func ..=>true
 | .func ..,.nilFunc=>true
 | _,_=>false
def rB3 (E:Env) (t:TypeId) (x y:Operand) (a b:AV):Option Bool:=
 match a,b with
 | .nilIface,.nilIface=>bif iR x||iR y then eqA E 9 t .nilIface .nilIface else none
 | .agg xs,.agg ys=>bif E.cmp t then eqA E 9 t (.agg xs) (.agg ys) else none
 | a,b=>bif pAv a b then eqA E 9 t a b else none
def bBi (E:Env) (op:BinOp) (t:TypeId) (x y:Operand) (a b:AV):Option AV:=
 match op with
 | .eql=>match rB3 E t x y a b with
  | some r=>some (.bool r)
  | none=>none
 | .neq=>match rB3 E t x y a b with
  | some r=>some (.bool (!r))
  | none=>none
 | _=>none
def tM (E:Env) (op:BinOp) (t:TypeId) (x y:Operand) (a b:AV):Option AV:=
 match a,b with
 | .int k a,.int f b=>eBa op k f a b
 | .str a,.str b=>fC op a b
 | a,b=>bBi E op t x y a b
def unA (op:UnOp) (x:AV):Option AV:=
 match op,x with
 | .neg,.int k n=>some (.int k (fB k (0-n)))
 | .xor,.int k n=>oAv .xor k (if k.signed then -1 else k.max) n
 | .not,.bool b=>some (.bool (!b))
 | _,_=>none
def bM (l:List AV):Option (List UInt8):=
 match l with
 | []=>some []
 | .int .u8 n::r=>match bM r with
  | some s=>some (UInt8.ofNat n.toNat::s)
  | none=>none
 | _=>none
def ofBytes:List UInt8->List AV
 | []=>[]
 | b::r=>.int .u8 b.toNat::ofBytes r
def lX (E:Env) (src dst:TypeId) (x:AV) (h:Heap):Option (AV×Heap):=
 match E.und src,E.und dst,x with
 | some _,some (.int k),.int _ n=>some (.int k (fB k n),h)
 | some _,some .string,.str s=>some (.str s,h)
 | some _,some .string,.int _ n=>some (.str (Utf8.encode n).data.toList,h)
 | some _,some (.slice e),.str s=>match E.und e with
  | some (.int .u8)=>some (.slice (some (h.next,0)) s.length s.length 1,h.push (.row (ofBytes s) .grown))
  | _=>none
 | some (.slice e),some .string,.slice a len _ _=>match E.und e with
  | some (.int .u8)=>match a with
   | none=>some (.str [],h)
   | some (A,off)=>match h.read A off len with
    | some l=>match bM l with
     | some s=>some (.str s,h)
     | none=>none
    | none=>none
  | _=>none
 | some (.pointer t),some .unsafePointer,.ptr (some (A,off))=>match h.row A,E.size t with
  | some cs,some (_+1)=>bif Nat.blt off cs.length then some (.ptr (some (A,off)),h) else none
  | _,_=>none
 | some .unsafePointer,some (.pointer u),.ptr (some (A,off))=>match h.t.get A with
  | some (.row cs (.ty e))=>match E.size e,E.size u with
   | some (n+1),some (_+1)=>bif Nat.beq cs.length (n+1)&&E.lies e off u then some (.ptr (some (A,off)),h) else none
   | _,_=>none
  | _=>none
 | _,_,_=>none
def rA0:AV->Option Nat
 | .int _ (.ofNat n)=>some n
 | _=>none
def gG (v:Option AV) (h f:Nat):Option Nat:=
 match v with
 | none=>some f
 | some v=>match rA0 v with
  | some n=>bif Nat.ble n h then some n else none
  | none=>none
def lA1 (E:Env) (h:Heap) (n:Nat) (e:TypeId) (A off:Nat) (j hi:Option AV):Option AV:=
 match E.size e with
 | some sz=>match h.row A with
  | some cs=>bif Nat.ble (off+n * sz) cs.length then match gG hi n n with
    | some f=>match gG j f 0 with
     | some l=>some (.slice (some (A,off+l * sz)) (f-l) (n-l) sz)
     | none=>none
    | none=>none
   else none
  | none=>none
 | none=>none
def cF (E:Env) (h:Heap) (t:TypeId) (x:AV) (f hi:Option AV):Option AV:=
 match E.und t,x with
 | some .string,.str s=>match gG hi s.length s.length with
  | some h=>match gG f h 0 with
   | some l=>some (.str ((s.take h).drop l))
   | none=>none
  | none=>none
 | some (.slice e),.slice none len cap sz=>match E.size e with
  | some _=>match gG hi cap len with
   | some h=>match gG f h 0 with
    | some l=>some (.slice none (h-l) (cap-l) sz)
    | none=>none
   | none=>none
  | none=>none
 | some (.slice e),.slice (some (A,off)) len cap sz=>match E.size e with
  | some n=>bif Nat.beq n sz then match gG hi cap len with
    | some h=>match gG f h 0 with
     | some l=>some (.slice (some (A,off+l * sz)) (h-l) (cap-l) sz)
     | none=>none
    | none=>none
   else none
  | none=>none
 | some (.array n e),.ptr (some (A,off))=>lA1 E h n e A off f hi
 | some (.pointer j),.ptr (some (A,off))=>match E.und j with
  | some (.array n e)=>lA1 E h n e A off f hi
  | _=>none
 | _,_=>none
def jR (E:Env) (s:TypeId) (x:AV) (f:Nat):Option AV:=
 match x with
 | .ptr (some (A,off))=>match E.fieldAt s f with
  | some h=>match E.size h.type with
   | some (_+1)=>some (.ptr (some (A,off+h.offset)))
   | _=>none
  | none=>none
 | _=>none
def lAo (E:Env) (t:TypeId) (x:AV) (f:Nat):Option AV:=
 match x with
 | .agg cs=>match E.fieldAt t f with
  | some h=>rT E h.type cs h.offset
  | none=>none
 | _=>none
def fM (E:Env) (t:TypeId) (x ix:AV):Option AV:=
 match rA0 ix with
 | some i=>match E.und t,x with
  | some (.array len e),.ptr (some (A,off))=>match E.size e with
   | some n=>bif Nat.blt i len then some (.ptr (some (A,off+i * n))) else none
   | none=>none
  | some (.slice e),.slice (some (A,off)) len _ _=>match E.size e with
   | some n=>bif Nat.blt i len then some (.ptr (some (A,off+i * n))) else none
   | none=>none
  | _,_=>none
 | none=>none
def iAf (E:Env) (t:TypeId) (x ix:AV):Option AV:=
 match rA0 ix with
 | some i=>match E.und t,x with
  | some (.array len e),.agg cs=>match E.size e with
   | some n=>bif Nat.blt i len then rT E e cs (i * n) else none
   | none=>none
  | some .string,.str s=>match s[i]? with
   | some b=>some (.int .u8 b.toNat)
   | none=>none
  | _,_=>none
 | none=>none
def mAo (ok:Bool) (v:AV):AV:=bif ok then .tuple [v,.bool true] else v
def dA8 (E:Env) (t:TypeId) (ok:Bool):Option AV:=bif ok then (match E.zero t with
  | some z=>some (.tuple [z,.bool false])
  | none=>none) else none
def lR:TypeDesc->Option (Array (String×TypeId))
 | .interface f=>some f
 | _=>none
def vAa (E:Env) (x:AV) (t:TypeId) (ok:Bool):Option AV:=
 match E.und t with
 | none=>none
 | some d=>match lR d with
  | some want=>match x with
   | .nilIface=>dA8 E t ok
   | .iface f _=>match E.info f with
    | some i=>match Instr.missingMethod want i.methods with
     | none=>some (mAo ok x)
     | some _=>dA8 E t ok
    | none=>none
   | _=>none
  | none=>match x with
   | .nilIface=>dA8 E t ok
   | .iface f v=>bif Nat.beq f t then some (mAo ok v) else dA8 E t ok
   | _=>none
def gM (x:AV):Option AV:=
 match x with
 | .ptr none=>none
 | .nilIface=>none
 | .nilFunc=>none
 | .func (.method _) _ _=>none
 | x=>some x
def iM:AV->Option Nat
 | .slice _ n _ _=>some n
 | .str s=>some s.length
 | _=>none
def yD (h:Heap) (size n:Nat):AV->Option (List AV)
 | .slice (some (A,off)) _ _ _=>h.read A off (n * size)
 | .slice none _ _ _=>some []
 | .str s=>some (ofBytes (s.take n))
 | _=>none
def bA3:Nat:=1073741824
def wS:TypeDesc->Bool
 | .int _=>true
 | _=>false
def jM (h:Heap) (base:Option (Nat×Nat)) (len cap sz n:Nat) (new:List AV):Option (AV×Heap):=
 match base with
 | none=>some (.slice (some (h.next,0)) (len+n) (len+n) sz,h.push (.row new .grown))
 | some (A,off)=>match h.t.get A with
  | some (.row cs .own)=>match takeN (len * sz) (cs.drop off) with
   | some old=>bif Nat.ble (len+n) cap then (match over (off+len * sz) cs new with
     | some f=>some (.slice (some (A,off)) (len+n) cap sz,h.put A (.row f .own))
     | none=>none)
    else some (.slice (some (h.next,0)) (len+n) (len+n) sz,h.push (.row (old++new) .grown))
   | none=>none
  | some (.row cs .grown)=>match takeN (len * sz) (cs.drop off) with
   | some old=>some (.slice (some (h.next,0)) (len+n) (len+n) sz,(h.put A (.row cs .dead)).push (.row (old++new) .grown))
   | none=>none
  | some (.row cs (.bytes _))=>match takeN (len * sz) (cs.drop off) with
   | some old=>some (.slice (some (h.next,0)) (len+n) (len+n) sz,(h.put A (.row cs .dead)).push (.row (old++new) .grown))
   | none=>none
  | _=>none
def growB (e:Nat) (h:Heap) (base:Option (Nat×Nat)) (len cap sz n:Nat) (new:List AV):Option (AV×Heap):=
 match base with
 | none=>some (.slice (some (h.next,0)) (len+n) (len+n) sz,h.push (.row new (.bytes e)))
 | some (A,off)=>match h.t.get A with
  | some (.row cs (.bytes t))=>bif Nat.beq t e&&Nat.beq off 0 then (match takeN (len * sz) (cs.drop off) with
   | some old=>some (.slice (some (h.next,0)) (len+n) (len+n) sz,(h.put A (.row cs .dead)).push (.row (old++new) (.bytes e)))
   | none=>none) else jM h base len cap sz n new
  | _=>jM h base len cap sz n new
def bZ:TypeDesc->Bool
 | .string=>true
 | _=>false
def fBa (E:Env) (st:TypeId) (s x:AV) (h:Heap):Option (AV×Heap):=
 match E.und st,s,x with
 | some (.slice e),.slice none _ _ _,.int .i64 (.ofNat (n+1))=>match E.info e,E.zero e with
  | some i,some z=>
   bif Nat.ble ((n+1) * (i.bytes+i.size+1)) bA3&&Nat.beq z.cells.length i.size&&Nat.ble 1 i.size then
    some (.slice (some (h.next,0)) (n+1) (n+1) i.size,h.push (.row (mAv (n+1) z.cells) .grown))
   else none
  | _,_=>none
 | _,_,_=>none
def nB (E:Env) (st f:TypeId) (s x:AV) (h:Heap):Option (AV×Heap):=
 match E.und f with
 | none=>none
 | some d=>bif wS d then none else
 match E.und st,s with
 | some (.slice e),.slice base len cap sz=>match E.info e,E.zero e with
  | some i,some z=>match iM x with
   | some n=>match yD h i.size n x with
    | some new=>
     bif Nat.beq n 0 then some (s,h) else
     bif Nat.ble ((len+n) * (i.bytes+i.size+1)) bA3&&Nat.beq z.cells.length i.size&&(Nat.beq sz i.size||base.isNone)&&Nat.beq new.length (n * i.size)&&new.all AV.single then (bif bZ d then growB e h base len cap i.size n new else jM h base len cap i.size n new)
     else none
    | none=>none
   | none=>none
  | _,_=>none
 | _,_=>none
def qBv (E:Env) (dt:TypeId) (d s:AV) (h:Heap):Option (AV×Heap):=
 match E.und dt,d with
 | some (.slice e),.slice base j _ sz=>match E.size e,iM s with
  | some n,some sl=>bif Nat.beq (Nat.min sl j) 0 then some (.int .i64 0,h) else
   match yD h n (Nat.min sl j) s with
   | some new=>match base with
    | none=>none
    | some (A,off)=>match h.rowW A with
     | some (cs,st)=>match over off cs new with
      | some f=>bif Nat.beq sz n&&new.all AV.single then some (.int .i64 (Nat.min sl j),h.put A (.row f st)) else none
      | none=>none
     | none=>none
   | none=>none
  | _,_=>none
 | _,_=>none
mutual
def eqV:AV->AV->Bool
 | .bool a,.bool b=>bif a then b else !b
 | .int k a,.int y b=>eM k y&&pA a b
 | .str a,.str b=>bB a b
 | .ptr none,.ptr none=>true
 | .ptr (some (A,i)),.ptr (some (B,j))=>Nat.beq A B&&Nat.beq i j
 | .slice none l c s,.slice none p r h=>Nat.beq l p&&Nat.beq c r&&Nat.beq s h
 | .slice (some (A,i)) l c s,.slice (some (B,j)) p r h=>Nat.beq A B&&Nat.beq i j&&Nat.beq l p&&Nat.beq c r&&Nat.beq s h
 | .map none,.map none=>true
 | .map (some A),.map (some B)=>Nat.beq A B
 | .func f a b,.func w H C=>decide (f=w)&&nAo a H&&nAo b C
 | .nilFunc,.nilFunc=>true
 | .iface t v,.iface F u=>Nat.beq t F&&eqV v u
 | .nilIface,.nilIface=>true
 | .agg a,.agg b=>nAo a b
 | .tuple a,.tuple b=>nAo a b
 | _,_=>false
def nAo:List AV->List AV->Bool
 | [],[]=>true
 | a::x,b::y=>eqV a b&&nAo x y
 | _,_=>false
end
def uBr (E:Env) (kt:TypeId) (k:AV):List (AV×AV×Nat)->Nat->Option (Option (Nat×AV))
 | [],_=>some none
 | (f,v,_)::r,i=>match eqA E 9 kt k f with
  | some true=>bif eqV k f then some (some (i,v)) else none
  | some false=>uBr E kt k r (i+1)
  | none=>none
def op3 (h:Fr) (x y z:Operand) (f:AV->AV->AV->Option (AV×Heap)):Option (AV×Heap):=
 match rI h x with
 | some v=>match rI h y with
  | some u=>match rI h z with
   | some q=>f v u q
   | none=>none
  | none=>none
 | none=>none
def vBr:AV->AV->Option AV
 | .int k x,.int _ y=>some (.int k (bif ltInt y x then y else x))
 | _,_=>none
def wBr:AV->AV->Option AV
 | .int k x,.int _ y=>some (.int k (bif ltInt x y then y else x))
 | _,_=>none
def eAs (f:AV->AV->Option AV):AV->List AV->Option AV
 | x,[]=>some x
 | x,y::r=>match f x y with
  | some z=>eAs f z r
  | none=>none
def cBi (E:Env) (t:TypeId) (x:AV):Option AV:=
 match E.und t,x with
 | some .string,.str s=>some (.int .i64 s.length)
 | some (.array n _),_=>some (.int .i64 n)
 | some (.slice _),.slice _ n _ _=>some (.int .i64 n)
 | _,_=>none
def oBw (E:Env) (t:TypeId) (x:AV) (h:Heap):Option AV:=
 match E.und t,x with
 | some (.slice _),.slice none _ c _=>some (.int .i64 c)
 | some (.slice _),.slice (some (A,_)) _ c _=>match h.t.get A with
  | some (.row _ .own)=>some (.int .i64 c)
  | _=>none
 | _,_=>none
def bE (h:Heap) (v:Option AV):Option (AV×Heap):=match v with
 | some v=>some (v,h)
 | none=>none
def kM (E:Env) (pt:TypeId) (A:Nat) (n:Int) (h:Heap):Option (AV×Heap):=
 match E.und pt,h.t.get A,n with
 | some (.pointer e),some (.row cs (.bytes t)),.ofNat (k+1)=>bif Nat.beq t e then
   (match E.size e,takeN (k+1) cs with
    | some 1,some l=>match bM l with
     | some s=>bif Nat.ble (k+1) 1073741824&&nAo l (ofBytes s) then some (.str s,h.put A (.row cs .ro)) else none
     | none=>none
    | _,_=>none)
   else none
 | _,_,_=>none
def oF (E:Env) (b:Builtin) (j:List TypeId) (args:List AV) (h:Heap):Option (AV×Heap):=
 match b,j,args with
 | .append,[st,f],[s,x]=>nB E st f s x h
 | .len,[t],[x]=>bE h (cBi E t x)
 | .min,_,x::r=>bE h (eAs vBr x r)
 | .max,_,x::r=>bE h (eAs wBr x r)
 | .unsafeSliceData,[_],[.slice (some (A,off)) _ (_+1) _]=>some (.ptr (some (A,off)),h)
 | .unsafeSliceData,[_],[.slice none _ _ _]=>some (.ptr none,h)
 | .unsafeString,[pt,_],[.ptr (some (A,0)),.int .i64 n]=>kM E pt A n h
 | .unsafeString,[_,_],[.ptr none,.int .i64 (.ofNat 0)]=>some (.str [],h)
 | _,_,_=>none
inductive Tgt where
 | fn (f:FuncId) (args:List AV)
 | val (v:AV) (h:Heap)
def mX (E:Env) (h:Heap) (t:TypeId) (v:AV) (name:String) (args:List AV):Option Tgt:=
 match E.info t with
 | some i=>match i.methods.find? (·.name == name) with
  | some m=>match m.path.toList,m.func with
   | [],some (f,ptr)=>match E.und t,ptr with
    | some (.pointer _),true=>some (.fn f (v::args))
    | some (.pointer e),false=>match kS E h e v with
     | some x=>some (.fn f (x::args))
     | none=>none
    | some _,false=>some (.fn f (v::args))
    | _,_=>none
   | _,_=>none
  | none=>none
 | none=>none
def fAv (E:Env) (j:Fr) (c:Call) (h:Heap):Option Tgt:=
 match wI j c.args.toList with
 | none=>none
 | some args=>
 match c.callee with
 | .builtin b=>match oF E b c.argTypes.toList args h with
  | some (v,h')=>some (.val v h')
  | none=>none
 | .invoke recv name=>match rI j recv with
  | some (.iface t v)=>mX E h t v name args
  | _=>none
 | .value f=>match rI j f with
  | some (.func (.func g) first captured)=>some (.fn g (first++args++captured))
  | some (.func (.method name) first _)=>match first++args with
   | .iface t v::r=>mX E h t v name r
   | _=>none
  | _=>none
def cI (f:Fr):List (Nat×Operand)->Option (List (Nat×AV))
 | []=>some []
 | (i,x)::r=>match rI f x with
  | some v=>match cI f r with
   | some l=>some ((i,v)::l)
   | none=>none
  | none=>none
def jAf (f:Fr):Option Operand->Option (Option AV)
 | none=>some none
 | some x=>match rI f x with
  | some v=>some (some v)
  | none=>none
def op1 (h:Fr) (x:Operand) (f:AV->Option (AV×Heap)):Option (AV×Heap):=
 match rI h x with
 | some v=>f v
 | none=>none
def op2 (h:Fr) (x y:Operand) (f:AV->AV->Option (AV×Heap)):Option (AV×Heap):=
 match rI h x with
 | some v=>match rI h y with
  | some u=>f v u
  | none=>none
 | none=>none
def unit (h:Option Heap):Option (AV×Heap):=match h with
 | some h=>some (undefA,h)
 | none=>none
def opA (E:Env) (j:Fr) (o:Op) (h:Heap):Option (AV×Heap):=
 match o with
 | .move x=>bE h (rI j x)
 | .assign x=>bE h (rI j x)
 | .pick c a b=>op1 j c fun
  | .bool true=>bE h (rI j a)
  | .bool false=>bE h (rI j b)
  | _=>none
 | .alloc e=>match E.zero e with
  | some z=>some (.ptr (some (h.next,0)),h.push (.row z.cells (bif E.trk e then .ty e else .own)))
  | none=>none
 | .box e x=>op1 j x fun v=>some (.ptr (some (h.next,0)),h.push (.row v.cells (bif E.trk e then .ty e else .own)))
 | .build t ps=>match cI j ps.toList with
  | some l=>bE h (lAv E t l)
  | none=>none
 | .buildSlice t len ps=>match cI j ps.toList with
  | some l=>yI E h t len l
  | none=>none
 | .load t a=>op1 j a fun v=>bE h (kS E h t v)
 | .store t a x=>op2 j a x fun v u=>unit (bA8 E h t v u)
 | .nilCheck x=>op1 j x fun v=>bE h (gM v)
 | .binOp op t x y _=>op2 j x y fun v u=>bE h (tM E op t x y v u)
 | .unOp op _ x=>op1 j x fun v=>bE h (unA op v)
 | .convert s d x=>op1 j x fun v=>lX E s d v h
 | .makeInterface t x=>match E.und t with
  | some (.interface _)=>none
  | some _=>op1 j x fun v=>some (.iface t v,h)
  | none=>none
 | .makeFunc fn first captured=>match wI j first.toList,wI j captured.toList with
  | some l,some m=>some (.func fn l m,h)
  | _,_=>none
 | .slice t x p hi none=>match jAf j p,jAf j hi with
  | some p,some hi=>op1 j x fun v=>bE h (cF E h t v p hi)
  | _,_=>none
 | .fieldAddr s x f=>op1 j x fun v=>bE h (jR E s v f)
 | .field t x f=>op1 j x fun v=>bE h (lAo E t v f)
 | .indexAddr t x ix=>op2 j x ix fun v u=>bE h (fM E t v u)
 | .index t x ix=>op2 j x ix fun v u=>bE h (iAf E t v u)
 | .typeAssert x _ t ok=>op1 j x fun v=>bE h (vAa E v t ok)
 | .extract t i=>op1 j t fun
  | .tuple vs=>bE h vs[i]?
  | _=>none
 | _=>none
def dV (h:Nat) (f:Fr) (d:Option Tmp) (v:AV):Fr:=match d with
 | some t=>bif Nat.blt t h then f.set t v else .nil
 | none=>f
def pG (ops:List Oper) (f:Fr) (j:Nat):Option Bool:=
 match ops[j]? with
 | some o=>match o.dst with
  | some d=>match f.get d with
   | some (.bool b)=>some b
   | _=>none
  | none=>none
 | none=>none
def bT (ops:List Oper) (f:Fr) (j:Nat):Bool:=
 match ops[j]? with
 | some o=>match o.dst with
  | some d=>match f.get d with
   | some (.tuple [])=>true
   | _=>false
  | none=>false
 | none=>false
def fF (ops:List Oper) (f:Fr) (o:Oper):Option Bool:=
 match o.guard with
 | none=>some true
 | some (j,want)=>match pG ops f j with
  | some b=>some (bif b then want else !want)
  | none=>bif bT ops f j then some false else none
abbrev CallF:=FuncId->List AV->Heap->Option (AV×Heap)
def lJ (E:Env) (call:CallF) (j:Fr) (o:Op) (h:Heap):Option (AV×Heap):=
 match o with
 | .call c=>match fAv E j c h with
  | some (.fn f args)=>call f args h
  | some (.val v h')=>some (v,h')
  | none=>none
 | o=>opA E j o h
def vE (E:Env) (call:CallF) (ops:List Oper) (f:Fr) (o:Oper) (h:Heap):Option (AV×Heap):=
 match fF ops f o with
 | some true=>lJ E call f o.op h
 | some false=>some (undefA,h)
 | none=>none
def rAj (E:Env) (call:CallF) (j:Nat) (ops:List Oper):List Oper->Fr->Heap->Option (Fr×Heap)
 | [],f,h=>some (f,h)
 | o::r,f,h=>match vE E call ops f o h with
  | some (v,h')=>rAj E call j ops r (dV j f o.dst v) h'
  | none=>none
def aD:Op->Nat
 | .move _ | .assign _ | .pick .. | .build .. | .nilCheck _ | .binOp .. | .unOp .. | .makeInterface .. | .makeFunc .. | .fieldAddr .. | .field .. | .indexAddr .. | .index ..
 | .typeAssert .. | .extract ..=>0
 | .load .. | .slice ..=>1
 | .call c=>match c.callee with
  | .builtin .len | .builtin .cap=>1
  | .builtin .min | .builtin .max=>0
  | _=>2
 | _=>2
def aV (n:Nat):List Nat->Bool
 | []=>false
 | x::r=>bif Nat.beq x n then true else aV n r
def eB8:Operand->List Nat
 | .tmp t=>[t]
 | _=>[]
def cA3 (ops:List Oper) (o:Oper):List Nat:=
 match o.guard with
 | some (g,_)=>match ops[g]? with
  | some x=>match x.dst with
   | some d=>[d]
   | none=>[]
  | none=>[]
 | none=>[]
def cB4 (l:List Operand):List Nat:=match l with
 | []=>[]
 | x::r=>eB8 x++cB4 r
def iF (ops:List Oper) (o:Oper):List Nat:=cB4 o.op.operands.toList++cA3 ops o
def yE:List Edge->List Nat
 | []=>[]
 | e::r=>bif Region.binds .any e then e.on::yE r else yE r
def dBr (x:Nat) (l:List Nat):List Nat:=bif aV x l then l else x::l
def oAo:List Nat->List Nat->List Nat
 | [],l=>l
 | x::r,l=>dBr x (oAo r l)
def fD:List Oper->List (List Nat)->List (List Nat)
 | [],acc=>acc
 | o::r,acc=>fD r (acc++[unionL acc (yE o.after.toList)])
where
 unionL (acc:List (List Nat)):List Nat->List Nat
  | []=>[]
  | e::r=>dBr e (oAo ((acc[e]?).getD []) (unionL acc r))
def tA0 (d:Option Nat) (l:List Nat):Bool:=match d with
 | some t=>aV t l
 | none=>false
def nX:Option Nat->Option Nat->Bool
 | some a,some b=>Nat.beq a b
 | _,_=>false
def wAa (ops:List Oper) (x y:Oper):Bool:=
 !(Nat.beq (aD x.op) 2&&Nat.beq (aD y.op) 2)&&!tA0 x.dst (iF ops y)&&!tA0 y.dst (iF ops x)&&!nX x.dst y.dst
def mR (ops:List Oper) (o:Oper) (ps:List Nat):Nat->List Oper->Bool
 | _,[]=>true
 | j,x::r=>(aV j ps||wAa ops x o)&&mR ops o ps (j+1) r
def qX (ops:List Oper) (f:List (List Nat)):Nat->List Oper->Bool
 | _,[]=>true
 | i,o::r=>mR ops o ((f[i]?).getD []) 0 (ops.take i)&&(yE o.after.toList).all (fun e=>Nat.blt e i)&&qX ops f (i+1) r
def dA3 (ops:List Oper):Bool:=qX ops (fD ops []) 0 ops
def jF (E:Env) (call:CallF) (j:Nat) (ops:List Oper):List Oper->Fr->Heap->Option (List (Fr×Heap×AV)×Fr×Heap)
 | [],f,h=>some ([],f,h)
 | o::r,f,h=>match vE E call ops f o h with
  | some (v,h')=>match jF E call j ops r (dV j f o.dst v) h' with
   | some (l,p)=>some ((f,h,v)::l,p)
   | none=>none
  | none=>none
def yAa:List Oper->List (Fr×Heap×AV)->Heap->List Heap
 | o::r,(_,h,_)::q,e=>bif Nat.beq (aD o.op) 2 then h::yAa r q e else yAa r q e
 | _,_,e=>[e]
def tAj (E:Env) (call:CallF) (ops:List Oper) (f:List Heap):List Oper->List (Fr×Heap×AV)->Bool
 | o::r,(h,_,v)::q=>(bif Nat.beq (aD o.op) 1 then f.all (fun H=>match vE E call ops h o H with
   | some (u,_)=>eqV u v
   | none=>false) else true)&&tAj E call ops f r q
 | _,_=>true
def rBv (E:Env) (call:CallF) (f:Nat) (ops:List Oper) (j:Fr) (h:Heap):Option (Fr×Heap):=
 match jF E call f ops ops j h with
 | some (l,fr',h')=>bif dA3 ops&&tAj E call ops (yAa ops l h') ops l then some (fr',h') else none
 | none=>none
def gBa (ops:List Oper) (j:Nat):Bool:=
 match ops[j]? with
 | some o=>Nat.beq (aD o.op) 2
 | none=>false
def qAv (ops:List Oper) (k:Nat):List Nat->Bool
 | []=>true
 | j::r=>bif gBa ops j&&!Nat.blt j k then false else qAv ops k r
def dB4 (ops:List Oper) (i k:Nat):Nat->List (List Nat)->Bool
 | _,[]=>true
 | j,ps::r=>bif gBa ops j&&(aV i ps&&!Nat.ble k j) then false else dB4 ops i k (j+1) r
def dBi (ops:List Oper) (f:List (List Nat)) (i k:Nat):Bool:=qAv ops k ((f[i]?).getD [])&&dB4 ops i k 0 f
def uAj:Nat->List Oper->List (Fr×Heap×AV)->Heap->List (Nat×Heap)
 | i,o::r,(_,h,_)::q,e=>bif Nat.beq (aD o.op) 2 then (i,h)::uAj (i+1) r q e else uAj (i+1) r q e
 | i,_,_,e=>[(i,e)]
def rAv (E:Env) (call:CallF) (ops:List Oper) (f:Nat->Nat->Bool) (h:List (Nat×Heap)):Nat->List Oper->List (Fr×Heap×AV)->Bool
 | i,o::r,(j,_,v)::q=>(bif Nat.beq (aD o.op) 1 then h.all (fun p=>bif f i p.1 then (match vE E call ops j o p.2 with
   | some (u,_)=>eqV u v
   | none=>false) else true) else true)&&rAv E call ops f h (i+1) r q
 | _,_,_=>true
def yBr (E:Env) (call:CallF) (f:Nat) (ops:List Oper) (j:Fr) (h:Heap):Option (Fr×Heap):=
 match jF E call f ops ops j h with
 | some (l,fr',h')=>bif dA3 ops&&rAv E call ops (dBi ops (fD ops [])) (uAj 0 ops l h') 0 ops l then some (fr',h') else none
 | none=>none
def eA3:Op->Bool
 | .box .. | .alloc ..=>true
 | _=>false
def iBa (ops:List Oper) (x y:Oper):Bool:=!tA0 x.dst (iF ops y)&&!tA0 y.dst (iF ops x)&&!nX x.dst y.dst
def dZ:Op->Bool
 | .buildSlice ..=>true
 | o=>eA3 o
def lP (o:Op):Bool:=Nat.beq (aD o) 2&&!dZ o
def kAf (ops:List Oper) (x y:Oper):Bool:=iBa ops x y&&!(lP x.op&&Nat.beq (aD y.op) 2)
def mA1 (ops:List Oper) (o:Oper) (ps:List Nat):Nat->List Oper->Bool
 | _,[]=>true
 | j,x::r=>(aV j ps||kAf ops x o)&&mA1 ops o ps (j+1) r
def nA1 (ops:List Oper) (f:List (List Nat)):Nat->List Oper->Bool
 | _,[]=>true
 | i,o::r=>mA1 ops o ((f[i]?).getD []) 0 (ops.take i)&&(yE o.after.toList).all (fun e=>Nat.blt e i)&&nA1 ops f (i+1) r
def tAv (ops:List Oper):Bool:=nA1 ops (fD ops []) 0 ops
def pA1 (n:Nat) (recs:List (Fr×Heap×AV)) (h':Heap) (k:Nat):Heap:=bif Nat.blt k n then (match recs[k]? with | some r=>r.2.1 | none=>h') else h'
def mA7:List Nat->Nat->Nat
 | [],_=>0
 | x::r,i=>bif Nat.beq x i then 0 else mA7 r i+1
def eBi (f:List Nat) (e:Edge):Edge:={ e with on:=mA7 f e.on }
def aBs (f:List Nat):Option (Nat×Bool)->Option (Nat×Bool)
 | none=>none
 | some g=>some (mA7 f g.1,g.2)
def pBh (f:List Nat) (o:Oper):Oper:={ o with after:=o.after.map (eBi f),guard:=aBs f o.guard }
def aJ (f:List Nat) (ops:List Oper):List Oper:=f.map fun i=>pBh f ((ops[i]?).getD default)
def uAv (n:Nat):Option (Nat×Bool)->Bool
 | none=>true
 | some g=>Nat.blt g.1 n
def vAv (f:List Nat) (ops:List Oper):Bool:=
 Nat.beq f.length ops.length&&(List.range ops.length).all (fun i=>Nat.blt (mA7 f i) ops.length&&Nat.beq ((f[mA7 f i]?).getD ops.length) i&&Nat.beq (mA7 f ((f[i]?).getD ops.length)) i&&Nat.blt ((f[i]?).getD ops.length) ops.length) &&
 ops.all fun o=>o.after.toList.all (fun e=>Nat.blt e.on ops.length)&&uAv ops.length o.guard
def fBi:BState->BState->Bool
 | .ro,.ro=>true
 | .own,.own=>true
 | .grown,.grown=>true
 | .bytes a,.bytes b=>Nat.beq a b
 | .ty a,.ty b=>Nat.beq a b
 | .dead,.dead=>true
 | _,_=>false
def rX:Option Blk->Option Blk->Bool
 | some (.row cs st),some (.row f h)=>eqV (.agg cs) (.agg f)&&fBi st h
 | none,none=>true
 | _,_=>false
def lAf (ops:List Oper) (k:Nat):Bool:=match ops[k]? with
 | some o=>lP o.op
 | none=>false
def gBi (ops:List Oper) (recs:List (Fr×Heap×AV)) (h':Heap):Bool:=
 (List.range ops.length).all fun m=>!lAf ops m||(List.range m).all fun x=>lAf ops x||Nat.beq (pA1 ops.length recs h' (x+1)).next (pA1 ops.length recs h' x).next ||
  rX ((pA1 ops.length recs h' (m+1)).t.get (pA1 ops.length recs h' x).next) ((pA1 ops.length recs h' m).t.get (pA1 ops.length recs h' x).next)
def wAv (o:Oper):Bool:=match o.op with
 | .alloc _=>o.guard.isNone&&Nat.beq o.after.toList.length 0
 | _=>false
def fB8 (ops:List Oper) (k:Nat):Bool:=match ops[k]? with
 | some o=>wAv o
 | none=>false
def eZ (ops:List Oper):List Nat:=(List.range ops.length).filter (fB8 ops)++(List.range ops.length).filter (fun k=>!fB8 ops k)
def bBs (E:Env) (call:CallF) (f:Nat) (ops:List Oper) (j:Fr) (h:Heap):Option (Fr×Heap):=
 match jF E call f (aJ (eZ ops) ops) (aJ (eZ ops) ops) j h with
 | some (l,fr',h')=>bif vAv (eZ ops) ops&&tAv (aJ (eZ ops) ops)&&tAj E call (aJ (eZ ops) ops) (yAa (aJ (eZ ops) ops) l h') (aJ (eZ ops) ops) l&&gBi (aJ (eZ ops) ops) l h' then some (fr',h') else none
 | none=>none
def cBs (E:Env) (call:CallF) (f:Nat) (ops:List Oper) (j:Fr) (h:Heap):Option (Fr×Heap):=
 bif dA3 ops then yBr E call f ops j h else bBs E call f ops j h
inductive Out where
 | norm
 | exit (id:Nat)
 | ret
abbrev Ev:=Code->Fr->Heap->Option (Out×Fr×Heap)
def evC (E:Env) (call:CallF) (j:Nat) (loop:Ev):Ev
 | .skip,f,h=>some (.norm,f,h)
 | .region _ ops draw,f,h=>match (bif draw then cBs E call j ops.toList f h else rAj E call j ops.toList ops.toList f h) with
  | some (fr',h')=>some (.norm,fr',h')
  | none=>none
 | .seq a b,f,h=>match evC E call j loop a f h with
  | some (.norm,fr',h')=>evC E call j loop b fr' h'
  | r=>r
 | .cond c x y,f,h=>match rI f c with
  | some (.bool b)=>bif b then evC E call j loop x f h else evC E call j loop y f h
  | _=>none
 | .block id c,f,h=>match evC E call j loop c f h with
  | some (.exit p,fr',h')=>bif Nat.beq p id then some (.norm,fr',h') else some (.exit p,fr',h')
  | r=>r
 | .loop c,f,h=>match evC E call j loop c f h with
  | some (.norm,fr',h')=>loop (.loop c) fr' h'
  | r=>r
 | .exit id,f,h=>some (.exit id,f,h)
 | .ret,f,h=>some (.ret,f,h)
 | .scope c,f,h=>evC E call j loop c f h
 | .label _,f,h=>some (.norm,f,h)
 | _,_,_=>none
def mAf:Nat->List AV->Fr->Fr
 | _,[],f=>f
 | i,v::r,f=>mAf (i+1) r (f.set i v)
def gH (E:Env) (f:Fr) (h:Heap):List ResultVar->Option (List AV)
 | []=>some []
 | .tmp t::r=>match f.get t,gH E f h r with
  | some v,some l=>some (v::l)
  | _,_=>none
 | .cell a t::r=>match f.get a with
  | some x=>match kS E h t x,gH E f h r with
   | some v,some l=>some (v::l)
   | _,_=>none
  | none=>none
def jBa (E:Env) (fn:Func) (r:Option (Out×Fr×Heap)):Option (AV×Heap):=
 match r with
 | some (.exit _,_,_)=>none
 | some (_,f,h)=>match gH E f h fn.results.toList with
  | some [v]=>some (v,h)
  | some vs=>some (.tuple vs,h)
  | none=>none
 | none=>none
def dBs (E:Env) (ev:Nat->Ev) (f:FuncId) (args:List AV) (h:Heap):Option (AV×Heap):=
 match E.native f with
 | some g=>g args h
 | none=>match E.fn f with
  | some fn=>match fn.body with
   | some c=>bif Nat.ble args.length fn.ntmps then jBa E fn (ev fn.ntmps c (mAf 0 args .nil) h) else none
   | none=>none
  | none=>none
def ev (E:Env):Nat->Nat->Ev
 | 0=>fun _ _ _ _=>none
 | n+1=>fun f=>evC E (dBs E (ev E n)) f (ev E n f)
def kBa {α:Type} (l:List α):Tr α:=(l.foldl (fun (p:Tr α×Nat) x=>(p.1.set p.2 x,p.2+1)) (Tr.nil,0)).1
end Ai
namespace Ai
open Go.RowKit (Below)
def bt {a b:Nat} (h:a=b):Nat.beq a b=true:=by simp_all
theorem bf {a b:Nat} (h:a≠b):Nat.beq a b=false:=by
 grind [Nat.beq,absurd,xK]
namespace Tr
variable {α:Type}
def eB4:∀ (f:Nat) (t:Tr α) (n m:Nat) (x y:α),get (setN f t n x) m=some y->(m=n/\y=x)\/(m≠n/\get t m=some y):=by
 intro f
 induction f with
 | zero=>grind [setN,get]
 | succ f J=>
  intro t n m x y h;have I:∀ a b:Nat,a≠0->b≠0->a % 2=b % 2->(a % 2=1->a / 2=b / 2->a=b)/\(a % 2≠1->a / 2-1=b / 2-1->a=b):=by
   grind
  have H:∀ k,get (nil:Tr α) k=none:=fun k=>by simp [get]
  cases t with
  | nil=>
   simp only [setN] at h
   by_cases F:n=0
   ·subst F
    simp only [xA,get,show Nat.beq 0 0=true from rfl] at h
    by_cases p:m=0
    ·grind
    ·have:Nat.beq m 0=false:=bf p
     grind
   ·have B:Nat.beq n 0=false:=bf F
    simp only [B,xB] at h
    by_cases C:n % 2=1
    ·have u:Nat.beq (n % 2) 1=true:=bt C
     simp only [u,xA,get] at h
     by_cases p:m=0
     ·subst p;simp at h
     ·have j:Nat.beq m 0=false:=bf p
      simp only [j,xB] at h
      by_cases A:m % 2=1
      ·grind
      grind [Nat.beq,bf]
    ·have u:Nat.beq (n % 2) 1=false:=bf C
     simp only [u,xB,get] at h
     by_cases p:m=0
     ·subst p;simp at h
     ·have j:Nat.beq m 0=false:=bf p
      simp only [j,xB] at h
      by_cases A:m % 2=1
      ·simp [A] at h
      grind
  | node l v r=>
   simp only [setN] at h
   by_cases F:n=0
   ·subst F
    simp only [show Nat.beq 0 0=true from rfl,xA,get] at h
    by_cases p:m=0
    ·simp_all
    ·have j:Nat.beq m 0=false:=bf p
     simp only [j,xB] at h;refine .inr ⟨p,?_⟩;simp only [get,j,xB];exact h
   ·have B:Nat.beq n 0=false:=bf F
    simp only [B,xB] at h
    by_cases C:n % 2=1
    ·have u:Nat.beq (n % 2) 1=true:=bt C
     simp only [u,xA,get] at h
     by_cases p:m=0
     ·subst p;simp at h;exact .inr ⟨by omega,by simp [get,h]⟩
     ·have j:Nat.beq m 0=false:=bf p
      simp only [j,xB] at h
      by_cases A:m % 2=1
      ·simp only [A,show Nat.beq 1 1=true from rfl,xA] at h
       grind [get]
      ·have w:Nat.beq (m % 2) 1=false:=bf A
       simp only [w,xB] at h;exact .inr ⟨by grind,by simp only [get,j,w,xB];exact h⟩
    ·have u:Nat.beq (n % 2) 1=false:=bf C
     simp only [u,xB,get] at h
     by_cases p:m=0
     ·subst p;simp at h;exact .inr ⟨by omega,by simp [get,h]⟩
     ·have j:Nat.beq m 0=false:=bf p
      simp only [j,xB] at h
      by_cases A:m % 2=1
      ·simp only [A,show Nat.beq 1 1=true from rfl,xA] at h
       exact .inr ⟨by grind,by simp only [get,j,A,show Nat.beq 1 1=true from rfl,xA,xB];exact h⟩
      ·have w:Nat.beq (m % 2) 1=false:=bf A
       simp only [w,xB] at h
       grind [get]
def get_set {t:Tr α} {n m:Nat} {x y:α} (h:(t.set n x).get m=some y):(m=n/\y=x)\/(m≠n/\t.get m=some y):=eB4 (n+1) t n m x y h
theorem get_nil (m:Nat):(nil:Tr α).get m=none:=by simp [get]
end Tr
abbrev Mu:=Nat->Option Loc
mutual
def VR (μ:Mu):AV->Value->Prop
 | .bool b,v=>v=.bool b
 | .int k n,v=>v=.int k n
 | .str s,v=>v=.string ⟨s.toArray⟩
 | .ptr none,v=>v=.pointer none
 | .ptr (some (A,off)),v=>∃ l,μ A=some l/\v=.pointer (some ⟨l.b,l.sh+off,none⟩)
 | .slice none len cap _,v=>v=.slice none 0 0/\len=0/\cap=0
 | .slice (some (A,off)) len cap sz,v=>∃ l r cap',μ A=some l/\v=.slice (some r) len cap'/\len<=cap/\
   ((cap=0/\cap'=0)\/(r=⟨l.b,l.sh+off,none⟩/\cap<=cap'/\l.sh+off+cap' * sz<=l.tot/\(l.ex=true->cap'=cap)))
 | .map none,v=>v=.map none
 | .map (some A),v=>∃ l,μ A=some l/\v=.map (some l.b)
 | .func fn f c,v=>∃ j u,v=.func fn j u/\VRs μ f j.toList/\VRs μ c u.toList
 | .nilFunc,v=>v=.nilFunc
 | .iface t x,v=>∃ p,v=.iface t p/\VR μ x p
 | .nilIface,v=>v=.nilIface
 | .agg cs,v=>∃ h,v=.agg h/\VRs μ cs h.toList
 | .tuple cs,v=>∃ h,v=.tuple h/\VRs μ cs h.toList
def VRs (μ:Mu):List AV->List Value->Prop
 | [],l=>l=[]
 | x::xs,l=>∃ y ys,l=y::ys/\VR μ x y/\VRs μ xs ys
end
def Mu.le (μ f:Mu):Prop:=∀ A l,μ A=some l->f A=some l
mutual
theorem VR.mono {μ u:Mu} (h:μ.le u):∀ (x:AV) (v:Value),VR μ x v->VR u x v
 | .bool b,v=>by simp only [VR];exact id
 | .int k n,v=>by simp only [VR];exact id
 | .str s,v=>by simp only [VR];exact id
 | .ptr none,v=>by simp only [VR];exact id
 | .ptr (some (A,off)),v=>by simp only [VR];rintro ⟨l,j,p⟩;exact ⟨l,h _ _ j,p⟩
 | .slice none len cap _,v=>by simp only [VR];exact id
 | .slice (some (A,off)) len cap sz,v=>by simp only [VR];rintro ⟨l,B,w,j,p⟩;exact ⟨l,B,w,h _ _ j,p⟩
 | .map none,v=>by simp only [VR];exact id
 | .map (some A),v=>by simp only [VR];rintro ⟨l,j,p⟩;exact ⟨l,h _ _ j,p⟩
 | .func fn f c,v=>by simp only [VR];rintro ⟨y,w,j,p,C⟩;exact ⟨y,w,j,VRs.mono h f _ p,VRs.mono h c _ C⟩
 | .nilFunc,v=>by simp only [VR];exact id
 | .iface t x,v=>by simp only [VR];rintro ⟨r,j,p⟩;exact ⟨r,j,VR.mono h x _ p⟩
 | .nilIface,v=>by simp only [VR];exact id
 | .agg cs,v=>by simp only [VR];rintro ⟨r,j,p⟩;exact ⟨r,j,VRs.mono h cs _ p⟩
 | .tuple cs,v=>by simp only [VR];rintro ⟨r,j,p⟩;exact ⟨r,j,VRs.mono h cs _ p⟩
theorem VRs.mono {μ f:Mu} (h:μ.le f):∀ (x:List AV) (v:List Value),VRs μ x v->VRs f x v
 | [],v=>by simp only [VRs];exact id
 | x::xs,v=>by simp only [VRs];rintro ⟨y,ys,p,r,j⟩;exact ⟨y,ys,p,VR.mono h x _ r,VRs.mono h xs _ j⟩
end
section
variable {μ:Mu}
def VRs.length:∀ {xs:List AV} {ys:List Value},VRs μ xs ys->ys.length=xs.length
 | [],ys,h=>by simp only [VRs] at h;simp [h]
 | x::xs,ys,h=>by
  simp only [VRs] at h;obtain ⟨y,zs,rfl,_,h⟩:=h;simp [VRs.length h]
theorem VRs.get:∀ {xs:List AV} {ys:List Value},VRs μ xs ys->∀ {i:Nat} {x:AV},xs[i]? = some x->∃ y,ys[i]? = some y/\VR μ x y
 | [],ys,h,i,x,f=>by simp at f
 | x::xs,ys,h,i,z,f=>by
  simp only [VRs] at h;obtain ⟨y,zs,rfl,j,r⟩:=h
  cases i with
  | zero=>simp at f;subst f;exact ⟨y,by simp,j⟩
  | succ i=>simp at f;have ⟨u,p,w⟩:=VRs.get r f;exact ⟨u,by simpa using p,w⟩
theorem VRs.of:∀ {xs:List AV} {ys:List Value},ys.length=xs.length->(∀ (i:Nat) (x:AV),xs[i]? = some x->∃ y,ys[i]? = some y/\VR μ x y)->VRs μ xs ys
 | [],ys,h,_=>by grind [VRs,List.eq_nil_of_length_eq_zero]
 | x::xs,ys,h,f=>by
  cases ys with
  | nil=>simp at h
  | cons y ys=>
   simp only [VRs];refine ⟨y,ys,rfl,?_,VRs.of (by simpa using h) fun i z j=>?_⟩
   ·have ⟨u,p,r⟩:=f 0 x (by simp);grind
   ·have ⟨u,p,r⟩:=f (i+1) z (by simpa using j);grind
theorem VRs.nil:VRs μ [] []:=by simp only [VRs]
theorem VRs.cons {x:AV} {y:Value} {xs:List AV} {ys:List Value} (h:VR μ x y) (h':VRs μ xs ys):VRs μ (x::xs) (y::ys):=by
 simp only [VRs];grind
theorem VRs.append:∀ {xs f:List AV} {ys j:List Value},VRs μ xs ys->VRs μ f j->VRs μ (xs++f) (ys++j)
 | [],f,ys,j,h,h'=>by grind [VRs]
 | x::xs,f,ys,j,h,h'=>by
  simp only [VRs] at h;obtain ⟨y,zs,rfl,p,r⟩:=h;exact VRs.cons p (VRs.append r h')
def VRs.drop:∀ (n:Nat) {xs:List AV} {ys:List Value},VRs μ xs ys->VRs μ (xs.drop n) (ys.drop n)
 | 0,xs,ys,h=>by simpa using h
 | n+1,[],ys,h=>by grind [VRs]
 | n+1,x::xs,ys,h=>by
  simp only [VRs] at h;obtain ⟨y,zs,rfl,_,f⟩:=h;simpa using VRs.drop n f
def VRs.take:∀ (n:Nat) {xs:List AV} {ys:List Value},VRs μ xs ys->VRs μ (xs.take n) (ys.take n)
 | 0,xs,ys,h=>by simp [VRs]
 | n+1,[],ys,h=>by grind [VRs]
 | n+1,x::xs,ys,h=>by
  simp only [VRs] at h;obtain ⟨y,zs,rfl,f,j⟩:=h;simpa using VRs.cons f (VRs.take n j)
theorem VR.cells {x:AV} {v:Value} (h:VR μ x v):VRs μ x.cells v.cells.toList:=by
 cases x with
 | agg cs=>simp only [VR] at h;obtain ⟨j,rfl,h⟩:=h;simpa [AV.cells,Value.cells] using h
 | ptr a=>cases a <;> simp only [VR] at h <;> (try obtain ⟨l,r,rfl⟩:=h) <;> (try subst h) <;> simp_all [AV.cells,Value.cells,VRs,VR]
 | slice a=>
  cases a with
  | none=>have h':=h;simp only [VR] at h;obtain ⟨rfl,_⟩:=h;exact VRs.cons h' VRs.nil
  | some p=>have h':=h;have ⟨A,off⟩:=p;simp only [VR] at h;obtain ⟨l,u,w,_,rfl,_⟩:=h;exact VRs.cons h' VRs.nil
 | map a=>cases a <;> simp only [VR] at h <;> (try obtain ⟨l,r,rfl⟩:=h) <;> (try subst h) <;> simp_all [AV.cells,Value.cells,VRs,VR]
 | func f a b=>have h':=h;simp only [VR] at h;obtain ⟨_,_,rfl,_⟩:=h;exact VRs.cons h' VRs.nil
 | iface t y=>have h':=h;simp only [VR] at h;obtain ⟨_,rfl,_⟩:=h;exact VRs.cons h' VRs.nil
 | tuple vs=>have h':=h;simp only [VR] at h;obtain ⟨_,rfl,_⟩:=h;exact VRs.cons h' VRs.nil
 | bool b=>have h':=h;simp only [VR] at h;subst h;exact VRs.cons h' VRs.nil
 | int k n=>have h':=h;simp only [VR] at h;subst h;exact VRs.cons h' VRs.nil
 | str s=>have h':=h;simp only [VR] at h;subst h;exact VRs.cons h' VRs.nil
 | nilFunc=>have h':=h;simp only [VR] at h;subst h;exact VRs.cons h' VRs.nil
 | nilIface=>have h':=h;simp only [VR] at h;subst h;exact VRs.cons h' VRs.nil
theorem VR.single {x:AV} {v:Value} (h:VR μ x v) (j:x.single=true):v.oneCell'=true:=by
 cases x with
 | agg cs=>simp [AV.single] at j
 | tuple cs=>simp [AV.single] at j
 | ptr a=>cases a <;> simp only [VR] at h <;> (try obtain ⟨l,r,rfl⟩:=h) <;> (try subst h) <;> rfl
 | slice a=>
  cases a with
  | none=>simp only [VR] at h;obtain ⟨rfl,_⟩:=h;rfl
  | some p=>have ⟨A,off⟩:=p;simp only [VR] at h;obtain ⟨l,u,w,_,rfl,_⟩:=h;rfl
 | map a=>cases a <;> simp only [VR] at h <;> (try obtain ⟨l,r,rfl⟩:=h) <;> (try subst h) <;> rfl
 | func f a b=>simp only [VR] at h;obtain ⟨_,_,rfl,_⟩:=h;rfl
 | iface t y=>simp only [VR] at h;obtain ⟨_,rfl,_⟩:=h;rfl
 | bool b=>simp only [VR] at h;subst h;rfl
 | int k n=>simp only [VR] at h;subst h;rfl
 | str s=>simp only [VR] at h;subst h;rfl
 | nilFunc=>simp only [VR] at h;subst h;rfl
 | nilIface=>simp only [VR] at h;subst h;rfl
def fA3 {v:Value} {x:AV} (h:bB4 v=some x):VR μ x v:=by
 unfold bB4 at h
 split at h <;> simp only [xF,reduceCtorEq] at h <;> subst h <;> simp [VR]
def fZ:∀ {l:List Value} {xs:List AV},aA8 l=some xs->VRs μ xs l
 | [],xs,h=>by grind [aA8,VRs.nil]
 | v::r,xs,h=>by
  simp only [aA8] at h
  split at h <;> try simp at h
  rename_i x j
  split at h <;> simp at h;rename_i ys f;subst h;exact VRs.cons (fA3 j) (fZ f)
def nAf {v:Value} {x:AV} (h:ofV v=some x):VR μ x v:=by
 unfold ofV at h
 split at h
 ·rename_i cs
  cases f:aA8 cs.toList with
  | none=>simp [f] at h
  | some xs=>simp [f] at h;subst h;simp only [VR];exact ⟨cs,rfl,fZ f⟩
 ·rename_i cs
  split at h <;> simp at h;rename_i j;subst h;simp only [VR];exact ⟨cs,rfl,by grind [VRs,Array.eq_empty_of_size_eq_zero]⟩
 ·exact fA3 h
structure AR (μ:Mu) (nt:Nat) (fr:Fr) (a:Act):Prop where
 slot:∀ t v,fr.get t=some v->VR μ v (a.tmps.getD t undef)
 size:a.tmps.size=nt
 defers:a.defers=[]
theorem AR.mono {f:Mu} {j:Nat} {p:Fr} {a:Act} (h:AR μ j p a) (u:μ.le f):AR f j p a:=
 ⟨fun t v r=>VR.mono u _ _ (h.slot t v r),h.size,h.defers⟩
def bC {r:Nat} {p:Fr} {a:Act} (h:AR μ r p a) {x:Operand} {v:AV} (j:rI p x=some v):VR μ v (a.eval x):=by
 cases x with
 | tmp t=>exact h.slot t v j
 | const c=>exact nAf j
 | global g=>simp [rI] at j
 | func f=>simp [rI] at j;subst j;simp only [VR];exact ⟨#[],#[],rfl,by simp [VRs],by simp [VRs]⟩
def vM {u:Nat} {j:Fr} {a:Act} (h:AR μ u j a):∀ {l:List Operand} {vs:List AV},wI j l=some vs->VRs μ vs (l.map a.eval)
 | [],vs,f=>by grind [wI,VRs.nil]
 | x::r,vs,f=>by
  simp only [wI] at f
  split at f <;> try simp at f
  rename_i v w
  split at f <;> simp at f;rename_i l p;subst f;exact VRs.cons (bC h w) (vM h p)
def AR.put {f:Nat} {y:Fr} {a:Act} (h:AR μ f y a) (d:Option Tmp) {v:AV} {u:Value} (A:VR μ v u):AR μ f (dV f y d v) (a.put d u):=by
 cases d with
 | none=>exact h
 | some t=>
  refine ⟨fun s x j=>?_,by simp [Act.put,h.size],by simp [Act.put,h.defers]⟩;simp only [dV] at j
  by_cases r:t<f
  ·have B:Nat.blt t f=true:=by simp_all
   simp only [B,xA] at j;rcases Tr.get_set j with ⟨rfl,rfl⟩ | ⟨w,j⟩
   ·have:s<a.tmps.size:=by rw [h.size];exact r
    simp [Act.put,this];exact A
   ·have:=h.slot s x j
    have p:t≠s:=fun e=>w e.symm;simpa [Act.put,Array.getElem?_setIfInBounds_ne p] using this
  grind [Nat.blt,absurd,Nat.blt_eq,Tr.get_nil]
end
end Ai
namespace Ai
open Go.RowKit (Below)
theorem eI (b o i:Nat):(⟨b,o,none⟩:Addr).add i=⟨b,o+i,none⟩:=by
 grind [Addr.add]
def cT (w:World) (b:Nat):Nat->List Value->World
 | _,[]=>w
 | o,v::vs=>cT (w.setCell ⟨b,o,none⟩ v) b (o+1) vs
def nA7 (w:World) (a:Addr) (v:Value) (r:Nat):(w.setCell a v).shape? r=w.shape? r:=by
 grind [World.setCell,World.shape?]
def frozen?_setCell (w:World) (a:Addr) (v:Value) (p:Addr):(w.setCell a v).frozen? p=w.frozen? p:=by
 simp_all
def heap_setCell (w:World) (a:Addr) (v:Value) (k:Nat) (h:k≠a.block):(w.setCell a v).heap[k]? = w.heap[k]?:=by
 simp only [World.setCell,Array.getElem?_modify]
 grind
def fI (b:Nat):∀ (vs:List Value) (o:Nat) (w:World),(cT w b o vs).heap.size=w.heap.size
 | [],_,_=>rfl
 | v::vs,o,w=>by simp only [cT];rw [fI b vs];simp
def kK (b:Nat) {k:Nat} (h:k≠b):∀ (vs:List Value) (o:Nat) (w:World),(cT w b o vs).heap[k]? = w.heap[k]?
 | [],_,_=>rfl
 | v::vs,o,w=>by simp only [cT];rw [kK b h vs];exact heap_setCell _ _ _ _ h
def bJ (b r:Nat):∀ (vs:List Value) (o:Nat) (w:World),(cT w b o vs).shape? r=w.shape? r
 | [],_,_=>rfl
 | v::vs,o,w=>by simp only [cT];rw [bJ b r vs];exact nA7 _ _ _ _
def wM (b:Nat) (p:Addr):∀ (vs:List Value) (o:Nat) (w:World),(cT w b o vs).frozen? p=w.frozen? p
 | [],_,_=>rfl
 | v::vs,o,w=>by simp only [cT];rw [wM b p vs];simp_all
def cM (b:Nat):∀ (vs:List Value) (o:Nat) (w:World),(cT w b o vs).os=w.os/\(cT w b o vs).tape=w.tape/\(cT w b o vs).output=w.output
 | [],_,_=>⟨rfl,rfl,rfl⟩
 | v::vs,o,w=>by simp only [cT];exact cM b vs _ _
theorem lG (b:Nat) {p:Addr}:∀ (vs:List Value) (o:Nat) (w:World),(p.block≠b\/p.off<o\/o+vs.length<=p.off)->(cT w b o vs).cell? p=w.cell? p
 | [],_,_,_=>rfl
 | v::vs,o,w,h=>by
  simp only [cT];rw [lG b vs (o+1) _ (by grind)];refine World.cell?_setCell_other _ _ _ _ fun e=>?_
  grind
theorem uJ (b:Nat):∀ (vs:List Value) (o:Nat) (w:World) (i:Nat) (x:Value),vs[i]? = some x->(w.cell? ⟨b,o+i,none⟩).isSome->(cT w b o vs).cell? ⟨b,o+i,none⟩=some x
 | [],_,_,i,x,h,_=>by simp at h
 | v::vs,o,w,0,x,h,f=>by
  grind [cT,lG,Option.isSome_iff_exists,World.cell?_setCell_same]
 | v::vs,o,w,i+1,x,h,f=>by
  simp only [cT]
  have:=uJ b vs (o+1) (w.setCell ⟨b,o,none⟩ v) i x (by simpa using h) (by
   rw [World.cell?_setCell_other _ _ _ _ (by grind)]
   grind)
  grind
def lS (w:World) (a p:Addr) (v:Value) (h:(w.cell? p).isSome):((w.setCell a v).cell? p).isSome:=by
 grind [Option.isSome_iff_exists,World.cell?_setCell_same,World.cell?_setCell_other]
variable {P:Program}
theorem mG (b o:Nat):∀ (vs:List Value) (i:Nat) (w:World),(∀ v∈vs,v.oneCell'=true)->
  (∀ j,j<vs.length->(w.cell? ⟨b,o+i+j,none⟩).isSome)->(∀ j,j<vs.length->w.frozen? ⟨b,o+i+j,none⟩=false)->
  (storeCells ⟨b,o,none⟩ vs i).run P w=.ok () (cT w b (o+i) vs)
 | [],i,w,_,_,_=>rfl
 | v::vs,i,w,p,r,f=>by
  simp only [storeCells,cT,Sem.run_bind,eI];rw [run_store _ _ _ _ _ (p v (by simp))];have h:=r 0 (by simp);have y:=f 0 (by simp);simp only [xX] at h y;have ⟨u,B⟩:=Option.isSome_iff_exists.1 h;simp only [B,y,xE,xL,Result.andThen_ok];rw [mG b o vs (i+1) _ (fun x A=>p x (by simp [A])) (fun j C=>?_) (fun j C=>?_)]
  ·grind
  ·refine lS _ _ _ _ ?_
   have:=r (j+1) (by simp;omega)
   grind
  ·rw [frozen?_setCell]
   have:=f (j+1) (by simp;omega)
   grind
theorem run_loadCellsFrom (b o:Nat):∀ (n i:Nat) (acc:Array Value) (ys:List Value) (w:World),ys.length=n->
  (∀ j y,ys[j]? = some y->w.cell? ⟨b,o+i+j,none⟩=some y)->
  (loadCellsFrom ⟨b,o,none⟩ i n acc).run P w=.ok (acc++ys.toArray) w
 | 0,i,acc,ys,w,f,_=>by
  have:ys=[]:=List.eq_nil_of_length_eq_zero f
  subst this;simp [loadCellsFrom]
 | n+1,i,acc,ys,w,f,h=>by
  cases ys with
  | nil=>simp at f
  | cons y ys=>
   have h0:=h 0 y (by simp);simp only [xX] at h0;simp only [loadCellsFrom,Sem.run_bind,eI,run_load,h0,Result.andThen_ok];rw [run_loadCellsFrom b o n (i+1) (acc.push y) ys w (by simpa using f) (fun j z p=>by
    have:=h (j+1) z (by simpa using p)
    grind)]
   simp
theorem run_loadCells (b o n:Nat) (ys:List Value) (w:World) (f:ys.length=n) (h:∀ j y,ys[j]? = some y->w.cell? ⟨b,o+j,none⟩=some y) :
  (loadCells ⟨b,o,none⟩ n).run P w=.ok ys.toArray w:=by
 grind [loadCells,run_loadCellsFrom]
def cK:∀ {n:Nat} {l xs:List AV},takeN n l=some xs->xs=l.take n/\n<=l.length
 | 0,l,xs,h=>by simp [takeN] at h;subst h;simp
 | n+1,[],xs,h=>by simp [takeN] at h
 | n+1,x::r,xs,h=>by
  simp only [takeN] at h
  split at h <;> simp at h;rename_i l f;subst h
  have:=cK f
  simp [this.1,this.2]
def eV:∀ {n:Nat} {cs vs f:List AV},over n cs vs=some f->
  f.length=cs.length/\(vs=[]\/n+vs.length<=cs.length)/\(∀ i,i<n->f[i]? = cs[i]?)/\(∀ i,i<vs.length->f[n+i]? = vs[i]?)/\(∀ i,n+vs.length<=i->f[i]? = cs[i]?)
 | n,cs,[],f,h=>by simp [over] at h;subst h;simp
 | n,[],v::vs,f,h=>by simp [over] at h
 | 0,c::cs,v::vs,f,h=>by
  simp only [over] at h
  split at h <;> simp at h;rename_i l j;subst h;have ⟨r,y,p,u,w⟩:=eV j
  grind
 | n+1,c::cs,v::vs,f,h=>by
  simp only [over] at h
  split at h <;> simp at h;rename_i l j;subst h;have ⟨r,y,p,u,w⟩:=eV j
  grind
end Ai
namespace Ai
def Blk.isRo:Blk->Bool
 | .row _ .ro=>true
 | _=>false
def Blk.live:Blk->Bool
 | .row _ .dead=>false
 | _=>true
structure RowR (μ:Mu) (w:World) (l:Loc) (cs:List AV):Prop where
 shape:∃ e,w.shape? l.b=some (e,l.tot)
 fits:l.sh+cs.length<=l.tot
 cell:∀ (i:Nat) (x:AV),cs[i]? = some x->∃ y,w.cell? ⟨l.b,l.sh+i,none⟩=some y/\VR μ x y
def Free (w:World) (l:Loc):Prop:=∀ i,i<l.tot->w.frozen? ⟨l.b,i,none⟩=false
inductive ER (μ:Mu):List (AV×AV×Nat)->List MapEntry->Prop
 | nil:ER μ [] []
 | cons {k v:AV} {b:Nat} {r:List (AV×AV×Nat)} {k' v':Value} {r':List MapEntry} (hk:VR μ k k') (hv:VR μ v v') (h:ER μ r r'):ER μ ((k,v,b)::r) (⟨k',v',b⟩::r')
def BR (μ:Mu) (w:World) (l:Loc):Blk->Prop
 | .row _ .dead=>True
 | .row cs .ro=>RowR μ w l cs
 | .row cs .own=>RowR μ w l cs/\l.ex=true/\l.sh=0/\cs.length=l.tot/\Free w l
 | .row cs .grown=>RowR μ w l cs/\l.ex=false/\Free w l
 | .row cs (.ty t)=>(RowR μ w l cs/\l.ex=true/\l.sh=0/\cs.length=l.tot/\Free w l)/\w.shape? l.b=some (t,l.tot)
 | .row cs (.bytes t)=>(RowR μ w l cs/\l.ex=false/\Free w l)/\w.shape? l.b=some (t,l.tot)/\l.sh=0
 | .map h c=>∃ f:Array MapEntry,w.heap[l.b]? = some (.map f c)/\ER μ h f.toList
 | .siter s p=>w.heap[l.b]? = some (.stringIter ⟨s.toArray⟩ p)
structure HR (μ:Mu) (h:Heap) (w:World):Prop where
 dom:∀ A l,μ A=some l->A<h.next/\l.b<w.heap.size
 inj:∀ A B la lb ba bb,μ A=some la->μ B=some lb->h.t.get A=some ba->h.t.get B=some bb->ba.live=true->bb.live=true->A≠B->la.b=lb.b->ba.isRo=true/\bb.isRo=true
 blk:∀ A l b,μ A=some l->h.t.get A=some b->BR μ w l b
 pin:∀ x∈h.pins,μ x.1=some x.2
def Wr (h:Heap) (A:Nat):Prop:=∃ b,h.t.get A=some b/\b.isRo=false
structure Ext (μ:Mu) (h:Heap) (w:World) (μ':Mu) (h':Heap) (w':World):Prop where
 mono:μ.le μ'
 next:h.next<=h'.next
 fresh:∀ A l,μ' A=some l->μ A=some l\/(h.next<=A/\(w.heap.size<=l.b\/∃ B lB,μ B=some lB/\lB.b=l.b/\Wr h B))
 wr:∀ A,A<h.next->Wr h' A->Wr h A
 frame:∀ b,b<w.heap.size->(∀ A l,μ A=some l->l.b=b->¬ Wr h A)->w'.heap[b]? = w.heap[b]?
 size:w.heap.size<=w'.heap.size
 os:w'.os=w.os
 tape:w'.tape=w.tape
 output:w'.output=w.output
def Mu.le_refl (μ:Mu):μ.le μ:=fun _ _ h=>h
theorem Ext.refl (μ:Mu) (h:Heap) (w:World):Ext μ h w μ h w:=
 ⟨Mu.le_refl μ,xD _,fun _ _ h=>.inl h,fun _ _ h=>h,fun _ _ _=>rfl,xD _,rfl,rfl,rfl⟩
theorem Ext.trans {μ u p:Mu} {h h' y:Heap} {w w' F:World} (J:HR μ h w) (a:Ext μ h w u h' w') (b:Ext u h' w' p y F):Ext μ h w p y F where
 mono:=fun A l j=>b.mono A l (a.mono A l j)
 next:=xT a.next b.next
 fresh:=by
  intro A l j;rcases b.fresh A l j with r | ⟨L,r | ⟨B,H,r,K,W⟩⟩
  ·exact a.fresh A l r
  ·exact .inr ⟨xT a.next L,.inl (xT a.size r)⟩
  ·refine .inr ⟨xT a.next L,?_⟩
   rcases a.fresh B H r with f | ⟨Q,f | ⟨C,R,f,V,O⟩⟩
   ·exact .inr ⟨B,H,f,K,a.wr B (J.dom B H f).1 W⟩
   ·exact .inl (K ▸ f)
   grind
 wr:=fun A j h=>a.wr A j (b.wr A (xW j a.next) h)
 frame:=by
  intro k M I;rw [b.frame k (xW M a.size) ?_]
  ·exact a.frame k M I
  ·intro A l j U S
   rcases a.fresh A l j with f | ⟨_,f | ⟨C,R,f,V,O⟩⟩
   ·exact I A l f U (a.wr A (J.dom A l f).1 S)
   ·omega
   grind
 size:=xT a.size b.size
 os:=b.os.trans a.os
 tape:=b.tape.trans a.tape
 output:=b.output.trans a.output
theorem RowR.mono {μ f:Mu} {w:World} {l:Loc} {cs:List AV} (h:RowR μ w l cs) (p:μ.le f):RowR f w l cs:=
 ⟨h.shape,h.fits,fun i x j=>let ⟨y,h1,h2⟩:=h.cell i x j;⟨y,h1,VR.mono p _ _ h2⟩⟩
theorem ER.mono {μ j:Mu} (r:μ.le j) {p:List (AV×AV×Nat)} {f:List MapEntry} (h:ER μ p f):ER j p f:=by
 induction h with
 | nil=>exact .nil
 | cons u w _ y=>exact .cons (VR.mono r _ _ u) (VR.mono r _ _ w) y
theorem BR.mono {μ j:Mu} {w:World} {l:Loc} {b:Blk} (f:μ.le j) (h:BR μ w l b):BR j w l b:=by
 cases b with
 | row cs st=>
  cases st with
  | dead=>trivial
  | ro=>exact RowR.mono h f
  | own=>exact ⟨RowR.mono h.1 f,h.2⟩
  | grown=>exact ⟨RowR.mono h.1 f,h.2⟩
  | bytes t=>exact ⟨⟨RowR.mono h.1.1 f,h.1.2⟩,h.2⟩
  | ty t=>exact ⟨⟨RowR.mono h.1.1 f,h.1.2⟩,h.2⟩
 | map A c=>have ⟨r,u,y⟩:=h;exact ⟨r,u,y.mono f⟩
 | siter s p=>exact h
theorem dK {w w':World} {a:Addr} (h:w'.heap[a.block]? = w.heap[a.block]?):w'.cell? a=w.cell? a:=by simp only [World.cell?,h]
def oAf {w w':World} {a:Addr} (h:w'.heap[a.block]? = w.heap[a.block]?):w'.frozen? a=w.frozen? a:=by simp only [World.frozen?,h]
def tT {w w':World} {r:Nat} (h:w'.heap[r]? = w.heap[r]?):w'.shape? r=w.shape? r:=by simp only [World.shape?,h]
def RowR.heap {μ:Mu} {w w':World} {l:Loc} {cs:List AV} (f:w'.heap[l.b]? = w.heap[l.b]?) (h:RowR μ w l cs):RowR μ w' l cs:=
 ⟨by rw [tT f];exact h.shape,h.fits,fun i x j=>by rw [dK (a:=⟨l.b,_,none⟩) f];exact h.cell i x j⟩
def Free.heap {w w':World} {l:Loc} (f:w'.heap[l.b]? = w.heap[l.b]?) (h:Free w l):Free w' l:=
 fun i hi=>by rw [oAf (a:=⟨l.b,i,none⟩) f];exact h i hi
def BR.heap {μ:Mu} {w w':World} {l:Loc} {b:Blk} (f:w'.heap[l.b]? = w.heap[l.b]?) (h:BR μ w l b):BR μ w' l b:=by
 cases b with
 | row cs st=>
  cases st with
  | dead=>trivial
  | ro=>exact RowR.heap f h
  | own=>exact ⟨RowR.heap f h.1,h.2.1,h.2.2.1,h.2.2.2.1,Free.heap f h.2.2.2.2⟩
  | grown=>exact ⟨RowR.heap f h.1,h.2.1,Free.heap f h.2.2⟩
  | ty t=>exact ⟨⟨RowR.heap f h.1.1,h.1.2.1,h.1.2.2.1,h.1.2.2.2.1,Free.heap f h.1.2.2.2.2⟩,by rw [tT f];exact h.2⟩
  | bytes t=>exact ⟨⟨RowR.heap f h.1.1,h.1.2.1,Free.heap f h.1.2.2⟩,by rw [tT f];exact h.2.1,h.2.2⟩
 | map y c=>have ⟨j,r,u⟩:=h;exact ⟨j,by rw [f];exact r,u⟩
 | siter s p=>show _=_;rw [f];exact h
def HR.draws {μ:Mu} {h:Heap} {w w':World} (f:HR μ h w) (p:w'.heap=w.heap):HR μ h w':=
 ⟨fun A l j=>by rw [p];exact f.dom A l j,f.inj,fun A l b j r=>BR.heap (by rw [p]) (f.blk A l b j r),f.pin⟩
def Ext.draws {μ:Mu} {h:Heap} {w w':World} (p:w'.heap=w.heap) (f:w'.os=w.os) (j:w'.tape=w.tape) (r:w'.output=w.output):Ext μ h w μ h w':=
 ⟨Mu.le_refl μ,xD _,fun _ _ h=>.inl h,fun _ _ h=>h,fun _ _ _=>by rw [p],by grind,f,j,r⟩
def Mu.add (μ:Mu) (A:Nat) (l:Loc):Mu:=fun B=>if B=A then some l else μ B
def Mu.le_add {μ:Mu} {A:Nat} {l:Loc} (h:μ A=none):μ.le (μ.add A l):=by
 intro B k f
 grind [Mu.add]
def HR.isNone {μ:Mu} {h:Heap} {w:World} (f:HR μ h w):μ h.next=none:=by
 cases e:μ h.next with
 | none=>rfl
 | some l=>exact absurd (f.dom _ _ e).1 (Nat.lt_irrefl _)
theorem HR.push {μ:Mu} {h:Heap} {w:World} (r:HR μ h w) (o:Obj) (b:Blk) (l:Loc) (X:l.b=w.heap.size)
  (hb:BR (μ.add h.next l) (w.alloc o) l b) :
  HR (μ.add h.next l) (h.push b) (w.alloc o)/\Ext μ h w (μ.add h.next l) (h.push b) (w.alloc o):=by
 have F:μ.le (μ.add h.next l):=Mu.le_add r.isNone;have K:∀ k,k<w.heap.size->(w.alloc o).heap[k]? = w.heap[k]?:=fun k hk=>by
  show (w.heap.push o)[k]? = _
  grind
 have H:∀ {A k p},μ A=some k->(h.push b).t.get A=some p->h.t.get A=some p:=by
  intro A k p C u;rcases Tr.get_set u with ⟨j,_⟩ | ⟨_,y⟩
  ·exact absurd (r.dom A k C).1 (by omega)
  ·exact y
 have f:∀ {A k},μ.add h.next l A=some k->(A=h.next/\k=l)\/(A≠h.next/\μ A=some k):=by
  grind [Mu.add]
 have L:∀ {p},(h.push b).t.get h.next=some p->p=b:=by
  intro p u;rcases Tr.get_set u with ⟨_,j⟩ | ⟨j,_⟩
  ·exact j
  ·exact absurd rfl j
 refine ⟨⟨?_,?_,?_,fun x S=>F _ _ (r.pin x S)⟩,⟨F,Nat.le_succ _,?_,?_,?_,by simp,rfl,rfl,rfl⟩⟩
 ·intro A k C
  rcases f C with ⟨rfl,rfl⟩ | ⟨_,j⟩
  ·exact ⟨xP _,by simp [X]⟩
  ·exact ⟨Nat.lt_succ_of_lt (r.dom A k j).1,by simp;have:=(r.dom A k j).2;omega⟩
 ·intro A B R Q ba W C O U Z va V J M
  rcases f C with ⟨rfl,rfl⟩ | ⟨Y,j⟩
  ·rcases f O with ⟨rfl,rfl⟩ | ⟨nb,y⟩
   ·exact absurd rfl J
   ·have:=(r.dom B Q y).2;omega
  ·rcases f O with ⟨rfl,rfl⟩ | ⟨nb,y⟩
   ·have:=(r.dom A R j).2;omega
   ·exact r.inj A B R Q ba W j y (H j U) (H y Z) va V J M
 ·intro A k p C u
  rcases f C with ⟨rfl,rfl⟩ | ⟨Y,j⟩
  ·rw [L u];exact hb
  ·exact BR.mono F (BR.heap (K _ (r.dom A k j).2) (r.blk A k p j (H j u)))
 ·grind
 ·rintro A a0 ⟨p,u,I⟩
  rcases Tr.get_set u with ⟨j,_⟩ | ⟨_,y⟩
  ·omega
  ·exact ⟨p,y,I⟩
 grind
def HR.pushRow {μ:Mu} {h:Heap} {w:World} (u:HR μ h w) (xs:List AV) (cs:Array Value) (e:TypeId) (p:VRs μ xs cs.toList) :
  ∃ l,l.b=w.heap.size/\l.sh=0/\l.tot=xs.length/\l.ex=true/\HR (μ.add h.next l) (h.push (.row xs .own)) (w.alloc (.cells cs e))/\Ext μ h w (μ.add h.next l) (h.push (.row xs .own)) (w.alloc (.cells cs e)):=by
 have r:=p.length;refine ⟨⟨w.heap.size,0,xs.length,true⟩,rfl,rfl,rfl,rfl,u.push _ _ _ rfl ?_⟩;have f:μ.le (μ.add h.next ⟨w.heap.size,0,xs.length,true⟩):=Mu.le_add u.isNone;have j:=VRs.mono f _ _ p;refine ⟨⟨⟨e,?_⟩,by simp,?_⟩,rfl,rfl,rfl,?_⟩
 ·have B:(w.alloc (.cells cs e)).heap[w.heap.size]? = some (.cells cs e):=by show (w.heap.push _)[_]? = _;simp
  grind [World.shape?]
 ·intro i x hi
  have ⟨y,C,A⟩:=j.get hi
  simp_all
 ·intro i _;simp_all
end Ai
namespace Ai
structure EnvOK (E:Env) (P:Program):Prop where
 info:∀ t i,E.info t=some i->P.info? t=some i
 fn:∀ f fn,E.fn f=some fn->P.funcs[f]? = some fn/\(fn.name == "runtime.NumGoroutine")=false
 cmp:∀ t,E.cmp t=true->P.stoodInHeld t=false/\P.eqGuardType P.depth t=false
 lies:∀ e off u,E.lies e off u=true->liesAt P P.depth e 1 off u 1=true
section
variable {E:Env} {P:Program} {μ:Mu} {h:Heap} {w:World}
theorem aB (ok:EnvOK E P) {t:TypeId} {d:TypeDesc} (hd:E.und t=some d):P.underlying t=some d:=by
 unfold Env.und at hd;unfold Program.underlying
 cases hi:E.info t with
 | none=>simp [hi] at hd
 | some i=>
  rw [ok.info t i hi];simp only [hi] at hd
  cases f:i.desc with
  | named n u=>
   simp only [f] at hd
   cases p:E.info u with
   | none=>simp [p] at hd
   | some j=>
    simp only [p,xF] at hd;have ⟨desc,str,size,bytes,r,y,B,z,c,A⟩:=i;simp only at f;subst f;simp [ok.info u j p,hd]
  | _=>
   have ⟨desc,str,size,bytes,r,y,B,z,c,A⟩:=i;simp only at f;subst f;simpa using hd
def pB {t:TypeId} {d:TypeDesc} (hd:P.underlying t=some d):(underlying t).run P w=.ok d w:=by
 simp [underlying,hd]
def pH {t:TypeId} {i:TypeInfo} (hd:P.info? t=some i):(typeInfo t).run P w=.ok i w:=by
 simp [typeInfo,hd]
def pAo {t:TypeId} {i:TypeInfo} (hd:P.info? t=some i):(sizeOf t).run P w=.ok i.size w:=by
 simp [sizeOf,pH hd]
def fB4 {t:TypeId} {i:TypeInfo} {v:Value} (hd:P.info? t=some i) (f:i.zero=some v):(zeroValue t).run P w=.ok v w:=by
 simp [zeroValue,pH hd,f]
theorem yAv {t:TypeId} {d:TypeDesc} (hd:P.underlying t=some d):(isAgg t).run P w=.ok (cB8 d) w:=by
 simp only [isAgg,Sem.run_bind,pB hd,Result.andThen_ok];cases d <;> rfl
def lD (ok:EnvOK E P) {t:TypeId} {n:Nat} (f:E.size t=some n):(sizeOf t).run P w=.ok n w:=by
 unfold Env.size at f
 cases hi:E.info t with
 | none=>simp [hi] at f
 | some i=>simp [hi] at f;rw [pAo (ok.info t i hi),f]
def yM (ok:EnvOK E P) {t:TypeId} {b:Bool} (f:E.isAgg t=some b):(isAgg t).run P w=.ok b w:=by
 unfold Env.isAgg at f
 cases hi:E.und t with
 | none=>simp [hi] at f
 | some i=>grind [yAv,aB]
def iH (ok:EnvOK E P) {t:TypeId} {z:AV} (f:E.zero t=some z):∃ v,(∀ w,(zeroValue t).run P w=.ok v w)/\∀ μ,VR μ z v:=by
 unfold Env.zero at f
 cases hi:E.info t with
 | none=>simp [hi] at f
 | some i=>
  simp only [hi] at f
  cases j:i.zero with
  | none=>simp [j] at f
  | some v=>
   simp only [j] at f;exact ⟨v,fun w=>fB4 (ok.info t i hi) j,fun μ=>nAf f⟩
def iBi {A:Nat} {cs:List AV} (f:h.row A=some cs):∃ st,h.t.get A=some (.row cs st)/\st≠.dead:=by
 grind [Heap.row]
def lBa {A:Nat} {cs:List AV} {st:BState} (f:h.rowW A=some (cs,st)):h.t.get A=some (.row cs st)/\(st=.own\/st=.grown\/(∃ t,st=.bytes t)\/∃ t,st=.ty t):=by
 unfold Heap.rowW at f
 grind
theorem BR.row {l:Loc} {cs:List AV} {st:BState} (f:BR μ w l (.row cs st)) (hd:st≠.dead):RowR μ w l cs:=by
 cases st with
 | dead=>exact absurd rfl hd
 | ro=>exact f
 | own=>exact f.1
 | grown=>exact f.1
 | bytes t=>exact f.1.1
 | ty t=>exact f.1.1
theorem HR.row (r:HR μ h w) {A:Nat} {l:Loc} {cs:List AV} (p:μ A=some l) (f:h.row A=some cs):RowR μ w l cs:=by
 have ⟨st,j,hd⟩:=iBi f;exact (r.blk A l _ p j).row hd
theorem RowR.read {l:Loc} {cs xs:List AV} {off n:Nat} (B:RowR μ w l cs) (A:takeN n (cs.drop off)=some xs) :
  ∃ ys:List Value,ys.length=n/\(∀ (j:Nat) (y:Value),ys[j]? = some y->w.cell? ⟨l.b,l.sh+off+j,none⟩=some y)/\VRs μ xs ys:=by
 have ⟨F,I⟩:=cK A;have r:xs.length=n:=by grind
 have f:∀ (j:Nat) (x:AV),xs[j]? = some x->∃ y,w.cell? ⟨l.b,l.sh+off+j,none⟩=some y/\VR μ x y:=by
  intro j x u;have p:j<n:=by
   grind
  have:cs[off+j]? = some x:=by
   grind
  have ⟨y,C,H⟩:=B.cell (off+j) x this
  grind
 refine ⟨(List.range n).map fun j=>(w.cell? ⟨l.b,l.sh+off+j,none⟩).getD undef,by simp,?_,?_⟩
 ·intro j y u
  have p:j<n:=by grind
  simp [p] at u
  have:j<xs.length:=by omega
  have ⟨z,C,_⟩:=f j xs[j] (by simp [this])
  grind
 grind [VRs.of,List.getElem?_eq_some_iff]
theorem HR.read (u:HR μ h w) {A off n:Nat} {l:Loc} {xs:List AV} (r:μ A=some l) (f:h.read A off n=some xs) :
  ∃ ys:List Value,(loadCells ⟨l.b,l.sh+off,none⟩ n).run P w=.ok ys.toArray w/\ys.length=n/\VRs μ xs ys/\(∀ (j:Nat) (y:Value),ys[j]? = some y->w.cell? ⟨l.b,l.sh+off+j,none⟩=some y):=by
 unfold Heap.read at f
 cases p:h.row A with
 | none=>simp [p] at f
 | some cs=>
  simp only [p] at f;have ⟨ys,C,F,B⟩:=(u.row r p).read f
  grind [run_loadCells]
def aN (ok:EnvOK E P) (F:HR μ h w) {t:TypeId} {av x:AV} {v:Value} (C:VR μ av v) (j:kS E h t av=some x) :
  ∃ a y,v=.pointer (some a)/\(loadVar t a).run P w=.ok y w/\VR μ x y:=by
 unfold kS at j
 split at j
 ·rename_i A off
  simp only [VR] at C;obtain ⟨l,B,rfl⟩:=C;refine ⟨⟨l.b,l.sh+off,none⟩,?_⟩
  cases p:E.isAgg t with
  | none=>simp [p] at j
  | some b=>
   cases b with
   | true=>
    simp only [p] at j
    cases r:E.size t with
    | none=>simp [r] at j
    | some n=>
     simp only [r] at j
     cases f:h.read A off n with
     | none=>simp [f] at j
     | some xs=>
      simp [f] at j;subst j;have ⟨ys,H,J,u,_⟩:=F.read (P:=P) B f;refine ⟨.agg ys.toArray,rfl,?_,?_⟩
      ·simp [loadVar,yM ok p,lD ok r,H]
      ·simp only [VR];grind
   | false=>
    simp only [p] at j
    cases f:h.read A off 1 with
    | none=>simp [f] at j
    | some xs=>
     have ⟨ys,H,J,u,K⟩:=F.read (P:=P) B f
     cases xs with
     | nil=>simp [f] at j
     | cons z zs=>
      cases zs with
      | cons=>simp [f] at j
      | nil=>
       simp [f] at j;subst j;simp only [VRs] at u;obtain ⟨y,I,rfl,L,rfl⟩:=u;refine ⟨y,rfl,?_,L⟩
       have:=K 0 y (by simp)
       simp only [xX] at this;simp [loadVar,yM ok p,this]
 ·simp at j
def pAf (ok:EnvOK E P) (p:HR μ h w) {t:TypeId} {av x:AV} {v:Value} (j:VR μ av v) (f:kS E h t av=some x) :
  ∃ y,(Instr.loadAt t v).run P w=.ok y w/\VR μ x y:=by
 obtain ⟨a,y,rfl,r,u⟩:=aN ok p j f
 grind [Instr.loadAt,Instr.sureAddr]
def HR.write (R:HR μ h w) {A off:Nat} {l:Loc} {cs vs H:List AV} {M:List Value} {st:BState} (hA:μ A=some l) (hg:h.t.get A=some (.row cs st)) (J:st=.own\/st=.grown\/(∃ t,st=.bytes t)\/∃ t,st=.ty t)
  (ho:over off cs vs=some H) (hv:VRs μ vs M) :
  (∀ j,j<M.length->(w.cell? ⟨l.b,l.sh+off+j,none⟩).isSome)/\(∀ j,j<M.length->w.frozen? ⟨l.b,l.sh+off+j,none⟩=false)/\
  HR μ (h.put A (.row H st)) (cT w l.b (l.sh+off) M)/\Ext μ h w μ (h.put A (.row H st)) (cT w l.b (l.sh+off) M):=by
 have a3:=hv.length;have ⟨o1,o2,o3,o4,o5⟩:=eV ho;have F:=R.blk A l _ hA hg;have r:RowR μ w l cs:=F.row (by grind);have K:Free w l:=by rcases J with rfl | rfl | ⟨_,rfl⟩ | ⟨_,rfl⟩;exact F.2.2.2.2;exact F.2.2;exact F.1.2.2;exact F.1.2.2.2.2
 have U:∀ j,j<M.length->off+j<cs.length:=by
  grind
 have W:∀ j,j<M.length->(w.cell? ⟨l.b,l.sh+off+j,none⟩).isSome:=by
  intro j Z;have S:=U j Z;have ⟨y,h2,_⟩:=r.cell (off+j) cs[off+j] (by simp [S])
  grind
 have X:∀ {B:Nat} {b:Blk},(h.put A (.row H st)).t.get B=some b->(B=A/\b=.row H st)\/(B≠A/\h.t.get B=some b):=fun O=>Tr.get_set O;have I:∀ {B:Nat} {b:Blk},(h.put A (.row H st)).t.get B=some b->∃ p,h.t.get B=some p/\p.live=b.live/\p.isRo=b.isRo:=by
  intro B b O;rcases X O with ⟨rfl,rfl⟩ | ⟨_,S⟩
  ·refine ⟨_,hg,?_⟩
   rcases J with rfl | rfl | ⟨_,rfl⟩ | ⟨_,rfl⟩ <;> exact ⟨rfl,rfl⟩
  grind
 refine ⟨W,?_,⟨?_,?_,?_,R.pin⟩,⟨Mu.le_refl μ,xD _,fun _ _ h=>.inl h,?_,?_,?_,?_,?_,?_⟩⟩
 ·intro j Z
  have S:=U j Z
  have:=r.fits
  rw [show l.sh+off+j=l.sh+(off+j) from by omega];exact K _ (by omega)
 ·intro B k L;have:=R.dom B k L;exact ⟨this.1,by rw [fI];exact this.2⟩
 ·intro B C lb lc bb bc O hc gb gc vb vc Q a2
  have ⟨p,g0,v0,r0⟩:=I gb;have ⟨Y,g1,v1,r1⟩:=I gc
  have:=R.inj B C lb lc p Y O hc g0 g1 (v0.trans vb) (v1.trans vc) Q a2
  grind
 ·intro B k b L O
  rcases X O with ⟨rfl,rfl⟩ | ⟨Q,S⟩
  ·have:k=l:=by grind
   subst this;have u:RowR μ (cT w k.b (k.sh+off) M) k H:=by
    refine ⟨by rw [bJ];exact r.shape,by rw [o1];exact r.fits,fun i x hi=>?_⟩;have a6:i<cs.length:=by grind
    by_cases c1:i<off
    ·rw [o3 i c1] at hi
     have ⟨y,h2,h3⟩:=r.cell i x hi
     grind [lG]
    ·by_cases c2:off+vs.length<=i
     ·rw [o5 i c2] at hi
      have ⟨y,h2,h3⟩:=r.cell i x hi
      grind [lG]
     ·obtain ⟨j,rfl⟩:∃ j,i=off+j:=⟨i-off,by omega⟩
      have Z:j<vs.length:=by omega
      rw [o4 j Z] at hi;have ⟨y,h2,h3⟩:=hv.get hi;refine ⟨y,?_,h3⟩;rw [show k.sh+(off+j)=k.sh+off+j from by omega];exact uJ _ _ _ _ _ _ h2 (W j (by omega))
   have f:Free (cT w k.b (k.sh+off) M) k:=fun i hi=>by rw [wM];exact K i hi
   rcases J with rfl | rfl | ⟨_,rfl⟩ | ⟨_,rfl⟩
   ·exact ⟨u,F.2.1,F.2.2.1,by rw [o1];exact F.2.2.2.1,f⟩
   ·exact ⟨u,F.2.1,f⟩
   ·exact ⟨⟨u,F.1.2.1,f⟩,by rw [bJ];exact F.2.1,F.2.2⟩
   ·exact ⟨⟨u,F.1.2.1,F.1.2.2.1,by rw [o1];exact F.1.2.2.2.1,f⟩,by rw [bJ];exact F.2⟩
  ·by_cases hd:b.live=true
   ·have a0:k.b≠l.b:=by
     intro e
     have:=(R.inj B A k l b _ L hA S hg hd (by rcases J with rfl | rfl | ⟨_,rfl⟩ | ⟨_,rfl⟩ <;> rfl) Q e).2
     rcases J with rfl | rfl | ⟨_,rfl⟩ | ⟨_,rfl⟩ <;> simp [Blk.isRo] at this
    exact BR.heap (kK _ a0 _ _ _) (R.blk B k b L S)
   ·cases b with
    | row a4 V=>cases V <;> simp [Blk.live] at hd;trivial
    | map=>simp [Blk.live] at hd
    | siter=>simp [Blk.live] at hd
 ·rintro B a5 ⟨b,O,a1⟩
  have ⟨p,g0,_,r0⟩:=I O;exact ⟨p,g0,r0.trans a1⟩
 ·intro k hk hm
  refine kK _ ?_ _ _ _;intro e;refine hm A l hA e.symm ⟨_,hg,?_⟩;rcases J with rfl | rfl | ⟨_,rfl⟩ | ⟨_,rfl⟩ <;> rfl
 ·rw [fI];exact xD _
 ·exact (cM _ _ _ _).1
 ·exact (cM _ _ _ _).2.1
 ·exact (cM _ _ _ _).2.2
def aAb (ok:EnvOK E P) (S:HR μ h w) {t:TypeId} {av x:AV} {v u:Value} {h':Heap} (K:VR μ av v) (U:VR μ x u) (f:bA8 E h t av x=some h') :
  ∃ w',(Instr.storeAt t v u).run P w=.ok () w'/\HR μ h' w'/\Ext μ h w μ h' w':=by
 unfold bA8 at f
 split at f
 ·rename_i A off
  simp only [VR] at K;obtain ⟨l,Q,rfl⟩:=K
  cases I:E.size t with
  | none=>simp [I] at f
  | some n=>
   simp only [I] at f
   split at f
   ·rename_i F
    simp only [xG,xU,List.all_eq_true] at F
    cases H:h.rowW A with
    | none=>simp [H] at f
    | some p=>
     have ⟨cs,st⟩:=p;simp only [H] at f
     cases C:over off cs x.cells with
     | none=>simp [C] at f
     | some R=>
      simp [C] at f;subst f;have ⟨M,J⟩:=lBa H;have j:=U.cells;have ⟨Y,Z,X,W⟩:=S.write Q M J C j;refine ⟨_,?_,X,W⟩;have r:u.cells.size=n:=by have:=j.length;simpa [F.1] using this
      have L:∀ z∈u.cells.toList,z.oneCell'=true:=by
       intro z V;obtain ⟨i,hi,rfl⟩:=List.mem_iff_getElem.1 V;have B:i<x.cells.length:=by grind
       have ⟨y,h5,O⟩:=j.get (i:=i) (x:=x.cells[i]) (by simp [B])
       have:y=u.cells.toList[i]:=by grind
       rw [<- this];exact O.single (F.2 _ (xR B))
      simp only [Instr.storeAt,Instr.sureAddr,Sem.run_bind,Sem.run_pure,Result.andThen_ok,storeVar,lD ok I,r,ne_eq,not_true_eq_false,xL]
      grind [mG]
   ·simp at f
 ·simp at f
end
end Ai
namespace Ai
theorem jBi (k:IntKind):(2 ^ k.bits:Int)=(pw k:Int):=by cases k <;> rfl
def gB8 (k:IntKind):0<pw k:=by cases k <;> decide
def mBa (k:IntKind):(2 ^ (k.bits-1):Int)=((pw k / 2:Nat):Int):=by cases k <;> rfl
theorem vAj (k:IntKind) (n:Int):(n % (pw k:Int))=(dB8 k n:Int):=by
 have f:=gB8 k
 cases n with
 | ofNat a=>simp [dB8]
 | negSucc a=>
  simp only [dB8];rw [Int.negSucc_emod _ (by omega)]
  have:a % pw k<pw k:=Nat.mod_lt _ f
  omega
theorem gB4 (k:IntKind) (m:Nat) (f:m<pw k):wrapN k m=if k.signed&&decide ((m:Int)≥(2 ^ (k.bits-1):Int)) then (m:Int)-(2 ^ k.bits:Int) else m:=by
 rw [mBa,jBi];unfold wrapN;have h:Nat.ble (pw k / 2) m=decide ((m:Int)≥((pw k / 2:Nat):Int)):=by
  rw [Bool.eq_iff_iff];simp;omega
 grind
theorem bN (k:IntKind) (n:Int):fB k n=k.wrap n:=by
 have e:fB k n=wrapN k (dB8 k n):=by cases n <;> rfl
 have f:dB8 k n<pw k:=by
  have:=Int.emod_lt_of_pos n (show (0:Int)<pw k by have:=gB8 k;omega)
  rw [vAj] at this;omega
 grind [gB4,IntKind.wrap,vAj,jBi]
theorem qA1 (a b:Int):pA a b=(a == b):=by
 rw [Bool.eq_iff_iff,beq_iff_eq];cases a <;> cases b <;> simp [pA] <;> omega
theorem rA1 (a b:Int):ltInt a b=decide (a<b):=by
 unfold ltInt;rw [Bool.eq_iff_iff]
 split
 ·rename_i n j
  have h:b-a=(n:Int):=j
  by_cases f:n=0
  ·subst f;simp;omega
  ·simp [bf f];omega
 grind
def qAo (a b:Int):cD a b=decide (a<=b):=by
 unfold cD;rw [Bool.eq_iff_iff]
 split
 ·grind
 grind
theorem tH:∀ (x y:List UInt8),bB x y=(x == y)
 | [],[]=>rfl
 | [],_::_=>rfl
 | _::_,[]=>rfl
 | a::x,b::y=>by
  simp only [bB];rw [tH x y]
  have:Nat.beq a.toNat b.toNat=(a == b):=by
   rw [Bool.eq_iff_iff];simp [UInt8.toNat_inj]
  grind
def eA8:∀ (x y:List UInt8),kP x y=Op.bytesLess x y
 | _,[]=>by simp [kP,Op.bytesLess]
 | [],_::_=>rfl
 | a::x,b::y=>by
  simp only [kP,Op.bytesLess];rw [eA8 x y];have f:Nat.blt a.toNat b.toNat=decide (a<b):=by
   rw [Bool.eq_iff_iff];simp [UInt8.lt_iff_toNat_lt]
  have h:Nat.beq a.toNat b.toNat=(a == b):=by
   rw [Bool.eq_iff_iff];simp [UInt8.toNat_inj]
  grind
def mP:∀ (x y:List UInt8),(!Op.bytesLess y x)=(Op.bytesLess x y||x == y)
 | [],[]=>rfl
 | [],_::_=>rfl
 | _::_,[]=>rfl
 | a::x,b::y=>by
  simp only [Op.bytesLess];have f:=mP x y
  grind
section
variable {E:Env} {P:Program} {μ:Mu} {h:Heap} {w:World}
theorem tA1 (k:IntKind) (x:Int):(BitVec.ofInt k.bits x).toNat=dB8 k x:=by
 rw [BitVec.toNat_ofInt];have f:((2 ^ k.bits:Nat):Int)=(pw k:Int):=by cases k <;> rfl
 rw [f,vAj];simp
def fA8 {op:BinOp} {k:IntKind} {x y:Int} {v:AV} (f:oAv op k x y=some v):∃ u,(Op.intBits op k x y).run P w=.ok u w/\VR μ v u:=by
 unfold oAv at f;unfold Op.intBits;cases op <;> simp at f <;> subst f <;> simp only [VR,bN]
 ·exact ⟨_,rfl,by grind [BitVec.toNat_and,tA1]⟩
 ·exact ⟨_,rfl,by grind [BitVec.toNat_or,tA1]⟩
 ·exact ⟨_,rfl,by grind [BitVec.toNat_xor,tA1]⟩
 ·refine ⟨_,rfl,?_⟩
  have e:(BitVec.ofInt k.bits x &&& ~~~BitVec.ofInt k.bits y)=BitVec.ofInt k.bits x ^^^ (BitVec.ofInt k.bits x &&& BitVec.ofInt k.bits y):=by
   grind
  grind [BitVec.toNat_xor,BitVec.toNat_and,tA1]
def qAf {op:BinOp} {k:IntKind} {x y:Int} {v:AV} (p:op≠.shl) (r:op≠.shr) (f:kAo op k x y=some v) (t:TypeId) :
  ∃ u,(binOp op t (.int k x) (.int k y)).run P w=.ok u w/\VR μ v u:=by
 cases op <;> simp only [kAo,qA1,rA1,qAo,bN,xF,reduceCtorEq] at f
 case quo | rem=>
  cases j:(y == 0) with
  | true=>simp [j] at f
  | false=>
   simp [j] at f
   have:y≠0:=by simpa using j
   subst f;simp [binOp,Op.intDiv,this,VR]
 case and | or | xor | andNot=>
  have:=fA8 (P:=P) (w:=w) (μ:=μ) f
  simpa [binOp] using this
 all_goals (first | exact absurd rfl p | exact absurd rfl r | (subst f;simp [binOp,Op.intArith,Op.intCmp,VR,bne]))
def gA3 {op:BinOp} {k yk:IntKind} {x y:Int} {v:AV} (f:cA8 op k x y=some v):∃ u,(Op.shift op k x yk y).run P w=.ok u w/\VR μ v u:=by
 unfold cA8 at f
 cases y with
 | negSucc m=>simp at f
 | ofNat m=>
  cases op <;> simp at f <;> subst f <;> simp [Op.shift,VR,bN] <;> (intro j;omega)
def rAf {op:BinOp} {x y:List UInt8} {v:AV} (j:fC op x y=some v):∃ u,(Op.stringOp op ⟨x.toArray⟩ ⟨y.toArray⟩).run P w=.ok u w/\VR μ v u:=by
 cases op <;> simp only [fC,tH,eA8,xF,reduceCtorEq] at j
 case add=>
  cases r:Nat.ble (x.length+y.length) 1099511627776 with
  | false=>simp [r] at j
  | true=>
   simp [r] at j;subst j;have A:x.length+y.length<=1099511627776:=by simpa using r
   have B:(⟨x.toArray⟩:ByteArray).size=x.length:=rfl;have p:(⟨y.toArray⟩:ByteArray).size=y.length:=rfl;have f:IntKind.i64.max=9223372036854775807:=by decide
   have:¬ ((x.length+y.length:Nat):Int) > IntKind.i64.max:=by rw [f];omega
   refine ⟨.string (⟨x.toArray⟩++⟨y.toArray⟩),?_,?_⟩
   ·simp only [Op.stringOp,B,p]
    rw [if_neg this];rfl
   ·simp only [VR]
    congr 1
 all_goals (subst j;simp only [Op.stringOp,VR,ByteArray.toList_mk,<- mP,Bool.not_not])
 all_goals exact ⟨_,rfl,rfl⟩
end
end Ai
namespace Ai
section
variable {E:Env} {P:Program} {μ:Mu} {h:Heap} {w:World}
def fK (ok:EnvOK E P) {t:TypeId} {cs:List AV} {p:Array Value} {off:Nat} {x:AV} (C:VRs μ cs p.toList) (f:rT E t cs off=some x) :
  ∃ y,(part t p off).run P w=.ok y w/\VR μ x y:=by
 unfold rT at f
 cases r:E.isAgg t with
 | none=>simp [r] at f
 | some b=>
  cases b with
  | true=>
   simp only [r] at f
   cases B:E.size t with
   | none=>simp [B] at f
   | some n=>
    simp only [B] at f
    cases u:takeN n (cs.drop off) with
    | none=>simp [u] at f
    | some l=>
     simp [u] at f;subst f;obtain ⟨rfl,_⟩:=cK u;refine ⟨.agg (p.extract off (off+n)),?_,?_⟩
     ·simp [part,yM ok r,lD ok B]
     ·simp only [VR]
      refine ⟨_,rfl,?_⟩
      have:=VRs.take n (VRs.drop off C)
      simpa using this
  | false=>
   simp only [r] at f
   cases hd:cs.drop off with
   | nil=>simp [hd] at f
   | cons z zs=>
    simp [hd] at f;subst f;have H:cs[off]? = some z:=by
     have:=List.getElem?_drop (xs:=cs) (i:=off) (j:=0)
     grind
    have ⟨y,F,I⟩:=C.get H;have A:p[off]? = some y:=by simpa using F
    exact ⟨y,by simp [part,yM ok r,A],I⟩
def aAw (t:TypeId) (cs:List AV) (k:Nat):rT E t (cs.drop k) 0=rT E t cs k:=by
 unfold rT;simp
def iA3 (ok:EnvOK E P) {t:TypeId} {n:Nat} (f:E.size t=some n):∃ i,P.info? t=some i/\i.size=n/\P.cellsOf t=n:=by
 unfold Env.size at f
 cases hi:E.info t with
 | none=>simp [hi] at f
 | some i=>
  simp [hi] at f
  have:=ok.info t i hi
  grind [Program.cellsOf]
def bAw (ok:EnvOK E P):∀ (d:Nat) (t:TypeId) (x y:AV) (v u:Value) (b:Bool),eqA E d t x y=some b->VR μ x v->VR μ y u->∀ D,d<=D->(Op.equalIn D t v u).run P w=.ok b w:=by
 intro d
 induction d with
 | zero=>intro t x y v u b C;simp [eqA] at C
 | succ d ih=>
  intro t x y v u b C H F D hD;obtain ⟨D,rfl⟩:∃ D',D=D'+1:=⟨D-1,by omega⟩;have Z:d<=D:=by omega
  simp only [eqA] at C
  split at C
  case h_1 hu=>
   simp only [VR] at H F;subst H F;simp at C;subst C;rename_i a c
   have:=run_equalIn_bool' (P:=P) w D t a c (aB ok hu)
   rw [this];cases a <;> cases c <;> rfl
  case h_2 hu=>
   grind [VR,eM,run_equalIn_int,aB,qA1]
  case h_3 hu=>
   simp only [VR] at H F;subst H F;simp at C;subst C;rw [run_equalIn_string w D t _ _ (aB ok hu),tH];simp
  case h_4 e a c hu=>
   cases O:E.size e with
   | none=>simp [O] at C
   | some n=>
    cases n with
    | zero=>simp [O] at C
    | succ n=>
     simp only [O] at C;have a0:=lD (w:=w) ok O
     cases a with
     | none=>
      simp only [VR] at H;subst H
      cases c with
      | none=>simp only [VR] at F;subst F;simp [dAs] at C;subst C;simp [Op.equalIn,pB (aB ok hu)]
      | some q=>have ⟨B,j⟩:=q;simp only [VR] at F;obtain ⟨l,_,rfl⟩:=F;simp [dAs] at C;subst C;simp [Op.equalIn,pB (aB ok hu)]
     | some p=>
      have ⟨A,i⟩:=p;simp only [VR] at H;obtain ⟨l,hl,rfl⟩:=H
      cases c with
      | none=>simp only [VR] at F;subst F;simp [dAs] at C;subst C;simp [Op.equalIn,pB (aB ok hu)]
      | some q=>
       have ⟨B,j⟩:=q;simp only [VR] at F;obtain ⟨l',a2,rfl⟩:=F;simp only [dAs] at C
       cases Q:Nat.beq A B with
       | false=>simp [Q] at C
       | true=>
        simp [Q] at C
        have:A=B:=xK Q
        subst this
        have:l=l':=by grind
        subst this;subst C;simp only [Op.equalIn,pB (aB ok hu),Sem.run_bind,Result.andThen_ok,a0,ne_eq,Nat.succ_ne_zero,not_false_eq_true,xM,sameAddr,beq_self_eq_true]
        have:((⟨l.b,l.sh+i,none⟩:Addr) == ⟨l.b,l.sh+j,none⟩)=Nat.beq i j:=by
         rw [Bool.eq_iff_iff];simp
        simp [this]
  case h_5 hu=>simp only [VR] at H F;subst H F;simp at C;subst C;simp [Op.equalIn,pB (aB ok hu)]
  case h_6 hu=>simp only [VR] at H F;subst H;obtain ⟨_,rfl,_⟩:=F;simp at C;subst C;simp [Op.equalIn,pB (aB ok hu)]
  case h_7 hu=>simp only [VR] at H F;subst F;obtain ⟨_,rfl,_⟩:=H;simp at C;subst C;simp [Op.equalIn,pB (aB ok hu)]
  case h_8 ms tx vx ty vy hu=>
   simp only [VR] at H F;obtain ⟨x',rfl,H⟩:=H;obtain ⟨y',rfl,F⟩:=F
   cases ht:Nat.beq tx ty with
   | false=>
    simp [ht] at C;subst C
    have:tx≠ty:=fun e=>by simp_all
    simp [Op.equalIn,pB (aB ok hu),this]
   | true=>
    simp only [ht,xA] at C
    have:tx=ty:=xK ht
    subst this
    cases hi:E.info tx with
    | none=>simp [hi] at C
    | some i=>
     simp only [hi] at C
     cases I:i.comparable with
     | false=>simp [I] at C
     | true=>
      simp only [I,xA] at C;simp only [Op.equalIn,pB (aB ok hu),Sem.run_bind,Result.andThen_ok,ne_eq,not_true_eq_false,xL,pH (ok.info _ _ hi),I,xV,xE]
      grind
  case h_9 hu=>
   rename_i q _ _ _;simp only [VR] at H;obtain ⟨rfl,_⟩:=H;simp at C;subst C
   cases q with
   | none=>simp only [VR] at F;obtain ⟨rfl,_⟩:=F;simp [Op.equalIn,pB (aB ok hu)]
   | some p=>have ⟨A,off⟩:=p;simp only [VR] at F;obtain ⟨_,_,_,_,rfl,_⟩:=F;simp [Op.equalIn,pB (aB ok hu)]
  case h_10 hu=>
   rename_i p _ _ _ _ _ _;have ⟨A,off⟩:=p;simp only [VR] at H F;obtain ⟨rfl,_⟩:=F;obtain ⟨_,_,_,_,rfl,_⟩:=H;simp at C;subst C;simp [Op.equalIn,pB (aB ok hu)]
  case h_11 hu=>
   rename_i q;simp only [VR] at H;subst H;simp at C;subst C
   cases q with
   | none=>simp only [VR] at F;subst F;simp [Op.equalIn,pB (aB ok hu)]
   | some p=>simp only [VR] at F;obtain ⟨_,_,rfl⟩:=F;simp [Op.equalIn,pB (aB ok hu)]
  case h_12 hu=>
   simp only [VR] at H F;subst F;obtain ⟨_,_,rfl⟩:=H;simp at C;subst C;simp [Op.equalIn,pB (aB ok hu)]
  case h_13 hu=>simp only [VR] at H F;subst H F;simp at C;subst C;simp [Op.equalIn,pB (aB ok hu)]
  case h_14 hu=>simp only [VR] at H F;subst H;obtain ⟨_,_,rfl,_⟩:=F;simp at C;subst C;simp [Op.equalIn,pB (aB ok hu)]
  case h_15 hu=>simp only [VR] at H F;subst F;obtain ⟨_,_,rfl,_⟩:=H;simp at C;subst C;simp [Op.equalIn,pB (aB ok hu)]
  case h_16 len e xs ys hu=>
   simp only [VR] at H F;obtain ⟨L,rfl,H⟩:=H;obtain ⟨J,rfl,F⟩:=F
   cases O:E.size e with
   | none=>simp [O] at C
   | some n=>
    simp only [O] at C;have ⟨i,hi,_,I⟩:=iA3 ok O;rw [run_equalIn_array w D L J (aB ok hu) hi,I,List.range_eq_range'];have key:∀ (len k:Nat),nAv E (eqA E d e) e n len (xs.drop (k * n)) (ys.drop (k * n))=some b->(Op.eqItems D e n L J (List.range' k len)).run P w=.ok b w:=by
     intro len
     induction len with
     | zero=>intro k M;simp [nAv] at M;subst M;simp [Op.eqItems]
     | succ len a1=>
      intro k M;simp only [nAv,aAw] at M
      cases K:rT E e xs (k * n) with
      | none=>simp [K] at M
      | some a=>
       cases R:rT E e ys (k * n) with
       | none=>simp [K,R] at M
       | some c=>
        simp only [K,R] at M;have ⟨a',ha,S⟩:=fK (w:=w) ok H K;have ⟨c',U,V⟩:=fK (w:=w) ok F R
        cases X:eqA E d e a c with
        | none=>simp [X] at M
        | some r=>
         have:=ih e a c a' c' r X S V D Z
         simp only [List.range'_succ,Op.eqItems,Sem.run_bind,ha,U,this,Result.andThen_ok]
         cases r with
         | false=>simp_all
         | true=>
          simp only [X,List.drop_drop] at M
          grind
    grind
  case h_17 fs xs ys hu=>
   simp only [VR] at H F;obtain ⟨L,rfl,H⟩:=H;obtain ⟨J,rfl,F⟩:=F
   cases I:E.cmp t with
   | false=>simp [I] at C
   | true=>
    simp only [I,xA] at C;have Y:P.fieldsOf t=fs:=by grind [Program.fieldsOf,aB]
    rw [run_equalIn_struct w D t L J (by rw [Y];exact aB ok hu) (ok.cmp t I).1,Y];generalize fs.toList=l at C
    induction l with
    | nil=>simp [eqFields] at C;subst C;simp [Op.eqFields]
    | cons f l a1=>
     simp only [eqFields] at C
     split at C
     ·simp at C
     ·rename_i W
      cases K:rT E f.type xs f.offset with
      | none=>simp [K] at C
      | some a=>
       cases R:rT E f.type ys f.offset with
       | none=>simp [K,R] at C
       | some c=>
        simp only [K,R] at C;have ⟨a',ha,S⟩:=fK (w:=w) ok H K;have ⟨c',U,V⟩:=fK (w:=w) ok F R
        cases X:eqA E d f.type a c with
        | none=>simp [X] at C
        | some r=>
         have:=ih f.type a c a' c' r X S V D Z
         simp only [Op.eqFields,ne_eq,W,not_false_eq_true,xM,Sem.run_bind,ha,U,this,Result.andThen_ok]
         cases r
         ·simp_all
         ·grind
  case h_18=>simp at C
end
end Ai
namespace Ai
section
variable {E:Env} {P:Program} {μ:Mu} {h:Heap} {w:World}
def PV (P:Program) (s:Sem Value) (w:World) (μ:Mu) (x:AV):Prop:=∃ u,s.run P w=.ok u w/\VR μ x u
def iB4 {op:UnOp} {v x:AV} {u:Value} (f:unA op v=some x) (j:VR μ v u):PV P (Op.unary op u) w μ x:=by
 unfold unA at f
 split at f
 ·simp only [VR] at j;subst j;simp at f;subst f
  exact ⟨_,rfl,by simp only [VR,bN,Int.zero_sub]⟩
 ·simp only [VR] at j;subst j
  exact fA8 (P:=P) (w:=w) f
 ·simp only [VR] at j;subst j;simp at f;subst f
  exact ⟨_,rfl,by simp only [VR]⟩
 ·simp at f
theorem fAs {op:BinOp} {t:TypeId} {xo yo:Operand} {k f:IntKind} {a b:Int} {x:AV} (j:eBa op k f a b=some x) :
  PV P (do eqGuard op t xo yo (.int k a) (.int f b);binOp op t (.int k a) (.int f b)) w μ x:=by
 have C:(eqGuard op t xo yo (.int k a) (.int f b)).run P w=.ok () w:=by cases op <;> rfl
 unfold eBa at j
 split at j
 ·have ⟨y,u,p⟩:=gA3 (P:=P) (w:=w) (μ:=μ) (yk:=f) j
  exact ⟨y,by grind [Sem.run_bind,Result.andThen_ok,binOp],p⟩
 ·have ⟨y,u,p⟩:=gA3 (P:=P) (w:=w) (μ:=μ) (yk:=f) j
  exact ⟨y,by grind [Sem.run_bind,Result.andThen_ok,binOp],p⟩
 ·rename_i op A B
  cases r:eM k f with
  | false=>simp [r] at j
  | true=>
   simp only [r,xA] at j
   have:k=f:=by simpa [eM] using r
   subst this;have ⟨y,u,p⟩:=qAf (P:=P) (w:=w) (μ:=μ) (fun e=>A e) (fun e=>B e) j t;exact ⟨y,by simp_all,p⟩
theorem gAs {op:BinOp} {t:TypeId} {xo yo:Operand} {a b:List UInt8} {x:AV} (f:fC op a b=some x) :
  PV P (do eqGuard op t xo yo (.string ⟨a.toArray⟩) (.string ⟨b.toArray⟩);binOp op t (.string ⟨a.toArray⟩) (.string ⟨b.toArray⟩)) w μ x:=by
 have u:(eqGuard op t xo yo (.string ⟨a.toArray⟩) (.string ⟨b.toArray⟩)).run P w=.ok () w:=by cases op <;> rfl
 have ⟨y,j,p⟩:=rAf (P:=P) (w:=w) (μ:=μ) f;refine ⟨y,?_,p⟩;simp only [Sem.run_bind,u,Result.andThen_ok]
 have:∀ op (s r:ByteArray),op≠.shl->op≠.shr->binOp op t (.string s) (.string r)=Op.stringOp op s r:=by intro op s r j p;cases op <;> first | rfl | exact absurd rfl j | exact absurd rfl p
 rw [this]
 ·exact j
 ·rintro rfl;simp [fC] at f
 ·rintro rfl;simp [fC] at f
def VR.ptr_form {p:Option (Nat×Nat)} {v:Value} (f:VR μ (.ptr p) v):∃ j,v=.pointer j:=by
 cases p with
 | none=>simp only [VR] at f;exact ⟨_,f⟩
 | some q=>have ⟨A,o⟩:=q;simp only [VR] at f;grind
def VR.slice_form {p:Option (Nat×Nat)} {len cap sz:Nat} {v:Value} (f:VR μ (.slice p len cap sz) v):∃ j c,v=.slice j len c:=by
 cases p with
 | none=>simp only [VR] at f;grind
 | some q=>have ⟨A,o⟩:=q;simp only [VR] at f;grind
def VR.map_form {p:Option Nat} {v:Value} (f:VR μ (.map p) v):∃ j,v=.map j:=by
 cases p with
 | none=>simp only [VR] at f;exact ⟨_,f⟩
 | some q=>simp only [VR] at f;grind
def tAf (ok:EnvOK E P) {t:TypeId} {xo yo:Operand} {v u:AV} {a b:Value} {r:Bool} (y:rB3 E t xo yo v u=some r) (j:VR μ v a) (p:VR μ u b) :
  (eqGuard .eql t xo yo a b).run P w=.ok () w/\(eqGuard .neq t xo yo a b).run P w=.ok () w/\(binOp .eql t a b).run P w=.ok (.bool r) w/\(binOp .neq t a b).run P w=.ok (.bool (!r)) w:=by
 have B:∀ r,eqA E 9 t v u=some r->(Op.equal t a b).run P w=.ok r w:=fun r K=>bAw ok 9 t v u a b r K j p 10000 (by omega);unfold rB3 at y
 split at y
 ·simp only [VR] at j p;subst j p
  cases A:(iR xo||iR yo) with
  | false=>simp [A] at y
  | true=>
   simp only [A,xA] at y;have f:=B r y;refine ⟨?_,?_,?_,?_⟩
   ·cases xo <;> cases yo <;> first | (simp [iR] at A;done) | rfl
   ·cases xo <;> cases yo <;> first | (simp [iR] at A;done) | rfl
   ·simp [binOp,f]
   ·simp [binOp,f]
 ·rename_i xs ys
  cases A:E.cmp t
  ·simp [A] at y
  ·simp only [A,xA] at y;have f:=B r y;simp only [VR] at j p;obtain ⟨F,rfl,_⟩:=j;obtain ⟨C,rfl,_⟩:=p;exact ⟨run_eqGuard_agg w _ t xo yo F C (ok.cmp t A).2,run_eqGuard_agg w _ t xo yo F C (ok.cmp t A).2,by simp [binOp,f],by simp [binOp,f]⟩
 ·cases H:pAv v u with
  | false=>simp [H] at y
  | true=>
   simp only [H,xA] at y;have f:=B r y
   clear y B
   cases v <;> cases u <;> simp [pAv] at H
   case bool.bool=>simp only [VR] at j p;subst j p;exact ⟨rfl,rfl,by simp [binOp,f],by simp [binOp,f]⟩
   case ptr.ptr=>obtain ⟨I,rfl⟩:=j.ptr_form;obtain ⟨J,rfl⟩:=p.ptr_form;exact ⟨rfl,rfl,by simp [binOp,f],by simp [binOp,f]⟩
   case slice.slice=>obtain ⟨I,c,rfl⟩:=j.slice_form;obtain ⟨J,L,rfl⟩:=p.slice_form;exact ⟨rfl,rfl,by simp [binOp,f],by simp [binOp,f]⟩
   case map.map=>obtain ⟨I,rfl⟩:=j.map_form;obtain ⟨J,rfl⟩:=p.map_form;exact ⟨rfl,rfl,by simp [binOp,f],by simp [binOp,f]⟩
   case iface.iface=>simp only [VR] at j p;obtain ⟨_,rfl,_⟩:=j;obtain ⟨_,rfl,_⟩:=p;exact ⟨rfl,rfl,by simp [binOp,f],by simp [binOp,f]⟩
   case iface.nilIface=>simp only [VR] at j p;obtain ⟨_,rfl,_⟩:=j;subst p;exact ⟨rfl,rfl,by simp [binOp,f],by simp [binOp,f]⟩
   case nilIface.iface=>simp only [VR] at j p;obtain ⟨_,rfl,_⟩:=p;subst j;exact ⟨rfl,rfl,by simp [binOp,f],by simp [binOp,f]⟩
   case nilFunc.nilFunc=>simp only [VR] at j p;subst j p;exact ⟨rfl,rfl,by simp [binOp,f],by simp [binOp,f]⟩
   case nilFunc.func=>simp only [VR] at j p;obtain ⟨_,_,rfl,_⟩:=p;subst j;exact ⟨rfl,rfl,by simp [binOp,f],by simp [binOp,f]⟩
   case func.nilFunc=>simp only [VR] at j p;obtain ⟨_,_,rfl,_⟩:=j;subst p;exact ⟨rfl,rfl,by simp [binOp,f],by simp [binOp,f]⟩
def cAw (ok:EnvOK E P) {op:BinOp} {t:TypeId} {xo yo:Operand} {v u x:AV} {a b:Value} (f:tM E op t xo yo v u=some x) (p:VR μ v a) (y:VR μ u b) :
  PV P (do eqGuard op t xo yo a b;binOp op t a b) w μ x:=by
 unfold tM at f
 split at f
 ·grind [VR,fAs]
 ·grind [VR,gAs]
 ·unfold bBi at f
  split at f
  ·cases j:rB3 E t xo yo v u with
   | none=>simp [j] at f
   | some r=>
    simp [j] at f;subst f;have ⟨A,_,B,_⟩:=tAf (w:=w) ok j p y;exact ⟨.bool r,by simp_all,by simp only [VR]⟩
  ·cases j:rB3 E t xo yo v u with
   | none=>simp [j] at f
   | some r=>
    simp [j] at f;subst f;have ⟨_,A,_,B⟩:=tAf (w:=w) ok j p y;exact ⟨.bool (!r),by simp_all,by simp only [VR]⟩
  ·simp at f
def tX {v:AV} {n:Nat} (h:rA0 v=some n):∃ k,v=.int k n:=by
 unfold rA0 at h
 split at h <;> simp at h
 simp_all
theorem dAw {v:Value} {k:IntKind} {n f:Nat} (c:BoundsCode) (p:v=.int k n) (r:n<=f):(Instr.sliceBound v f c).run P w=.ok n w:=by
 subst p;have j:(0:Int)<=(n:Int)/\(n:Int)<=(f:Int):=by omega
 simp [Instr.sliceBound,asIntOf,j]
def OR (μ:Mu):Option AV->Option Value->Prop
 | none,none=>True
 | some v,some u=>VR μ v u
 | _,_=>False
def jA3 {x:Option AV} {A:Option Value} {f p j n:Nat} (c:BoundsCode) (B:OR μ x A) (H:f<=p) (y:gG x f j=some n) :
  (∀ u,A=some u->(Instr.sliceBound u p c).run P w=.ok n w)/\(A=none->n=j)/\(x=none->n=j)/\(x≠none->n<=f):=by
 cases x with
 | none=>
  cases A with
  | none=>simp [gG] at y;grind
  | some u=>exact B.elim
 | some v=>
  cases A with
  | none=>exact B.elim
  | some u=>
   simp only [OR] at B;simp only [gG] at y
   cases C:rA0 v with
   | none=>simp [C] at y
   | some m=>
    simp only [C] at y
    cases r:Nat.ble m f with
    | false=>simp [r] at y
    | true=>
     simp [r] at y;subst y;have F:m<=f:=by simpa using r
     obtain ⟨k,rfl⟩:=tX C
     grind [VR,dAw]
def mL {isS:Bool} {F hi:Option AV} {f p:Option Value} {len cap cap' j y:Nat} (A:OR μ F f) (B:OR μ hi p)
  (r:cap<=cap') (C:len<=cap) (J:gG hi cap len=some j) (K:gG F j 0=some y) :
  (Instr.sliceBounds isS len cap' f p none).run P w=.ok (y,j,cap') w/\j<=cap/\y<=j:=by
 have ⟨Q,M,O,V⟩:=jA3 (P:=P) (w:=w) (if isS then BoundsCode.sliceAcap else .sliceAlen) B r J;have ⟨H,U,R,S⟩:=jA3 (P:=P) (w:=w) BoundsCode.sliceB A (xD j) K;have I:j<=cap:=by
  grind
 have L:y<=j:=by
  grind
 refine ⟨?_,I,L⟩;unfold Instr.sliceBounds
 cases p with
 | none=>
  have e:=M rfl;subst e
  cases f with
  | none=>simp_all
  | some v=>simp [H v rfl]
 | some u=>
  cases f with
  | none=>simp_all
  | some v=>simp_all
end
end Ai
namespace Ai
section
variable {E:Env} {P:Program} {μ:Mu} {h:Heap} {w:World}
theorem gZ (s:List UInt8) (l n:Nat):(⟨s.toArray⟩:ByteArray).extract l n=⟨((s.take n).drop l).toArray⟩:=by
 apply ByteArray.ext
 grind [ByteArray.data_extract,List.drop_take]
def dT (ok:EnvOK E P) (Q:HR μ h w) {n A off:Nat} {e:TypeId} {H hi:Option AV} {y u:Option Value} {l:Loc} {x:AV} (M:μ A=some l) (B:OR μ H y) (I:OR μ hi u)
  (f:lA1 E h n e A off H hi=some x) :
  ∃ p r sz,(Instr.sliceBounds false n n y u none).run P w=.ok (p,r,n) w/\(sizeOf e).run P w=.ok sz w/\
   VR μ x (.slice (some (if n=p then ⟨l.b,l.sh+off,none⟩ else (⟨l.b,l.sh+off,none⟩:Addr).add (p * sz))) (r-p) (n-p)):=by
 unfold lA1 at f
 cases J:E.size e with
 | none=>simp [J] at f
 | some sz=>
  simp only [J] at f
  cases j:h.row A with
  | none=>simp [j] at f
  | some cs=>
   simp only [j] at f
   cases K:Nat.ble (off+n * sz) cs.length with
   | false=>simp [K] at f
   | true=>
    simp only [K,xA] at f;have R:off+n * sz<=cs.length:=by simpa using K
    have L:=(Q.row M j).fits
    cases C:gG hi n n with
    | none=>simp [C] at f
    | some r=>
     simp only [C] at f
     cases F:gG H r 0 with
     | none=>simp [F] at f
     | some p=>
      simp only [F,xF] at f;subst f;have ⟨O,U,V⟩:=mL (P:=P) (w:=w) (isS:=false) B I (xD n) (xD n) C F;refine ⟨p,r,sz,O,lD ok J,?_⟩;simp only [VR];refine ⟨l,_,_,M,rfl,by omega,?_⟩
      by_cases S:n=p
      ·grind
      ·right
       rw [if_neg S,eI];refine ⟨by rw [Nat.add_assoc],xD _,?_,fun _=>rfl⟩
       have:p * sz+(n-p) * sz=n * sz:=by rw [<- Nat.add_mul];congr 1;omega
       omega
def wAj (ok:EnvOK E P) (hr:HR μ h w) {t:TypeId} {v x:AV} {u:Value} {S hi:Option AV} {R Q:Option Value} (p:OR μ S R) (B:OR μ hi Q) (C:VR μ v u)
  (f:cF E h t v S hi=some x):PV P (Instr.sliceAt t u R Q none) w μ x:=by
 unfold cF at f
 split at f
 ·rename_i s I
  simp only [VR] at C;subst C
  cases r:gG hi s.length s.length with
  | none=>simp [r] at f
  | some F=>
   simp only [r] at f
   cases y:gG S F 0 with
   | none=>simp [y] at f
   | some j=>
    simp only [y,xF] at f;subst f;have ⟨H,L,M⟩:=mL (P:=P) (w:=w) (isS:=false) p B (xD s.length) (xD s.length) r y;have V:(⟨s.toArray⟩:ByteArray).size=s.length:=rfl;refine ⟨.string ((⟨s.toArray⟩:ByteArray).extract j F),?_,?_⟩
    ·simp only [Instr.sliceAt,Sem.run_bind,pB (aB ok I),Result.andThen_ok,Instr.slice,Option.isSome_none,xE,xL,V,H]
     rfl
    ·simp only [VR];rw [gZ]
 ·rename_i e len cap sz I
  simp only [VR] at C;obtain ⟨rfl,rfl,rfl⟩:=C
  cases K:E.size e with
  | none=>simp [K] at f
  | some n=>
   simp only [K] at f
   cases r:gG hi 0 0 with
   | none=>simp [r] at f
   | some F=>
    simp only [r] at f
    cases y:gG S F 0 with
    | none=>simp [y] at f
    | some j=>
     simp only [y,xF] at f;subst f;have ⟨H,L,M⟩:=mL (P:=P) (w:=w) (isS:=true) p B (xD 0) (xD 0) r y;have e1:F=0:=by omega
     have e2:j=0:=by omega
     subst e1 e2;refine ⟨.slice none 0 0,?_,by simp [VR]⟩;simp only [Instr.sliceAt,Sem.run_bind,pB (aB ok I),Result.andThen_ok,Instr.slice,H,lD ok K];rfl
 ·rename_i e A off len cap sz I
  cases K:E.size e with
  | none=>simp [K] at f
  | some n=>
   simp only [K] at f
   cases X:Nat.beq n sz with
   | false=>simp [X] at f
   | true=>
    simp only [X,xA] at f
    have:n=sz:=xK X
    subst this;simp only [VR] at C;obtain ⟨l,a',cap',O,rfl,Y,hd⟩:=C;have U:cap<=cap':=by grind
    cases r:gG hi cap len with
    | none=>simp [r] at f
    | some F=>
     simp only [r] at f
     cases y:gG S F 0 with
     | none=>simp [y] at f
     | some j=>
      simp only [y,xF] at f;subst f;have ⟨H,L,M⟩:=mL (P:=P) (w:=w) (isS:=true) p B U Y r y;refine ⟨.slice (if cap'=j then some a' else (some a').map (·.add (j * n))) (F-j) (cap'-j),?_,?_⟩
      ·simp only [Instr.sliceAt,Sem.run_bind,pB (aB ok I),Result.andThen_ok,Instr.slice,H,lD ok K]
       rfl
      ·simp only [VR]
       by_cases Z:cap'=j
       ·subst Z
        grind
       ·rcases hd with ⟨h3,h4⟩ | ⟨rfl,h3,h4,h5⟩
        ·omega
        ·refine ⟨l,_,_,O,by rw [if_neg Z];rfl,by omega,.inr ⟨?_,by omega,?_,?_⟩⟩
         ·grind [Addr.add,eI,Nat.add_assoc]
         ·have:j * n+(cap'-j) * n=cap' * n:=by rw [<- Nat.add_mul];congr 1;omega
          omega
         grind
 ·rename_i n e A off I
  simp only [VR] at C;obtain ⟨l,O,rfl⟩:=C;have ⟨j,F,sz,H,L,M⟩:=dT ok hr O p B f;exact ⟨_,by simp only [Instr.sliceAt,Sem.run_bind,pB (aB ok I),Result.andThen_ok,Instr.sureAddr,Sem.run_pure,H,L],M⟩
 ·rename_i W A off I
  simp only [VR] at C;obtain ⟨l,O,rfl⟩:=C
  cases J:E.und W with
  | none=>simp [J] at f
  | some d=>
   cases d <;> simp only [J,reduceCtorEq] at f;rename_i n e;have ⟨j,F,sz,H,L,M⟩:=dT ok hr O p B f;exact ⟨_,by simp only [Instr.sliceAt,Sem.run_bind,pB (aB ok I),Result.andThen_ok,Instr.slice,asAddr,Sem.run_pure,pB (aB ok J),H,L],M⟩
 ·simp at f
def oA7 {v x:AV} {u:Value} (j:gM v=some x) (f:VR μ v u) (r:Operand->Value) (o:Oper) (y:Operand) (F:o.op=.nilCheck y) (H:r y=u):(execOp r o).run P w=.ok (.value u) w/\VR μ x u:=by
 have B:x=v:=by
  unfold gM at j
  grind
 subst B;refine ⟨?_,f⟩;simp only [execOp,F,H];unfold gM at j
 split at j
 ·simp at j
 ·simp at j
 ·simp at j
 ·simp at j
 ·rename_i I J C K
  cases x with
  | ptr p=>
   cases p with
   | none=>exact absurd rfl I
   | some q=>have ⟨A,o⟩:=q;simp only [VR] at f;obtain ⟨_,_,rfl⟩:=f;rfl
  | nilIface=>exact absurd rfl J
  | nilFunc=>exact absurd rfl C
  | func fn a b=>
   simp only [VR] at f;obtain ⟨_,_,rfl,_⟩:=f
   simp_all
  | bool=>simp only [VR] at f;subst f;rfl
  | int=>simp only [VR] at f;subst f;rfl
  | str=>simp only [VR] at f;subst f;rfl
  | slice p=>obtain ⟨_,_,rfl⟩:=f.slice_form;rfl
  | map p=>obtain ⟨_,rfl⟩:=f.map_form;rfl
  | iface=>simp only [VR] at f;obtain ⟨_,rfl,_⟩:=f;rfl
  | agg=>simp only [VR] at f;obtain ⟨_,rfl,_⟩:=f;rfl
  | tuple=>simp only [VR] at f;obtain ⟨_,rfl,_⟩:=f;rfl
def fV (ok:EnvOK E P) {t:TypeId} {f:Nat} {j:Field} (r:E.fieldAt t f=some j):∃ p:Array Field,P.underlying t=some (.struct p)/\p[f]? = some j:=by
 grind [Env.fieldAt,aB]
def kA3 (ok:EnvOK E P) {s:TypeId} {v x:AV} {u:Value} {f:Nat} (B:VR μ v u) (j:jR E s v f=some x):PV P (Instr.fieldAt s u f) w μ x:=by
 unfold jR at j
 split at j
 ·rename_i A off
  simp only [VR] at B;obtain ⟨l,H,rfl⟩:=B
  cases r:E.fieldAt s f with
  | none=>simp [r] at j
  | some C=>
   simp only [r] at j;have ⟨I,F,y⟩:=fV ok r
   cases p:E.size C.type with
   | none=>simp [p] at j
   | some n=>
    cases n with
    | zero=>simp [p] at j
    | succ n=>
     simp only [p,xF] at j;subst j;refine ⟨.pointer (some ⟨l.b,l.sh+off+C.offset,none⟩),?_,?_⟩
     ·simp [Instr.fieldAt,pB F,y,Instr.sureAddr,fieldPlace,lD ok p,eI]
     grind [VR,Nat.add_assoc]
 ·simp at j
def yAj (ok:EnvOK E P) {t:TypeId} {v x:AV} {u:Value} {f:Nat} (p:VR μ v u) (j:lAo E t v f=some x):PV P (Instr.field t u f) w μ x:=by
 unfold lAo at j
 split at j
 ·simp only [VR] at p
  obtain ⟨B,rfl,p⟩:=p
  cases r:E.fieldAt t f with
  | none=>simp [r] at j
  | some J=>
   simp only [r] at j;have ⟨I,F,A⟩:=fV ok r;have ⟨y,C,H⟩:=fK (w:=w) ok p j;exact ⟨y,by simp [Instr.field,pB F,A,asAgg,C],H⟩
 ·simp at j
def lA3 (ok:EnvOK E P) {t:TypeId} {v ix x:AV} {u H:Value} (B:VR μ v u) (hi:VR μ ix H) (f:fM E t v ix=some x):PV P (Instr.indexAt t u H) w μ x:=by
 unfold fM at f
 cases F:rA0 ix with
 | none=>simp [F] at f
 | some i=>
  simp only [F] at f;obtain ⟨k,rfl⟩:=tX F;simp only [VR] at hi;subst hi
  split at f
  ·rename_i len e A off C
   simp only [VR] at B;obtain ⟨l,I,rfl⟩:=B
   cases p:E.size e with
   | none=>simp [p] at f
   | some n=>
    simp only [p] at f
    cases y:Nat.blt i len with
    | false=>simp [y] at f
    | true=>
     simp [y] at f;subst f;have r:i<len:=by simp_all
     have j:(0:Int)<=(i:Int)/\(i:Int)<(len:Int):=by omega
     refine ⟨.pointer (some ⟨l.b,l.sh+off+i * n,none⟩),?_,?_⟩
     ·simp [Instr.indexAt,asIntOf,pB (aB ok C),Instr.sureAddr,j,r,lD ok p,eI]
     grind [VR,Nat.add_assoc]
  ·rename_i e A off len cap sz C
   simp only [VR] at B;obtain ⟨l,M,cap',I,rfl,J,hd⟩:=B
   cases p:E.size e with
   | none=>simp [p] at f
   | some n=>
    simp only [p] at f
    cases y:Nat.blt i len with
    | false=>simp [y] at f
    | true=>
     simp [y] at f;subst f;have r:i<len:=by simp_all
     have j:(0:Int)<=(i:Int)/\(i:Int)<(len:Int):=by omega
     rcases hd with ⟨K,L⟩ | ⟨rfl,_⟩
     ·omega
     ·refine ⟨.pointer (some ⟨l.b,l.sh+off+i * n,none⟩),?_,?_⟩
      ·simp [Instr.indexAt,asIntOf,pB (aB ok C),j,r,lD ok p,eI]
      grind [VR,Nat.add_assoc]
  ·simp at f
def aAk (ok:EnvOK E P) {t:TypeId} {v ix x:AV} {u J:Value} (r:VR μ v u) (hi:VR μ ix J) (f:iAf E t v ix=some x):PV P (Instr.index t u J) w μ x:=by
 unfold iAf at f
 cases F:rA0 ix with
 | none=>simp [F] at f
 | some i=>
  simp only [F] at f;obtain ⟨k,rfl⟩:=tX F;simp only [VR] at hi;subst hi
  split at f
  ·rename_i len e cs B
   simp only [VR] at r;obtain ⟨K,rfl,r⟩:=r
   cases H:E.size e with
   | none=>simp [H] at f
   | some n=>
    simp only [H] at f
    cases I:Nat.blt i len with
    | false=>simp [I] at f
    | true=>
     simp only [I,xA] at f;have p:i<len:=by simp_all
     have j:(0:Int)<=(i:Int)/\(i:Int)<(len:Int):=by omega
     have ⟨y,L,M⟩:=fK (w:=w) ok r f;exact ⟨y,by simp [Instr.index,asIntOf,pB (aB ok B),j,p,lD ok H,L],M⟩
  ·rename_i s B
   simp only [VR] at r;subst r
   cases A:s[i]? with
   | none=>simp [A] at f
   | some b=>
    simp [A] at f;subst f;refine ⟨.int .u8 b.toNat,?_,by simp only [VR]⟩;have C:(⟨s.toArray⟩:ByteArray)[i]? = some b:=by
     have ⟨p,I⟩:=List.getElem?_eq_some_iff.1 A;rw [getElem?_pos (⟨s.toArray⟩:ByteArray) i (by show i<s.toArray.size;simpa using p)]
     congr 1
    simp [Instr.index,asIntOf,pB (aB ok B),C]
  ·simp at f
end
end Ai
namespace Ai
section
variable {E:Env} {P:Program} {μ:Mu} {h:Heap} {w:World}
def jB4 (off:Nat):∀ (l:List Value) (k:Nat) (cs:Array Value),
  ((l.zipIdx k).foldl (fun (cs:Array Value) (p:Value×Nat)=>cs.setIfInBounds (off+p.2) p.1) cs).size=cs.size/\
  ∀ i,((l.zipIdx k).foldl (fun (cs:Array Value) (p:Value×Nat)=>cs.setIfInBounds (off+p.2) p.1) cs)[i]? = if off+k<=i/\i<off+k+l.length/\i<cs.size then l[i-(off+k)]? else cs[i]?:=by
 intro l
 induction l with
 | nil=>intro k cs;refine ⟨rfl,fun i=>?_⟩;rw [if_neg (by simp;omega)];rfl
 | cons v l f=>
  intro k cs;simp only [List.zipIdx_cons,List.foldl_cons]
  grind
theorem VRs.toArray_iff {cs:List AV} {f:Array Value}:VRs μ cs f.toList↔f.size=cs.length/\∀ (i:Nat) (x:AV),cs[i]? = some x->∃ y,f[i]? = some y/\VR μ x y:=by
 constructor
 ·intro h
  exact ⟨by simpa using h.length,fun i x j=>by have ⟨y,p,r⟩:=h.get j;grind⟩
 grind [VRs.of]
def PR (μ:Mu):List (Nat×AV)->List (Nat×Value)->Prop
 | [],l=>l=[]
 | (i,x)::r,l=>∃ y r',l=(i,y)::r'/\VR μ x y/\PR μ r r'
def lM {place:Nat->Option (Nat×Nat)}:∀ {parts:List (Nat×AV)} {parts':List (Nat×Value)} {cs xs:List AV} {f:Array Value},PR μ parts parts'->VRs μ cs f.toList->aA3 place cs parts=some xs->
  ∃ C,Instr.fill place f parts'=some C/\VRs μ xs C.toList/\xs.length=cs.length
 | [],parts',cs,xs,f,I,M,A=>by
  simp only [PR] at I;subst I;simp [aA3] at A;subst A;exact ⟨f,rfl,M,rfl⟩
 | (i,v)::r,parts',cs,xs,f,I,M,A=>by
  simp only [PR] at I;obtain ⟨u,r',rfl,Z,hr⟩:=I;simp only [aA3] at A
  cases F:place i with
  | none=>simp [F] at A
  | some q=>
   have ⟨off,size⟩:=q;simp only [F] at A
   cases J:(Nat.beq v.cells.length size&&Nat.ble (off+size) cs.length) with
   | false=>simp [J] at A
   | true=>
    simp only [J,xA] at A;simp only [xG] at J;have Q:v.cells.length=size:=xK J.1;have a0:off+size<=cs.length:=by simpa using J.2
    cases L:over off cs v.cells with
    | none=>simp [L] at A
    | some H=>
     simp only [L] at A;have ⟨o1,o2,o3,o4,o5⟩:=eV L;have K:=Z.cells;have S:u.cells.size=size:=by have:=K.length;simpa [Q] using this
     have V:f.size=cs.length:=by simpa using M.length
     have O:¬ (u.cells.size≠size\/off+u.cells.size > f.size):=by omega
     have B:=jB4 off u.cells.toList 0 f;have W:(u.cells.zipIdx.foldl (fun (cs:Array Value) (p:Value×Nat)=>cs.setIfInBounds (off+p.2) p.1) f)=((u.cells.toList.zipIdx 0).foldl (fun (cs:Array Value) (p:Value×Nat)=>cs.setIfInBounds (off+p.2) p.1) f):=by
      rw [<- Array.foldl_toList];simp
     have R:VRs μ H (u.cells.zipIdx.foldl (fun (cs:Array Value) (p:Value×Nat)=>cs.setIfInBounds (off+p.2) p.1) f).toList:=by
      rw [W];rw [VRs.toArray_iff];refine ⟨by rw [B.1,o1,V],fun j x U=>?_⟩;rw [B.2];have a1:j<H.length:=(List.getElem?_eq_some_iff.1 U).1;have X:u.cells.toList.length=size:=by simpa using S
      by_cases c1:j<off
      ·rw [if_neg (by omega)];grind [VRs.toArray_iff]
      ·by_cases c2:off+v.cells.length<=j
       ·rw [if_neg (by omega)];grind [VRs.toArray_iff]
       ·rw [if_pos (by omega)]
        obtain ⟨m,rfl⟩:∃ m,j=off+m:=⟨j-off,by omega⟩;rw [o4 m (by omega)] at U;have ⟨y,h1,Y⟩:=K.get U
        grind
     have ⟨C,h1,Y,h3⟩:=lM hr R A;refine ⟨C,?_,Y,by rw [h3,o1]⟩;simp only [Instr.fill,F]
     grind
def iZ (ok:EnvOK E P):∀ {u:List Field} {l:List (Nat×Nat)},qT E u=some l->
  (u.mapM (fun f=>do pure (f.offset,<- sizeOf f.type):Field->Sem (Nat×Nat))).run P w=.ok l w
 | [],l,h=>by simp [qT] at h;subst h;rfl
 | f::r,l,h=>by
  simp only [qT] at h
  cases p:E.size f.type with
  | none=>simp [p] at h
  | some n=>
   simp only [p] at h
   cases j:qT E r with
   | none=>simp [j] at h
   | some y=>
    simp [j] at h;subst h
    have:=iZ ok j
    simp only [List.mapM_cons,Sem.run_bind,lD ok p,Result.andThen_ok,Sem.run_pure,this]
def bAk (ok:EnvOK E P) {t:TypeId} {parts:List (Nat×AV)} {parts':Array (Nat×Value)} {x:AV} (L:PR μ parts parts'.toList) (j:lAv E t parts=some x):PV P (Instr.build t parts') w μ x:=by
 unfold lAv at j
 cases B:E.zero t with
 | none=>simp [B] at j
 | some z=>
  simp only [B] at j;have ⟨Q,u,F⟩:=iH ok B;have y:=(F μ).cells
  split at j
  ·rename_i J A
   cases H:qT E J.toList with
   | none=>simp [H] at j
   | some l=>
    simp only [H] at j
    cases r:aA3 (fun i=>l[i]?) z.cells parts with
    | none=>simp [r] at j
    | some cs=>
     simp [r] at j;subst j;have ⟨p,K,O,_⟩:=lM L y r;refine ⟨.agg p,?_,by simp only [VR];grind⟩;have M:(J.mapM (fun f=>do pure (f.offset,<- sizeOf f.type):Field->Sem (Nat×Nat))).run P w=.ok l.toArray w:=by
      rw [Array.mapM_eq_mapM_toList];simp only [Sem.run_map]
      have:=iZ (w:=w) ok H
      rw [this];rfl
     have C:Instr.fill (fun i=>l.toArray[i]?) Q.cells parts'.toList=some p:=by
      simp_all
     simp only [Instr.build,Sem.run_bind,u,Result.andThen_ok,pB (aB ok A),M,C];rfl
  ·rename_i n e A
   cases I:E.size e with
   | none=>simp [I] at j
   | some n=>
    simp only [I] at j
    cases r:aA3 (fun i=>some (i * n,n)) z.cells parts with
    | none=>simp [r] at j
    | some cs=>
     simp [r] at j;subst j;have ⟨p,K,O,_⟩:=lM L y r;refine ⟨.agg p,?_,by simp only [VR];grind⟩;simp only [Instr.build,Sem.run_bind,u,Result.andThen_ok,pB (aB ok A),lD ok I,K];rfl
  ·simp at j
theorem cN:∀ (n:Nat) (l:List AV),(mAv n l).length=n * l.length
 | 0,l=>by simp [mAv]
 | n+1,l=>by simp [mAv,cN n l,Nat.succ_mul,Nat.add_comm]
theorem rAo:∀ (n:Nat) (l:List AV) (i:Nat),i<n * l.length->(mAv n l)[i]? = l[i % l.length]?
 | 0,l,i,h=>by simp at h
 | n+1,l,i,h=>by
  simp only [mAv]
  by_cases c:i<l.length
  ·rw [List.getElem?_append_left c,Nat.mod_eq_of_lt c]
  ·rw [List.getElem?_append_right (by omega),rAo n l _ (by grind)]
   grind [Nat.mod_eq_sub_mod]
def mA3 {z:AV} {f:Value} {n:Nat} (j:VR μ z f) :
  VRs μ (mAv n z.cells) ((Array.range (n * z.cells.length)).map (fun i=>f.cells[i % f.cells.size]!)).toList:=by
 have p:=j.cells
 grind [VRs.toArray_iff,cN,List.getElem?_eq_some_iff,rAo,getElem!_def]
def VR.slice_own {A off len cap sz:Nat} {l:Loc} (j:μ A=some l) (f:len<=cap) (p:l.sh+off+cap * sz<=l.tot):VR μ (.slice (some (A,off)) len cap sz) (.slice (some ⟨l.b,l.sh+off,none⟩) len cap):=by
 simp only [VR]
 grind
theorem qG (μ:Mu) (A:Nat) (l:Loc):(μ.add A l) A=some l:=by simp [Mu.add]
def DV (P:Program) (s:Sem Value) (μ:Mu) (h:Heap) (w:World) (x:AV) (h':Heap):Prop:=∃ f u w',s.run P w=.ok u w'/\VR f x u/\HR f h' w'/\Ext μ h w f h' w'
def PV.dv {s:Sem Value} {x:AV} (p:PV P s w μ x) (r:HR μ h w):DV P s μ h w x h:=by
 have ⟨u,f,j⟩:=p;exact ⟨μ,u,w,f,j,r,Ext.refl μ h w⟩
def jZ (r:HR μ h w) {xs:List AV} {cs:Array Value} {e:TypeId} (f:VRs μ xs cs.toList):DV P (do pure (.pointer (some (<- newRow e cs)))) μ h w (pT h xs).1 (pT h xs).2:=by
 have ⟨l,y,B,u,A,j,p⟩:=r.pushRow xs cs e f;refine ⟨_,.pointer (some ⟨w.heap.size,0,none⟩),_,?_,?_,j,p⟩
 ·simp only [newRow,Sem.run_bind,run_newObj,Result.andThen_ok,Sem.run_pure];rfl
 grind [pT,VR,qG]
def cAk (ok:EnvOK E P) (A:HR μ h w) {e:TypeId} {z:AV} (r:E.zero e=some z):DV P (Instr.alloc e true (.tuple #[])) μ h w (pT h z.cells).1 (pT h z.cells).2:=by
 have ⟨C,p,f⟩:=iH ok r;have ⟨j,u,w',B,y⟩:=jZ (P:=P) (e:=e) A (f μ).cells;refine ⟨j,u,w',?_,y⟩
 grind [Instr.alloc,Sem.run_bind,Result.andThen_ok,newVar]
def uAf (ok:EnvOK E P) (F:HR μ h w) {e:TypeId} {z:AV} (I:E.zero e=some z):DV P (Instr.alloc e true (.tuple #[])) μ h w (.ptr (some (h.next,0))) (h.push (.row z.cells (.ty e))):=by
 have ⟨f,p,u⟩:=iH ok I;have B:=(u μ).cells;have C:=B.length;have r:μ.le (μ.add h.next ⟨w.heap.size,0,z.cells.length,true⟩):=Mu.le_add F.isNone;have A:=VRs.mono r _ _ B;have K:(w.alloc (.cells f.cells e)).heap[w.heap.size]? = some (.cells f.cells e):=by show (w.heap.push _)[_]? = _;simp
 have j:(w.alloc (.cells f.cells e)).shape? w.heap.size=some (e,z.cells.length):=by
  grind [World.shape?]
 have H:=F.push (.cells f.cells e) (.row z.cells (.ty e)) ⟨w.heap.size,0,z.cells.length,true⟩ rfl
  ⟨⟨⟨⟨e,j⟩,by simp,fun i x hi=>by
   have ⟨y,L,J⟩:=A.get hi
   simp_all⟩,rfl,rfl,rfl,fun i _=>World.frozen?_alloc_new w f.cells e i⟩,j⟩
 refine ⟨_,.pointer (some ⟨w.heap.size,0,none⟩),w.alloc (.cells f.cells e),?_,?_,H.1,H.2⟩
 ·simp [Instr.alloc,Sem.run_bind,p,Result.andThen_ok,newVar,newRow]
 ·simp only [VR];exact ⟨_,qG _ _ _,rfl⟩
def iAs (B:HR μ h w) {e:TypeId} {v:AV} {u:Value} (F:VR μ v u):DV P (Instr.box e u) μ h w (.ptr (some (h.next,0))) (h.push (.row v.cells (.ty e))):=by
 have r:=F.cells;have A:=r.length;have j:μ.le (μ.add h.next ⟨w.heap.size,0,v.cells.length,true⟩):=Mu.le_add B.isNone;have p:=VRs.mono j _ _ r;have I:(w.alloc (.cells u.cells e)).heap[w.heap.size]? = some (.cells u.cells e):=by show (w.heap.push _)[_]? = _;simp
 have f:(w.alloc (.cells u.cells e)).shape? w.heap.size=some (e,v.cells.length):=by
  grind [World.shape?]
 have C:=B.push (.cells u.cells e) (.row v.cells (.ty e)) ⟨w.heap.size,0,v.cells.length,true⟩ rfl
  ⟨⟨⟨⟨e,f⟩,by simp,fun i x hi=>by
   have ⟨y,J,H⟩:=p.get hi
   simp_all⟩,rfl,rfl,rfl,fun i _=>World.frozen?_alloc_new w u.cells e i⟩,f⟩
 refine ⟨_,.pointer (some ⟨w.heap.size,0,none⟩),w.alloc (.cells u.cells e),?_,?_,C.1,C.2⟩
 ·simp [Instr.box,Result.andThen_ok,newVar,newRow]
 ·simp only [VR];exact ⟨_,qG _ _ _,rfl⟩
def eAw (j:HR μ h w) {e:TypeId} {v:AV} {u:Value} (y:VR μ v u):DV P (Instr.box e u) μ h w (pT h v.cells).1 (pT h v.cells).2:=by
 have ⟨f,p,w',A,r⟩:=jZ (P:=P) (e:=e) j y.cells;refine ⟨f,p,w',?_,r⟩
 grind [Instr.box,newVar]
end
end Ai
namespace Ai
section
variable {E:Env} {P:Program} {μ:Mu} {h:Heap} {w:World}
def uA0 (ok:EnvOK E P) (M:HR μ h w) {t:TypeId} {len:Nat} {parts:List (Nat×AV)} {parts':Array (Nat×Value)} {x:AV} {h':Heap} (S:PR μ parts parts'.toList)
  (f:yI E h t len parts=some (x,h')):DV P (Instr.buildSlice t len parts') μ h w x h':=by
 unfold yI at f
 split at f
 ·rename_i e K
  cases u:E.size e with
  | none=>simp [u] at f
  | some n=>
   simp only [u] at f
   cases F:E.zero e with
   | none=>simp [F] at f
   | some z=>
    simp only [F] at f;have ⟨zv,y,J⟩:=iH ok F
    cases r:(Nat.beq z.cells.length n&&Nat.ble (len * n) 16777216) with
    | false=>simp [r] at f
    | true=>
     simp only [r,xA] at f;simp only [xG] at r;have I:z.cells.length=n:=xK r.1;have W:len * n<=16777216:=by simpa using r.2
     subst I
     cases B:aA3 (fun i=>some (i * z.cells.length,z.cells.length)) (mAv len z.cells) parts with
     | none=>simp [B] at f
     | some cs=>
      simp only [B,xF,xI] at f;obtain ⟨rfl,rfl⟩:=f;have ⟨p,Q,R,V⟩:=lM S (mA3 (n:=len) (J μ)) B;have ⟨l,Z,X,O,Y,U,L⟩:=M.pushRow cs p e R;have j:¬ (len * z.cells.length > 2 ^ 24):=by
       grind
      refine ⟨_,.slice (some ⟨w.heap.size,0,none⟩) len len,_,?_,?_,U,L⟩
      ·by_cases h0:len * z.cells.length=0
       ·have C:¬ ((0:Nat) > 2 ^ 24):=by decide
        have H:Instr.fill (fun i=>some (i * z.cells.length,z.cells.length)) #[] parts'.toList=some p:=by
         grind
        simp only [Instr.buildSlice,Sem.run_bind,pB (aB ok K),Result.andThen_ok,lD ok u,h0,C,xL,xM,Sem.run_pure,show Array.range 0 = #[] from rfl,Array.map_empty,H,newRow,run_newObj];rfl
       ·simp only [Instr.buildSlice,Sem.run_bind,pB (aB ok K),Result.andThen_ok,lD ok u,if_neg j,h0,xL,y,Sem.run_pure,Q,newRow,run_newObj]
        rfl
      ·have:=VR.slice_own (μ:=μ.add h.next l) (A:=h.next) (off:=0) (len:=len) (cap:=len) (sz:=z.cells.length) (qG _ _ _) (xD _) (by rw [X,O,V,cN];omega)
       grind
 ·simp at f
def uT:∀ (s:List UInt8),VRs μ (ofBytes s) (s.map fun b=>Value.int .u8 b.toNat)
 | []=>by simp [ofBytes,VRs]
 | b::r=>by simp only [ofBytes,List.map_cons];exact VRs.cons (by simp only [VR]) (uT r)
def lH:∀ (s:List UInt8),(ofBytes s).length=s.length
 | []=>rfl
 | b::r=>by simp [ofBytes,lH r]
def dN:∀ {l:List AV} {s:List UInt8} {ys:List Value},bM l=some s->VRs μ l ys->∃ ns:List Int,ys=ns.map (Value.int .u8)/\s=ns.map fun n=>UInt8.ofNat n.toNat
 | [],s,ys,h,f=>by simp [bM] at h;subst h;simp only [VRs] at f;simp_all
 | x::r,s,ys,h,f=>by
  simp only [VRs] at f;obtain ⟨y,zs,rfl,p,u⟩:=f;unfold bM at h
  split at h
  ·simp at *
  ·rename_i n r' A
   cases A
   cases j:bM r with
   | none=>simp [j] at h
   | some B=>
    simp [j] at h;subst h;obtain ⟨ns,rfl,rfl⟩:=dN j u;simp only [VR] at p;subst p;exact ⟨n::ns,rfl,rfl⟩
  ·simp at h
def gA8:∀ (ns:List Int) (s:List UInt8),ns.foldl (fun (r:ByteArray) n=>r.push (UInt8.ofNat n.toNat)) ⟨s.toArray⟩=⟨(s++ns.map fun n=>UInt8.ofNat n.toNat).toArray⟩
 | [],s=>by simp
 | n::ns,s=>by
  simp only [List.foldl_cons,List.map_cons]
  have:(⟨s.toArray⟩:ByteArray).push (UInt8.ofNat n.toNat)=⟨(s++[UInt8.ofNat n.toNat]).toArray⟩:=by
   grind [ByteArray.ext,ByteArray.push]
  rw [this,gA8 ns];simp
def HR.pushGrown (u:HR μ h w) (xs:List AV) (ys rest:List Value) (e:TypeId) (p:VRs μ xs ys) :
  ∃ l:Loc,l.b=w.heap.size/\l.sh=0/\l.tot=ys.length+rest.length/\l.ex=false/\
   HR (μ.add h.next l) (h.push (.row xs .grown)) (w.alloc (.cells (ys++rest).toArray e))/\Ext μ h w (μ.add h.next l) (h.push (.row xs .grown)) (w.alloc (.cells (ys++rest).toArray e)):=by
 have r:=p.length;refine ⟨⟨w.heap.size,0,ys.length+rest.length,false⟩,rfl,rfl,rfl,rfl,u.push _ _ _ rfl ?_⟩;have j:μ.le (μ.add h.next ⟨w.heap.size,0,ys.length+rest.length,false⟩):=Mu.le_add u.isNone;have f:=VRs.mono j _ _ p;refine ⟨⟨⟨e,?_⟩,by simp;omega,?_⟩,rfl,?_⟩
 ·have A:(w.alloc (.cells (ys++rest).toArray e)).heap[w.heap.size]? = some (.cells (ys++rest).toArray e):=by show (w.heap.push _)[_]? = _;simp
  simp only [World.shape?,A];simp
 ·intro i x hi
  have ⟨y,C,B⟩:=f.get hi
  grind [World.cell?_alloc_new,List.getElem?_eq_some_iff,List.getElem?_append_left]
 ·intro i _;simp_all
def HR.pushBytes (A:HR μ h w) (xs:List AV) (ys rest:List Value) (e:TypeId) (r:VRs μ xs ys) :
  ∃ l:Loc,l.b=w.heap.size/\l.sh=0/\l.tot=ys.length+rest.length/\l.ex=false/\
   HR (μ.add h.next l) (h.push (.row xs (.bytes e))) (w.alloc (.cells (ys++rest).toArray e))/\Ext μ h w (μ.add h.next l) (h.push (.row xs (.bytes e))) (w.alloc (.cells (ys++rest).toArray e)):=by
 have u:=r.length;refine ⟨⟨w.heap.size,0,ys.length+rest.length,false⟩,rfl,rfl,rfl,rfl,A.push _ _ _ rfl ?_⟩;have f:μ.le (μ.add h.next ⟨w.heap.size,0,ys.length+rest.length,false⟩):=Mu.le_add A.isNone;have j:=VRs.mono f _ _ r;have p:(w.alloc (.cells (ys++rest).toArray e)).shape? w.heap.size=some (e,ys.length+rest.length):=by
  have B:(w.alloc (.cells (ys++rest).toArray e)).heap[w.heap.size]? = some (.cells (ys++rest).toArray e):=by show (w.heap.push _)[_]? = _;simp
  simp only [World.shape?,B];simp
 refine ⟨⟨⟨⟨e,?_⟩,by simp;omega,?_⟩,rfl,?_⟩,p,rfl⟩
 ·grind
 ·intro i x hi
  have ⟨y,F,C⟩:=j.get hi
  grind [World.cell?_alloc_new,List.getElem?_eq_some_iff,List.getElem?_append_left]
 ·intro i _;simp_all
def gV {b i n:Nat} {e:TypeId} (h:w.shape? b=some (e,n)) (hi:i<n):(w.cell? ⟨b,i,none⟩).isSome:=by
 unfold World.shape? at h;unfold World.cell?
 grind
end
end Ai
namespace Ai
section
variable {E:Env} {P:Program} {μ:Mu} {h:Heap} {w:World}
def iA8 (vA cap:Nat) (h:cap<vA):Builtin.nextslicecap vA cap<=3 * vA+2000:=by
 grind [Builtin.nextslicecap,Builtin.growBy]
def dAk (B:HR μ h w) {size n:Nat} {x:AV} {u:Value} {new:List AV} (j:VR μ x u) (p:iM x=some n) (m:Nat) (J:m<=n) (f:yD h size m x=some new) :
  ∃ ys:List Value,(∀ w':World,w'.heap=w.heap->(Builtin.firstCells size m u).run P w'=.ok ys.toArray w')/\VRs μ new ys/\(Builtin.lenOf u).run P w=.ok n w:=by
 unfold yD at f
 split at f
 ·rename_i A off len cap sz
  simp [iM] at p;subst p;simp only [VR] at j;obtain ⟨l,O,cap',y,rfl,H,hd⟩:=j;have ⟨ys,K,F,r,M⟩:=B.read (P:=P) y f;rcases hd with ⟨c1,I⟩ | ⟨rfl,_⟩
  ·have:m=0:=by omega
   subst this;have C:ys=[]:=List.eq_nil_of_length_eq_zero (by simpa using F);subst C;exact ⟨[],fun w' _=>by simp [Builtin.firstCells,loadCells,loadCellsFrom],r,by simp [Builtin.lenOf]⟩
  ·exact ⟨ys,fun w' L=>by grind [Builtin.firstCells,run_loadCells,dK],r,by simp [Builtin.lenOf]⟩
 ·rename_i len cap sz
  simp [iM] at p;subst p;simp only [VR] at j;obtain ⟨rfl,rfl,rfl⟩:=j;simp at f;subst f;exact ⟨[],fun w' _=>by simp [Builtin.firstCells],by simp [VRs],by simp [Builtin.lenOf]⟩
 ·rename_i s
  simp [iM] at p;subst p;simp only [VR] at j;subst j;simp at f;subst f;refine ⟨(s.take m).map fun b=>Value.int .u8 b.toNat,?_,uT _,by simp [Builtin.lenOf];rfl⟩
  grind [Builtin.firstCells,Sem.run_pure,gZ]
 ·simp at f
def HR.inPlace (r:HR μ h w) {A off:Nat} {l:Loc} {cs old new:List AV} {X:List Value} (R:μ A=some l) {st:BState} (Y:h.t.get A=some (.row cs st)) (W:st=.grown\/∃ t,st=.bytes t) (ho:takeN old.length (cs.drop off)=some old) (hv:VRs μ new X)
  (b0:l.sh+off+old.length+new.length<=l.tot) :
  (∀ j,j<X.length->(w.cell? ⟨l.b,l.sh+off+old.length+j,none⟩).isSome)/\(∀ j,j<X.length->w.frozen? ⟨l.b,l.sh+off+old.length+j,none⟩=false)/\
  HR (μ.add h.next ⟨l.b,l.sh+off,l.tot,false⟩) ((h.put A (.row cs .dead)).push (.row (old++new) .grown)) (cT w l.b (l.sh+off+old.length) X)/\
  Ext μ h w (μ.add h.next ⟨l.b,l.sh+off,l.tot,false⟩) ((h.put A (.row cs .dead)).push (.row (old++new) .grown)) (cT w l.b (l.sh+off+old.length) X):=by
 have a8:=hv.length;obtain ⟨Q,b4,F⟩:RowR μ w l cs/\l.ex=false/\Free w l:=by
  rcases W with rfl | ⟨t,rfl⟩
  ·exact r.blk A l _ R Y
  ·exact (r.blk A l _ R Y).1
 have H:(Blk.row cs st).isRo=false:=by rcases W with rfl | ⟨_,rfl⟩ <;> rfl
 have a5:(Blk.row cs st).live=true:=by rcases W with rfl | ⟨_,rfl⟩ <;> rfl
 have ⟨e,p⟩:=Q.shape;have ⟨a9,a0⟩:=cK ho;have V:∀ i,i<l.tot->(w.cell? ⟨l.b,i,none⟩).isSome:=fun i hi=>gV p hi;have b3:A≠h.next:=fun e=>by have:=(r.dom A l R).1;omega
 have K:μ.le (μ.add h.next ⟨l.b,l.sh+off,l.tot,false⟩):=Mu.le_add r.isNone;have f:∀ {B k},μ.add h.next ⟨l.b,l.sh+off,l.tot,false⟩ B=some k->(B=h.next/\k=⟨l.b,l.sh+off,l.tot,false⟩)\/(B≠h.next/\μ B=some k):=by
  grind [Mu.add]
 have I:∀ {B:Nat} {b:Blk},((h.put A (.row cs .dead)).push (.row (old++new) .grown)).t.get B=some b->(B=h.next/\b=.row (old++new) .grown)\/(B≠h.next/\B=A/\b=.row cs .dead)\/(B≠h.next/\B≠A/\h.t.get B=some b):=by
  intro B b hb;rcases Tr.get_set hb with u | ⟨u,M⟩
  ·exact .inl u
  ·rcases Tr.get_set M with h3 | ⟨h3,h4⟩
   ·grind
   ·exact .inr (.inr ⟨u,h3,h4⟩)
 have O:∀ {B k b},B≠A->μ B=some k->h.t.get B=some b->b.live=true->k.b≠l.b:=by
  intro B k b L J a4 U e
  have:=(r.inj B A k l b _ J R a4 Y U a5 L e).2
  grind
 have a6:∀ (i:Nat) (x:AV),old[i]? = some x->i<old.length/\∃ y,w.cell? ⟨l.b,l.sh+off+i,none⟩=some y/\VR μ x y:=by
  intro i x hi;have a2:i<old.length:=(List.getElem?_eq_some_iff.1 hi).1;refine ⟨a2,?_⟩
  have:cs[off+i]? = some x:=by
   grind
  have ⟨y,u,M⟩:=Q.cell (off+i) x this
  grind
 refine ⟨fun j hj=>V _ (by omega),fun j hj=>F _ (by omega),⟨?_,?_,?_,fun x hx=>K _ _ (r.pin x hx)⟩,⟨K,Nat.le_succ _,?_,?_,?_,?_,?_,?_,?_⟩⟩
 ·intro B k J
  rcases f J with ⟨rfl,rfl⟩ | ⟨_,u⟩
  ·exact ⟨xP _,by rw [fI];exact (r.dom A l R).2⟩
  ·exact ⟨Nat.lt_succ_of_lt (r.dom B k u).1,by rw [fI];exact (r.dom B k u).2⟩
 ·intro B C lb lc bb bc J hC gB gC vB vC L a7
  rcases I gB with ⟨rfl,rfl⟩ | ⟨S,rfl,rfl⟩ | ⟨S,n2,Z⟩
  ·rcases I gC with ⟨rfl,rfl⟩ | ⟨n3,rfl,rfl⟩ | ⟨n3,n4,g2⟩
   ·exact absurd rfl L
   ·simp [Blk.live] at vC
   grind
  ·simp [Blk.live] at vB
  ·rcases I gC with ⟨rfl,rfl⟩ | ⟨n3,rfl,rfl⟩ | ⟨n3,n4,g2⟩
   ·grind
   ·simp [Blk.live] at vC
   ·rcases f J with ⟨n6,_⟩ | ⟨_,M⟩
    ·exact absurd n6 S
    ·rcases f hC with ⟨n6,_⟩ | ⟨_,h3⟩
     ·exact absurd n6 n3
     ·exact r.inj B C lb lc bb bc M h3 Z g2 vB vC L a7
 ·intro B k b J gB
  rcases I gB with ⟨rfl,rfl⟩ | ⟨S,rfl,rfl⟩ | ⟨S,n2,Z⟩
  ·rcases f J with ⟨_,rfl⟩ | ⟨n5,_⟩
   ·refine ⟨⟨⟨e,by rw [bJ];exact p⟩,by simp;omega,fun i x hi=>?_⟩,rfl,fun i hi=>by rw [wM];exact F i hi⟩
    by_cases c:i<old.length
    ·grind [List.getElem?_append_left,lG,VR.mono]
    ·rw [List.getElem?_append_right (by omega)] at hi
     have ⟨y,u,M⟩:=hv.get hi;have hj:i-old.length<X.length:=(List.getElem?_eq_some_iff.1 u).1;refine ⟨y,?_,VR.mono K _ _ M⟩;show World.cell? _ ⟨l.b,l.sh+off+i,none⟩=_;rw [show l.sh+off+i=l.sh+off+old.length+(i-old.length) from by omega]
     grind [uJ]
   ·exact absurd rfl n5
  ·trivial
  ·rcases f J with ⟨n6,_⟩ | ⟨_,M⟩
   ·exact absurd n6 S
   ·by_cases hd:b.live=true
    ·exact BR.mono K (BR.heap (kK _ (O n2 M Z hd) _ _ _) (r.blk B k b M Z))
    ·cases b with
     | row b1 a1=>cases a1 <;> simp [Blk.live] at hd;trivial
     | map=>simp [Blk.live] at hd
     | siter=>simp [Blk.live] at hd
 ·intro B k J
  rcases f J with ⟨rfl,rfl⟩ | ⟨_,u⟩
  ·exact .inr ⟨xD _,.inr ⟨A,l,R,rfl,_,Y,H⟩⟩
  ·exact .inl u
 ·rintro B b2 ⟨b,hb,a3⟩
  rcases I hb with ⟨rfl,rfl⟩ | ⟨S,rfl,rfl⟩ | ⟨S,n2,Z⟩
  ·omega
  ·exact ⟨_,Y,H⟩
  ·exact ⟨b,Z,a3⟩
 ·intro k hk hm
  refine kK _ ?_ _ _ _;intro e;exact hm A l R e.symm ⟨_,Y,H⟩
 ·rw [fI];exact xD _
 ·exact (cM _ _ _ _).1
 ·exact (cM _ _ _ _).2.1
 ·exact (cM _ _ _ _).2.2
def HR.inPlaceB (I:HR μ h w) {A off t:Nat} {l:Loc} {cs old new:List AV} {W:List Value} (V:μ A=some l) {st:BState} (hg:h.t.get A=some (.row cs st)) (a9:st=.bytes t) (Y:off=0) (ho:takeN old.length (cs.drop off)=some old) (hv:VRs μ new W)
  (b2:l.sh+off+old.length+new.length<=l.tot) :
  (∀ j,j<W.length->(w.cell? ⟨l.b,l.sh+off+old.length+j,none⟩).isSome)/\(∀ j,j<W.length->w.frozen? ⟨l.b,l.sh+off+old.length+j,none⟩=false)/\
  HR (μ.add h.next ⟨l.b,l.sh+off,l.tot,false⟩) ((h.put A (.row cs .dead)).push (.row (old++new) (.bytes t))) (cT w l.b (l.sh+off+old.length) W)/\
  Ext μ h w (μ.add h.next ⟨l.b,l.sh+off,l.tot,false⟩) ((h.put A (.row cs .dead)).push (.row (old++new) (.bytes t))) (cT w l.b (l.sh+off+old.length) W):=by
 have b0:=hv.length;subst a9;have ⟨⟨Q,b6,u⟩,a8,a1⟩:=I.blk A l _ V hg;have F:(Blk.row cs (.bytes t)).isRo=false:=rfl;have a5:(Blk.row cs (.bytes t)).live=true:=rfl;have ⟨e,p⟩:=Q.shape;have ⟨b1,Z⟩:=cK ho;have U:∀ i,i<l.tot->(w.cell? ⟨l.b,i,none⟩).isSome:=fun i hi=>gV p hi;have b5:A≠h.next:=fun e=>by have:=(I.dom A l V).1;omega
 have K:μ.le (μ.add h.next ⟨l.b,l.sh+off,l.tot,false⟩):=Mu.le_add I.isNone;have f:∀ {B k},μ.add h.next ⟨l.b,l.sh+off,l.tot,false⟩ B=some k->(B=h.next/\k=⟨l.b,l.sh+off,l.tot,false⟩)\/(B≠h.next/\μ B=some k):=by
  grind [Mu.add]
 have H:∀ {B:Nat} {b:Blk},((h.put A (.row cs .dead)).push (.row (old++new) (.bytes t))).t.get B=some b->(B=h.next/\b=.row (old++new) (.bytes t))\/(B≠h.next/\B=A/\b=.row cs .dead)\/(B≠h.next/\B≠A/\h.t.get B=some b):=by
  intro B b hb;rcases Tr.get_set hb with r | ⟨r,M⟩
  ·exact .inl r
  ·rcases Tr.get_set M with h3 | ⟨h3,h4⟩
   ·grind
   ·exact .inr (.inr ⟨r,h3,h4⟩)
 have O:∀ {B k b},B≠A->μ B=some k->h.t.get B=some b->b.live=true->k.b≠l.b:=by
  intro B k b L J a4 S e
  have:=(I.inj B A k l b _ J V a4 hg S a5 L e).2
  grind
 have a6:∀ (i:Nat) (x:AV),old[i]? = some x->i<old.length/\∃ y,w.cell? ⟨l.b,l.sh+off+i,none⟩=some y/\VR μ x y:=by
  intro i x hi;have a2:i<old.length:=(List.getElem?_eq_some_iff.1 hi).1;refine ⟨a2,?_⟩
  have:cs[off+i]? = some x:=by
   grind
  have ⟨y,r,M⟩:=Q.cell (off+i) x this
  grind
 refine ⟨fun j hj=>U _ (by omega),fun j hj=>u _ (by omega),⟨?_,?_,?_,fun x hx=>K _ _ (I.pin x hx)⟩,⟨K,Nat.le_succ _,?_,?_,?_,?_,?_,?_,?_⟩⟩
 ·intro B k J
  rcases f J with ⟨rfl,rfl⟩ | ⟨_,r⟩
  ·exact ⟨xP _,by rw [fI];exact (I.dom A l V).2⟩
  ·exact ⟨Nat.lt_succ_of_lt (I.dom B k r).1,by rw [fI];exact (I.dom B k r).2⟩
 ·intro B C lb lc bb bc J hC gB gC vB vC L a7
  rcases H gB with ⟨rfl,rfl⟩ | ⟨R,rfl,rfl⟩ | ⟨R,n2,X⟩
  ·rcases H gC with ⟨rfl,rfl⟩ | ⟨n3,rfl,rfl⟩ | ⟨n3,n4,g2⟩
   ·exact absurd rfl L
   ·simp [Blk.live] at vC
   grind
  ·simp [Blk.live] at vB
  ·rcases H gC with ⟨rfl,rfl⟩ | ⟨n3,rfl,rfl⟩ | ⟨n3,n4,g2⟩
   ·grind
   ·simp [Blk.live] at vC
   ·rcases f J with ⟨n6,_⟩ | ⟨_,M⟩
    ·exact absurd n6 R
    ·rcases f hC with ⟨n6,_⟩ | ⟨_,h3⟩
     ·exact absurd n6 n3
     ·exact I.inj B C lb lc bb bc M h3 X g2 vB vC L a7
 ·intro B k b J gB
  rcases H gB with ⟨rfl,rfl⟩ | ⟨R,rfl,rfl⟩ | ⟨R,n2,X⟩
  ·rcases f J with ⟨_,rfl⟩ | ⟨n5,_⟩
   ·refine ⟨⟨⟨⟨e,by rw [bJ];exact p⟩,by simp;omega,fun i x hi=>?_⟩,rfl,fun i hi=>by rw [wM];exact u i hi⟩,by rw [bJ];exact a8,by simp [a1,Y]⟩
    by_cases c:i<old.length
    ·grind [List.getElem?_append_left,lG,VR.mono]
    ·rw [List.getElem?_append_right (by omega)] at hi
     have ⟨y,r,M⟩:=hv.get hi;have hj:i-old.length<W.length:=(List.getElem?_eq_some_iff.1 r).1;refine ⟨y,?_,VR.mono K _ _ M⟩;show World.cell? _ ⟨l.b,l.sh+off+i,none⟩=_;rw [show l.sh+off+i=l.sh+off+old.length+(i-old.length) from by omega]
     grind [uJ]
   ·exact absurd rfl n5
  ·trivial
  ·rcases f J with ⟨n6,_⟩ | ⟨_,M⟩
   ·exact absurd n6 R
   ·by_cases hd:b.live=true
    ·exact BR.mono K (BR.heap (kK _ (O n2 M X hd) _ _ _) (I.blk B k b M X))
    ·cases b with
     | row b3 a0=>cases a0 <;> simp [Blk.live] at hd;trivial
     | map=>simp [Blk.live] at hd
     | siter=>simp [Blk.live] at hd
 ·intro B k J
  rcases f J with ⟨rfl,rfl⟩ | ⟨_,r⟩
  ·exact .inr ⟨xD _,.inr ⟨A,l,V,rfl,_,hg,F⟩⟩
  ·exact .inl r
 ·rintro B b4 ⟨b,hb,a3⟩
  rcases H hb with ⟨rfl,rfl⟩ | ⟨R,rfl,rfl⟩ | ⟨R,n2,X⟩
  ·omega
  ·exact ⟨_,hg,F⟩
  ·exact ⟨b,X,a3⟩
 ·intro k hk hm
  refine kK _ ?_ _ _ _;intro e;exact hm A l V e.symm ⟨_,hg,F⟩
 ·rw [fI];exact xD _
 ·exact (cM _ _ _ _).1
 ·exact (cM _ _ _ _).2.1
 ·exact (cM _ _ _ _).2.2
def HR.grow (u:HR μ h w) (xs:List AV) (ys rest:List Value) (e:TypeId) (y:VRs μ xs ys) {len cap cap' sz:Nat} (B:len<=cap) (F:cap<=cap') (L:cap' * sz<=ys.length+rest.length) :
  ∃ f,VR f (.slice (some (h.next,0)) len cap sz) (.slice (some ⟨w.heap.size,0,none⟩) len cap')/\HR f (h.push (.row xs .grown)) (w.drew.alloc (.cells (ys++rest).toArray e))/\
   Ext μ h w f (h.push (.row xs .grown)) (w.drew.alloc (.cells (ys++rest).toArray e)):=by
 have p:HR μ h w.drew:=u.draws rfl;have j:Ext μ h w μ h w.drew:=Ext.draws rfl rfl rfl rfl;have ⟨l,H,J,K,C,I,A⟩:=p.pushGrown xs ys rest e y;refine ⟨_,?_,I,Ext.trans u j A⟩;simp only [VR];refine ⟨l,_,cap',qG _ _ _,rfl,B,.inr ⟨?_,F,?_,fun r=>by rw [C] at r;cases r⟩⟩
 ·rw [H,J];rfl
 grind
def HR.growB (u:HR μ h w) (xs:List AV) (ys rest:List Value) (e:TypeId) (y:VRs μ xs ys) {len cap cap' sz:Nat} (B:len<=cap) (F:cap<=cap') (L:cap' * sz<=ys.length+rest.length) :
  ∃ f,VR f (.slice (some (h.next,0)) len cap sz) (.slice (some ⟨w.heap.size,0,none⟩) len cap')/\HR f (h.push (.row xs (.bytes e))) (w.drew.alloc (.cells (ys++rest).toArray e))/\
   Ext μ h w f (h.push (.row xs (.bytes e))) (w.drew.alloc (.cells (ys++rest).toArray e)):=by
 have p:HR μ h w.drew:=u.draws rfl;have j:Ext μ h w μ h w.drew:=Ext.draws rfl rfl rfl rfl;have ⟨l,H,J,K,C,I,A⟩:=p.pushBytes xs ys rest e y;refine ⟨_,?_,I,Ext.trans u j A⟩;simp only [VR];refine ⟨l,_,cap',qG _ _ _,rfl,B,.inr ⟨?_,F,?_,fun r=>by rw [C] at r;cases r⟩⟩
 ·rw [H,J];rfl
 grind
def HR.kill (u:HR μ h w) {A:Nat} {cs:List AV} {st:BState} (M:h.t.get A=some (.row cs st)) (H:st=.grown\/∃ t,st=.bytes t):HR μ (h.put A (.row cs .dead)) w/\Ext μ h w μ (h.put A (.row cs .dead)) w:=by
 have r:(Blk.row cs st).isRo=false:=by rcases H with rfl | ⟨_,rfl⟩ <;> rfl
 have f:∀ {B:Nat} {b:Blk},(h.put A (.row cs .dead)).t.get B=some b->(B=A/\b=.row cs .dead)\/(B≠A/\h.t.get B=some b):=fun V=>Tr.get_set V;refine ⟨⟨u.dom,?_,?_,u.pin⟩,⟨Mu.le_refl μ,xD _,fun _ _ h=>.inl h,?_,fun _ _ _=>rfl,xD _,rfl,rfl,rfl⟩⟩
 ·intro B C R X S W y O j U K L I J
  rcases f j with ⟨rfl,rfl⟩ | ⟨_,p⟩
  ·simp [Blk.live] at K
  ·rcases f U with ⟨rfl,rfl⟩ | ⟨_,Q⟩
   ·simp [Blk.live] at L
   ·exact u.inj B C R X S W y O p Q K L I J
 ·intro B k b y j
  rcases f j with ⟨rfl,rfl⟩ | ⟨_,p⟩
  ·trivial
  ·exact u.blk B k b y p
 ·rintro B _ ⟨b,j,F⟩
  rcases f j with ⟨rfl,rfl⟩ | ⟨_,p⟩
  ·exact ⟨_,M,r⟩
  ·exact ⟨b,p,F⟩
end
end Ai
namespace Ai
def rA {P:Program} {α β:Type} {x:Sem α} {f:α->Sem β} {w w':World} {a:α} (h:x.run P w=.ok a w'):(x >>= f).run P w=(f a).run P w':=by
 simp_all
def eAk (P:Program) (st xt ty:TypeId) (e:TypeId) (base':Option Addr) (len cap' n:Nat) (xu:Value) (w:World) (d:TypeDesc) (i:TypeInfo) (h1:P.underlying st=some (.slice e)) (h2:P.underlying xt=some d) (hd:wS d=false) (hinfo:P.info? e=some i) (hl:(Builtin.lenOf xu).run P w=.ok n w) :
  (Builtin.append_ #[st,xt] ty #[.slice base' len cap',xu]).run P w=(if len+n<=cap' then (do
    let new <- Builtin.firstCells i.size n xu
    match base' with
    | some a=>storeCells (a.add (len * i.size)) new.toList
    | none=>pure ()
    pure (.slice base' (len+n) cap'))
   else (do
    if ((len+n:Nat):Int) > IntKind.i64.max/\(false=true\/(<- typeInfo e).bytes=0) then runtimePanic (.error "growslice: len out of range")
    if Builtin.nextslicecap (len+n) cap' * (<- typeInfo e).bytes > 2 ^ 48 then (if false=true then runtimePanic (.error "growslice: len out of range") else do
     if !(<- Builtin.mayShare i.size len n base' xu) then mark .noRoom
     unsupported (.resourceLimit "append: a slice or a string whose bytes no memory bears"))
    let newCap <- choose (.appendCap (len+n) cap' e)
    askRoom (newCap * (<- typeInfo e).bytes)
    let old <- Builtin.firstCells i.size len (.slice base' len cap')
    let new <- Builtin.firstCells i.size n xu
    let rest:=Builtin.zeroCells (<- zeroValue e).cells (newCap-(len+n))
    pure (.slice (some (<- newRow e (old++new++rest))) (len+n) newCap)):Sem Value).run P w:=by
 refine (rA (P:=P) (pB h1)).trans ?_;refine (rA (P:=P) (pAo hinfo)).trans ?_;refine (rA (P:=P) (pB h2)).trans ?_;cases d <;> first
  | (simp [wS] at hd;done)
  | (refine (rA (P:=P) (a:=n) (w':=w) hl).trans ?_
     cases base' <;> rfl)
section
variable {E:Env} {P:Program} {μ:Mu} {h:Heap} {w:World}
def bP (z:Array Value) (n:Nat):(Builtin.zeroCells z n).size=n * z.size:=by simp [Builtin.zeroCells]
def uX (ok:EnvOK E P) (hr:HR μ h w) {e:TypeId} {i:TypeInfo} {base':Option Addr} {len cap' n:Nat} {xu:Value} {old new:List AV} {yo yn:List Value} {z:AV}
  (hi:E.info e=some i) (hz:E.zero e=some z) (hzl:z.cells.length=i.size) (hroom:(len+n) * (i.bytes+i.size+1)<=1073741824) (hc:¬ (len+n<=cap'))
  (ho:∀ w':World,w'.heap=w.heap->(Builtin.firstCells i.size len (.slice base' len cap')).run P w'=.ok yo.toArray w') (hyo:VRs μ old yo) (holen:yo.length=len * i.size)
  (hn:∀ w':World,w'.heap=w.heap->(Builtin.firstCells i.size n xu).run P w'=.ok yn.toArray w') (hyn:VRs μ new yn) (hnlen:yn.length=n * i.size) :
  ∃ μ' u w',(do
    if ((len+n:Nat):Int) > IntKind.i64.max/\(false=true\/(<- typeInfo e).bytes=0) then runtimePanic (.error "growslice: len out of range")
    if Builtin.nextslicecap (len+n) cap' * (<- typeInfo e).bytes > 2 ^ 48 then (if false=true then runtimePanic (.error "growslice: len out of range") else do
     if !(<- Builtin.mayShare i.size len n base' xu) then mark .noRoom
     unsupported (.resourceLimit "append: a slice or a string whose bytes no memory bears"))
    let newCap <- choose (.appendCap (len+n) cap' e)
    askRoom (newCap * (<- typeInfo e).bytes)
    let old <- Builtin.firstCells i.size len (.slice base' len cap')
    let new <- Builtin.firstCells i.size n xu
    let rest:=Builtin.zeroCells (<- zeroValue e).cells (newCap-(len+n))
    pure (.slice (some (<- newRow e (old++new++rest))) (len+n) newCap):Sem Value).run P w=.ok u w'/\
   VR μ' (.slice (some (h.next,0)) (len+n) (len+n) i.size) u/\HR μ' (h.push (.row (old++new) .grown)) w'/\Ext μ h w μ' (h.push (.row (old++new) .grown)) w':=by
 have hinfo:=ok.info e i hi;have ⟨zv,hzr,hzv⟩:=iH ok hz;have hzs:zv.cells.size=i.size:=by have:=(hzv μ).cells.length;simpa [hzl] using this
 have hlim:len+n<=1073741824:=xT (Nat.le_mul_of_pos_right _ (by omega)) hroom;have hmax:IntKind.i64.max=9223372036854775807:=by decide
 have hbytes:(len+n) * i.bytes<=1073741824:=xT (Nat.mul_le_mul_left _ (by omega)) hroom;have hbb:i.bytes<=1073741824:=by
  have h1:1<=len+n:=by omega
  exact xT (by have:=Nat.mul_le_mul_right i.bytes h1;omega) hbytes
 have hnext:Builtin.nextslicecap (len+n) cap' * i.bytes<=281474976710656:=by
  have:=iA8 (len+n) cap' (by omega)
  calc Builtin.nextslicecap (len+n) cap' * i.bytes<=(3 * (len+n)+2000) * i.bytes:=Nat.mul_le_mul_right _ this
   _=3 * ((len+n) * i.bytes)+2000 * i.bytes:=by grind
   _<=281474976710656:=by omega
 have c1:¬ (((len+n:Nat):Int) > IntKind.i64.max/\(false=true\/i.bytes=0)):=by grind
 have e48:(2:Nat) ^ 48=281474976710656:=by decide
 have c2:¬ (Builtin.nextslicecap (len+n) cap' * i.bytes > 2 ^ 48):=by rw [e48];omega
 obtain ⟨k,hk⟩:∃ k,Question.cut (.appendCap (len+n) cap' e) (w.tape w.drawn (.appendCap (len+n) cap' e))=len+n+k:=⟨_,rfl⟩;have hrest:k * i.size=(Builtin.zeroCells zv.cells k).toList.length:=by
  rw [Array.length_toList,bP,hzs]
 have ⟨μ',g1,g2,g3⟩:=hr.grow (old++new) (yo++yn) (Builtin.zeroCells zv.cells k).toList e (VRs.append hyo hyn) (len:=len+n) (cap:=len+n) (cap':=len+n+k) (sz:=i.size) (xD _) (by omega)
  (by grind)
 refine ⟨μ',_,_,?_,g1,g2,g3⟩;refine (rA (P:=P) (pH hinfo)).trans ?_;rw [if_neg c1];refine (rA (P:=P) (pH hinfo)).trans ?_;rw [if_neg c2];refine (rA (P:=P) (a:=len+n+k) (w':=w.drew) ?_).trans ?_
 ·rw [run_choose]
  show (if Question.forced _=true then _ else _)=_;rw [if_neg (by simp [Question.forced]),hk];rfl
 refine (rA (P:=P) (pH hinfo)).trans ?_;refine (rA (P:=P) (run_askRoom _ _ _)).trans ?_;refine (rA (P:=P) (ho w.drew rfl)).trans ?_;refine (rA (P:=P) (hn w.drew rfl)).trans ?_;refine (rA (P:=P) (hzr _)).trans ?_;show Sem.run P (newRow e _ >>= _) _=_;have e1:len+n+k-(len+n)=k:=by omega
 simp only [Sem.run_bind,newRow,run_newObj,Result.andThen_ok,Sem.run_pure,e1];have e2:(yo.toArray++yn.toArray++Builtin.zeroCells zv.cells k)=(yo++yn++(Builtin.zeroCells zv.cells k).toList).toArray:=by
  apply Array.ext';simp
 rw [e2];rfl
def nA3 (ok:EnvOK E P) (hr:HR μ h w) {e:TypeId} {i:TypeInfo} {base':Option Addr} {len cap' n:Nat} {xu:Value} {old new:List AV} {yo yn:List Value} {z:AV}
  (hi:E.info e=some i) (hz:E.zero e=some z) (hzl:z.cells.length=i.size) (hroom:(len+n) * (i.bytes+i.size+1)<=1073741824) (hc:¬ (len+n<=cap'))
  (ho:∀ w':World,w'.heap=w.heap->(Builtin.firstCells i.size len (.slice base' len cap')).run P w'=.ok yo.toArray w') (hyo:VRs μ old yo) (holen:yo.length=len * i.size)
  (hn:∀ w':World,w'.heap=w.heap->(Builtin.firstCells i.size n xu).run P w'=.ok yn.toArray w') (hyn:VRs μ new yn) (hnlen:yn.length=n * i.size) :
  ∃ μ' u w',(do
    if ((len+n:Nat):Int) > IntKind.i64.max/\(false=true\/(<- typeInfo e).bytes=0) then runtimePanic (.error "growslice: len out of range")
    if Builtin.nextslicecap (len+n) cap' * (<- typeInfo e).bytes > 2 ^ 48 then (if false=true then runtimePanic (.error "growslice: len out of range") else do
     if !(<- Builtin.mayShare i.size len n base' xu) then mark .noRoom
     unsupported (.resourceLimit "append: a slice or a string whose bytes no memory bears"))
    let newCap <- choose (.appendCap (len+n) cap' e)
    askRoom (newCap * (<- typeInfo e).bytes)
    let old <- Builtin.firstCells i.size len (.slice base' len cap')
    let new <- Builtin.firstCells i.size n xu
    let rest:=Builtin.zeroCells (<- zeroValue e).cells (newCap-(len+n))
    pure (.slice (some (<- newRow e (old++new++rest))) (len+n) newCap):Sem Value).run P w=.ok u w'/\
   VR μ' (.slice (some (h.next,0)) (len+n) (len+n) i.size) u/\HR μ' (h.push (.row (old++new) (.bytes e))) w'/\Ext μ h w μ' (h.push (.row (old++new) (.bytes e))) w':=by
 have hinfo:=ok.info e i hi;have ⟨zv,hzr,hzv⟩:=iH ok hz;have hzs:zv.cells.size=i.size:=by have:=(hzv μ).cells.length;simpa [hzl] using this
 have hlim:len+n<=1073741824:=xT (Nat.le_mul_of_pos_right _ (by omega)) hroom;have hmax:IntKind.i64.max=9223372036854775807:=by decide
 have hbytes:(len+n) * i.bytes<=1073741824:=xT (Nat.mul_le_mul_left _ (by omega)) hroom;have hbb:i.bytes<=1073741824:=by
  have h1:1<=len+n:=by omega
  exact xT (by have:=Nat.mul_le_mul_right i.bytes h1;omega) hbytes
 have hnext:Builtin.nextslicecap (len+n) cap' * i.bytes<=281474976710656:=by
  have:=iA8 (len+n) cap' (by omega)
  calc Builtin.nextslicecap (len+n) cap' * i.bytes<=(3 * (len+n)+2000) * i.bytes:=Nat.mul_le_mul_right _ this
   _=3 * ((len+n) * i.bytes)+2000 * i.bytes:=by grind
   _<=281474976710656:=by omega
 have c1:¬ (((len+n:Nat):Int) > IntKind.i64.max/\(false=true\/i.bytes=0)):=by grind
 have e48:(2:Nat) ^ 48=281474976710656:=by decide
 have c2:¬ (Builtin.nextslicecap (len+n) cap' * i.bytes > 2 ^ 48):=by rw [e48];omega
 obtain ⟨k,hk⟩:∃ k,Question.cut (.appendCap (len+n) cap' e) (w.tape w.drawn (.appendCap (len+n) cap' e))=len+n+k:=⟨_,rfl⟩;have hrest:k * i.size=(Builtin.zeroCells zv.cells k).toList.length:=by
  rw [Array.length_toList,bP,hzs]
 have ⟨μ',g1,g2,g3⟩:=hr.growB (old++new) (yo++yn) (Builtin.zeroCells zv.cells k).toList e (VRs.append hyo hyn) (len:=len+n) (cap:=len+n) (cap':=len+n+k) (sz:=i.size) (xD _) (by omega)
  (by grind)
 refine ⟨μ',_,_,?_,g1,g2,g3⟩;refine (rA (P:=P) (pH hinfo)).trans ?_;rw [if_neg c1];refine (rA (P:=P) (pH hinfo)).trans ?_;rw [if_neg c2];refine (rA (P:=P) (a:=len+n+k) (w':=w.drew) ?_).trans ?_
 ·rw [run_choose]
  show (if Question.forced _=true then _ else _)=_;rw [if_neg (by simp [Question.forced]),hk];rfl
 refine (rA (P:=P) (pH hinfo)).trans ?_;refine (rA (P:=P) (run_askRoom _ _ _)).trans ?_;refine (rA (P:=P) (ho w.drew rfl)).trans ?_;refine (rA (P:=P) (hn w.drew rfl)).trans ?_;refine (rA (P:=P) (hzr _)).trans ?_;show Sem.run P (newRow e _ >>= _) _=_;have e1:len+n+k-(len+n)=k:=by omega
 simp only [Sem.run_bind,newRow,run_newObj,Result.andThen_ok,Sem.run_pure,e1];have e2:(yo.toArray++yn.toArray++Builtin.zeroCells zv.cells k)=(yo++yn++(Builtin.zeroCells zv.cells k).toList).toArray:=by
  apply Array.ext';simp
 rw [e2];rfl
def vAf (ok:EnvOK E P) (O:HR μ h w) {st xt ty:TypeId} {s x y:AV} {su xu:Value} {h':Heap} (Z:VR μ s su) (b7:VR μ x xu) (f:nB E st xt s x h=some (y,h')) :
  DV P (Builtin.append_ #[st,xt] ty #[su,xu]) μ h w y h':=by
 unfold nB at f
 cases a9:E.und xt with
 | none=>simp [a9] at f
 | some d=>
  simp only [a9] at f
  cases hd:wS d with
  | true=>simp only [hd,xA] at f;cases f
  | false=>
   simp only [hd,xB] at f
   split at f
   ·rename_i e base len cap sz M
    cases hi:E.info e with
    | none=>simp [hi] at f
    | some i=>
     cases hz:E.zero e with
     | none=>simp [hi,hz] at f
     | some z=>
      simp only [hi,hz] at f
      cases hn:iM x with
      | none=>simp [hn] at f
      | some n=>
       simp only [hn] at f
       cases hf:yD h i.size n x with
       | none=>simp [hf] at f
       | some new=>
        simp only [hf] at f;have a8:=ok.info e i hi;obtain ⟨ys,K,F,b6⟩:=dAk (P:=P) O b7 hn n (xD n) hf;obtain ⟨C,cap',rfl⟩:=Z.slice_form;have I:=eAk P st xt ty e C len cap' n xu w d i (aB ok M) (aB ok a9) hd a8 b6
        cases a3:Nat.beq n 0 with
        | true=>
         simp only [a3,xA,xF,xI] at f;obtain ⟨rfl,rfl⟩:=f;have c0:n=0:=xK a3;subst c0;have R:len+0<=cap':=by
          cases base with
          | none=>simp only [VR] at Z;grind
          | some q=>
           obtain ⟨A,off⟩:=q;simp only [VR] at Z
           grind
         have b3:ys=[]:=by
          have Y:=F.length
          have:new.length=0:=by
           unfold yD at hf
           split at hf
           ·obtain ⟨a6,e1⟩:∃ a6,takeN (0 * i.size) a6=some new:=by
             grind [Heap.read]
            rw [Nat.zero_mul] at e1;simp [takeN] at e1;subst e1;rfl
           ·grind
           ·simp [ofBytes] at hf;subst hf;rfl
           ·simp at hf
          grind
         subst b3;refine ⟨μ,.slice C len cap',w,?_,Z,O,Ext.refl μ h w⟩;rw [I,if_pos R];refine (rA (P:=P) (K w rfl)).trans ?_;cases C <;> rfl
        | false=>
         simp only [a3,xB] at f;have b8:0<n:=by
          rcases Nat.eq_zero_or_pos n with h0 | h0
          ·subst h0;cases a3
          ·exact h0
         cases hb:(Nat.ble ((len+n) * (i.bytes+i.size+1)) bA3&&Nat.beq z.cells.length i.size&&(Nat.beq sz i.size||base.isNone)&&Nat.beq new.length (n * i.size)&&new.all AV.single) with
         | false=>simp [hb] at f
         | true=>
          simp only [hb,xA] at f;simp only [xG] at hb;have J:(len+n) * (i.bytes+i.size+1)<=1073741824:=Nat.le_of_ble_eq_true hb.1.1.1.1;have a0:z.cells.length=i.size:=xK hb.1.1.1.2;have Q:ys.length=n * i.size:=by rw [F.length];exact xK hb.1.2
          have W:∀ v∈ys,v.oneCell'=true:=by
           intro v hv;obtain ⟨j,hj,rfl⟩:=List.mem_iff_getElem.1 hv;have b5:j<new.length:=by rw [<- F.length];exact hj
           obtain ⟨y',h5,h6⟩:=F.get (i:=j) (x:=new[j]) (by simp [b5]);rw [List.getElem?_eq_getElem hj] at h5;rw [Option.some.inj h5];exact h6.single (List.all_eq_true.1 hb.2 _ (xR b5))
          have fresh:∀ {old:List AV} {yo:List Value},¬ (len+n<=cap')->(∀ w':World,w'.heap=w.heap->(Builtin.firstCells i.size len (.slice C len cap')).run P w'=.ok yo.toArray w')->
            VRs μ old yo->yo.length=len * i.size->DV P (Builtin.append_ #[st,xt] ty #[.slice C len cap',xu]) μ h w (.slice (some (h.next,0)) (len+n) (len+n) i.size) (h.push (.row (old++new) .grown)):=by
           intro old yo hc ho b0 B;obtain ⟨L,u,w',g1,g2,g3,g4⟩:=uX ok O hi hz a0 J hc ho b0 B K F Q;exact ⟨L,u,w',by grind,g2,g3,g4⟩
          have b4:jM h base len cap i.size n new=some (y,h')->DV P (Builtin.append_ #[st,xt] ty #[.slice C len cap',xu]) μ h w y h':=by
           clear f
           intro f;unfold jM at f
           split at f
           ·
            simp only [xF,xI] at f;obtain ⟨rfl,rfl⟩:=f;simp only [VR] at Z;obtain ⟨Y,rfl,rfl⟩:=Z;simp only [Value.slice.injEq] at Y;obtain ⟨rfl,_,rfl⟩:=Y
            have:=fresh (old:=[]) (yo:=[]) (by omega) (fun w' _=>by simp [Builtin.firstCells]) VRs.nil (by simp)
            simpa using this
           ·rename_i A off
            have a1:sz=i.size:=by
             have:=hb.1.1.2
             simpa using this
            subst a1;simp only [VR] at Z;obtain ⟨l,a',c',hA,Y,b9,H⟩:=Z;simp only [Value.slice.injEq] at Y;obtain ⟨rfl,_,rfl⟩:=Y
            split at f
            ·rename_i cs X
             cases r:takeN (len * i.size) (cs.drop off) with
             | none=>simp [r] at f
             | some old=>
              simp only [r] at f;have hB:=O.blk A l _ hA X;obtain ⟨yo,V,r2,r3⟩:=hB.1.read r;have S:∀ w':World,w'.heap=w.heap->(Builtin.firstCells i.size len (.slice (some a') len cap')).run P w'=.ok yo.toArray w':=by
               intro w' hw;rcases H with ⟨d1,d2⟩ | ⟨rfl,_⟩
               ·have:len=0:=by omega
                subst this
                have:yo=[]:=List.eq_nil_of_length_eq_zero (by simpa using V)
                subst this;simp [Builtin.firstCells,loadCells,loadCellsFrom]
               grind [Builtin.firstCells,run_loadCells,dK]
              cases R:Nat.ble (len+n) cap with
              | true=>
               simp only [R,xA] at f;have p:len+n<=cap:=by simpa using R
               cases a7:over (off+len * i.size) cs new with
               | none=>simp [a7] at f
               | some a6=>
                simp only [a7,xF,xI] at f;obtain ⟨rfl,rfl⟩:=f;rcases H with ⟨d1,d2⟩ | ⟨rfl,d1,d2,d3⟩
                ·omega
                ·obtain ⟨k1,k2,k3,k4⟩:=O.write hA X (.inl rfl) a7 F
                 refine ⟨μ,.slice (some ⟨l.b,l.sh+off,none⟩) (len+n) cap',_,?_,?_,k3,k4⟩
                 ·rw [I,if_pos (by omega)]
                  refine (rA (P:=P) (K w rfl)).trans ?_;have M:=mG (P:=P) l.b (l.sh+off+len * i.size) ys 0 w W (by grind) (by grind);have U:(storeCells ((⟨l.b,l.sh+off,none⟩:Addr).add (len * i.size)) ys).run P w=.ok () (cT w l.b (l.sh+(off+len * i.size)) ys):=by
                   rw [eI,M,xX,Nat.add_assoc]
                  exact (rA (P:=P) U).trans rfl
                 ·simp only [VR];grind
              | false=>
               simp only [R,xB,xF,xI] at f;obtain ⟨rfl,rfl⟩:=f;have p:¬ (len+n<=cap):=fun hh=>by rw [show Nat.ble (len+n) cap=true from by simpa using hh] at R;cases R
               refine fresh ?_ S r3 V;rcases H with ⟨d1,d2⟩ | ⟨_,d1,d2,d3⟩
               ·omega
               ·have:=d3 hB.2.1;omega
            ·rename_i cs X
             cases r:takeN (len * i.size) (cs.drop off) with
             | none=>simp [r] at f
             | some old=>
              simp only [r,xF,xI] at f;obtain ⟨rfl,rfl⟩:=f;have hB:=O.blk A l _ hA X;obtain ⟨yo,V,r2,r3⟩:=hB.1.read r;have B:old.length=len * i.size:=by rw [<- r3.length];exact V
              by_cases p:len+n<=cap'
              ·rcases H with ⟨d1,d2⟩ | ⟨rfl,d1,d2,d3⟩
               ·omega
               ·have a2:(len+n) * i.size<=cap' * i.size:=Nat.mul_le_mul_right _ p
                rw [Nat.add_mul] at a2;obtain ⟨k1,k2,k3,k4⟩:=O.inPlace hA X (.inl rfl) (by rw [B];exact r) F (by rw [B,<- F.length,Q];omega);refine ⟨_,.slice (some ⟨l.b,l.sh+off,none⟩) (len+n) cap',_,?_,?_,k3,k4⟩
                ·rw [I,if_pos p]
                 refine (rA (P:=P) (K w rfl)).trans ?_;rw [B] at k1 k2;have M:=mG (P:=P) l.b (l.sh+off+len * i.size) ys 0 w W (by grind) (by grind);have U:(storeCells ((⟨l.b,l.sh+off,none⟩:Addr).add (len * i.size)) ys).run P w=.ok () (cT w l.b (l.sh+off+old.length) ys):=by
                  rw [eI,M,xX,B]
                 simp_all
                ·simp only [VR]
                 refine ⟨_,_,cap',qG _ _ _,rfl,xD _,.inr ⟨rfl,p,?_,fun hh=>by cases hh⟩⟩;simpa using d2
              ·
               obtain ⟨q1,q2⟩:=O.kill X (.inl rfl);have S:∀ w':World,w'.heap=w.heap->(Builtin.firstCells i.size len (.slice (some a') len cap')).run P w'=.ok yo.toArray w':=by
                intro w' hw;rcases H with ⟨d1,d2⟩ | ⟨rfl,_⟩
                ·have:len=0:=by omega
                 subst this
                 have:yo=[]:=List.eq_nil_of_length_eq_zero (by simpa using V)
                 subst this;simp [Builtin.firstCells,loadCells,loadCellsFrom]
                grind [Builtin.firstCells,run_loadCells,dK]
               obtain ⟨L,u,w',g1,g2,g3,g4⟩:=uX ok q1 hi hz a0 J p S r3 V K F Q;exact ⟨L,u,w',by grind,g2,g3,Ext.trans O q2 g4⟩
            ·rename_i cs t X
             cases r:takeN (len * i.size) (cs.drop off) with
             | none=>simp [r] at f
             | some old=>
              simp only [r,xF,xI] at f;obtain ⟨rfl,rfl⟩:=f;have hB:=O.blk A l _ hA X;obtain ⟨yo,V,r2,r3⟩:=hB.1.1.read r;have B:old.length=len * i.size:=by rw [<- r3.length];exact V
              by_cases p:len+n<=cap'
              ·rcases H with ⟨d1,d2⟩ | ⟨rfl,d1,d2,d3⟩
               ·omega
               ·have a2:(len+n) * i.size<=cap' * i.size:=Nat.mul_le_mul_right _ p
                rw [Nat.add_mul] at a2;obtain ⟨k1,k2,k3,k4⟩:=O.inPlace hA X (.inr ⟨_,rfl⟩) (by rw [B];exact r) F (by rw [B,<- F.length,Q];omega);refine ⟨_,.slice (some ⟨l.b,l.sh+off,none⟩) (len+n) cap',_,?_,?_,k3,k4⟩
                ·rw [I,if_pos p]
                 refine (rA (P:=P) (K w rfl)).trans ?_;rw [B] at k1 k2;have M:=mG (P:=P) l.b (l.sh+off+len * i.size) ys 0 w W (by grind) (by grind);have U:(storeCells ((⟨l.b,l.sh+off,none⟩:Addr).add (len * i.size)) ys).run P w=.ok () (cT w l.b (l.sh+off+old.length) ys):=by
                  rw [eI,M,xX,B]
                 simp_all
                ·simp only [VR]
                 refine ⟨_,_,cap',qG _ _ _,rfl,xD _,.inr ⟨rfl,p,?_,fun hh=>by cases hh⟩⟩;simpa using d2
              ·
               obtain ⟨q1,q2⟩:=O.kill X (.inr ⟨_,rfl⟩);have S:∀ w':World,w'.heap=w.heap->(Builtin.firstCells i.size len (.slice (some a') len cap')).run P w'=.ok yo.toArray w':=by
                intro w' hw;rcases H with ⟨d1,d2⟩ | ⟨rfl,_⟩
                ·have:len=0:=by omega
                 subst this
                 have:yo=[]:=List.eq_nil_of_length_eq_zero (by simpa using V)
                 subst this;simp [Builtin.firstCells,loadCells,loadCellsFrom]
                grind [Builtin.firstCells,run_loadCells,dK]
               obtain ⟨L,u,w',g1,g2,g3,g4⟩:=uX ok q1 hi hz a0 J p S r3 V K F Q;exact ⟨L,u,w',by grind,g2,g3,Ext.trans O q2 g4⟩
            ·simp at f
          cases b2:bZ d with
          | false=>grind
          | true=>
           simp only [b2,xA] at f;have a5:∀ {old:List AV} {yo:List Value},¬ (len+n<=cap')->(∀ w':World,w'.heap=w.heap->(Builtin.firstCells i.size len (.slice C len cap')).run P w'=.ok yo.toArray w')->
             VRs μ old yo->yo.length=len * i.size->DV P (Builtin.append_ #[st,xt] ty #[.slice C len cap',xu]) μ h w (.slice (some (h.next,0)) (len+n) (len+n) i.size) (h.push (.row (old++new) (.bytes e))):=by
            intro old yo hc ho b0 B;obtain ⟨L,u,w',g1,g2,g3,g4⟩:=nA3 ok O hi hz a0 J hc ho b0 B K F Q;exact ⟨L,u,w',by grind,g2,g3,g4⟩
           unfold growB at f
           split at f
           ·
            simp only [xF,xI] at f;obtain ⟨rfl,rfl⟩:=f;simp only [VR] at Z;obtain ⟨Y,rfl,rfl⟩:=Z;simp only [Value.slice.injEq] at Y;obtain ⟨rfl,_,rfl⟩:=Y
            have:=a5 (old:=[]) (yo:=[]) (by omega) (fun w' _=>by simp [Builtin.firstCells]) VRs.nil (by simp)
            simpa using this
           ·rename_i A off
            split at f
            ·rename_i cs t X
             cases a4:Nat.beq t e&&Nat.beq off 0 with
             | false=>grind
             | true=>
              simp only [a4,xA] at f;simp only [xG] at a4;have ht:t=e:=xK a4.1;have b1:off=0:=xK a4.2;subst ht;have a1:sz=i.size:=by
               have:=hb.1.1.2
               simpa using this
              subst a1;simp only [VR] at Z;obtain ⟨l,a',c',hA,Y,b9,H⟩:=Z;simp only [Value.slice.injEq] at Y;obtain ⟨rfl,_,rfl⟩:=Y
              cases r:takeN (len * i.size) (cs.drop off) with
              | none=>simp [r] at f
              | some old=>
               simp only [r,xF,xI] at f;obtain ⟨rfl,rfl⟩:=f;have hB:=O.blk A l _ hA X;obtain ⟨yo,V,r2,r3⟩:=hB.1.1.read r;have B:old.length=len * i.size:=by rw [<- r3.length];exact V
               by_cases p:len+n<=cap'
               ·rcases H with ⟨d1,d2⟩ | ⟨rfl,d1,d2,d3⟩
                ·omega
                ·have a2:(len+n) * i.size<=cap' * i.size:=Nat.mul_le_mul_right _ p
                 rw [Nat.add_mul] at a2;obtain ⟨k1,k2,k3,k4⟩:=O.inPlaceB hA X rfl b1 (by rw [B];exact r) F (by rw [B,<- F.length,Q];omega);refine ⟨_,.slice (some ⟨l.b,l.sh+off,none⟩) (len+n) cap',_,?_,?_,k3,k4⟩
                 ·rw [I,if_pos p]
                  refine (rA (P:=P) (K w rfl)).trans ?_;rw [B] at k1 k2;have M:=mG (P:=P) l.b (l.sh+off+len * i.size) ys 0 w W (by grind) (by grind);have U:(storeCells ((⟨l.b,l.sh+off,none⟩:Addr).add (len * i.size)) ys).run P w=.ok () (cT w l.b (l.sh+off+old.length) ys):=by
                   rw [eI,M,xX,B]
                  simp_all
                 ·simp only [VR]
                  refine ⟨_,_,cap',qG _ _ _,rfl,xD _,.inr ⟨rfl,p,?_,fun hh=>by cases hh⟩⟩;simpa using d2
               ·
                obtain ⟨q1,q2⟩:=O.kill X (.inr ⟨_,rfl⟩);have S:∀ w':World,w'.heap=w.heap->(Builtin.firstCells i.size len (.slice (some a') len cap')).run P w'=.ok yo.toArray w':=by
                 intro w' hw;rcases H with ⟨d1,d2⟩ | ⟨rfl,_⟩
                 ·have:len=0:=by omega
                  subst this
                  have:yo=[]:=List.eq_nil_of_length_eq_zero (by simpa using V)
                  subst this;simp [Builtin.firstCells,loadCells,loadCellsFrom]
                 ·simp only [Builtin.firstCells]
                  grind [run_loadCells,dK]
                obtain ⟨L,u,w',g1,g2,g3,g4⟩:=nA3 ok q1 hi hz a0 J p S r3 V K F Q;exact ⟨L,u,w',by grind,g2,g3,Ext.trans O q2 g4⟩
            ·exact b4 f
   ·simp at f
end
end Ai
namespace Ai
section
variable {E:Env} {P:Program} {μ:Mu} {h:Heap} {w:World}
theorem bAb (w:World) (b n:Nat) (c:Array Value) (e:TypeId) (f:w.heap[b]? = some (.cells c e (0,0))) (k:Nat) (j:k<n):(w.freeze ⟨b,n,none⟩ 1).frozen? ⟨b,k,none⟩=false:=by
 unfold World.freeze World.frozen?
 grind
def fAk (w:World) (b n k:Nat) (h:k≠b):(w.freeze ⟨b,n,none⟩ 1).heap[k]? = w.heap[k]?:=by
 unfold World.freeze
 grind
theorem gAk (w:World) (b n:Nat) (p:Addr):(w.freeze ⟨b,n,none⟩ 1).cell? p=w.cell? p:=by
 unfold World.freeze World.cell?
 grind
theorem wAf (w:World) (b n r:Nat):(w.freeze ⟨b,n,none⟩ 1).shape? r=w.shape? r:=by
 unfold World.freeze World.shape?
 grind
def iAk (K:HR μ h w) (e:TypeId) (s:List UInt8):DV P (Conv.stringToBytes e ⟨s.toArray⟩) μ h w (.slice (some (h.next,0)) s.length s.length 1) (h.push (.row (ofBytes s) .grown)):=by
 have Q:(⟨s.toArray⟩:ByteArray).size=s.length:=rfl;obtain ⟨k,hk⟩:∃ k,Question.cut (.appendCap s.length 0 e) (w.tape w.drawn (.appendCap s.length 0 e))=s.length+k:=⟨_,rfl⟩
 let ys:List Value:=s.map fun b=>Value.int .u8 b.toNat
 let rest:List Value:=List.replicate k (.int .u8 0)
 have O:VRs μ (ofBytes s) ys:=uT s;have V:ys.length=s.length:=by simp [ys]
 have L:rest.length=k:=by simp [rest]
 have S:HR μ h w.drew:=K.draws rfl;have ⟨l,l1,Z,l3,l4,F,h6⟩:=S.pushGrown (ofBytes s) ys rest e O
 let r:World:=w.drew.alloc (.cells (ys++rest).toArray e)
 have a0:r.heap[w.heap.size]? = some (.cells (ys++rest).toArray e):=by show (w.heap.push _)[_]? = _;simp
 have hn:(ys++rest).length=s.length+k:=by simp [V,L]
 let C:World:=r.freeze ⟨w.heap.size,s.length+k,none⟩ 1
 have f:C.heap.size=r.heap.size:=by simp [C,World.freeze]
 have Y:∀ j,j≠w.heap.size->C.heap[j]? = r.heap[j]?:=fun j hj=>fAk r _ _ _ hj;refine ⟨_,.slice (some ⟨w.heap.size,0,none⟩) s.length (s.length+k),C,?_,?_,⟨?_,F.inj,?_,F.pin⟩,?_⟩
 ·unfold Conv.stringToBytes
  refine (rA (P:=P) (a:=s.length+k) (w':=w.drew) ?_).trans ?_
  ·rw [run_choose]
   show (if Question.forced _=true then _ else _)=_;rw [if_neg (by simp [Question.forced]),Q,hk];rfl
  have he:((⟨s.toArray⟩:ByteArray).data.map (fun b=>Value.int .u8 (b.toNat:Int))++Array.replicate (s.length+k-(⟨s.toArray⟩:ByteArray).size) (Value.int .u8 0))=(ys++rest).toArray:=by
   grind
  simp only [he];refine (rA (P:=P) (a:=(⟨w.heap.size,0,none⟩:Addr)) (w':=r) rfl).trans ?_;have u:r.shape? w.heap.size=some (e,s.length+k):=by
   grind [World.shape?]
  refine (rA (P:=P) (a:=()) (w':=C) ?_).trans rfl;unfold markStringish;refine (rA (P:=P) (a:=some (e,s.length+k)) (w':=r) ?_).trans rfl;rw [run_shape,u]
 ·simp only [VR]
  refine ⟨l,_,s.length+k,qG _ _ _,rfl,xD _,.inr ⟨?_,by omega,?_,fun X=>by rw [l4] at X;cases X⟩⟩
  ·rw [l1,Z];rfl
  ·rw [Z,l3];omega
 ·intro A m p;rw [f];exact F.dom A m p
 ·intro A m b p H
  by_cases I:m.b=w.heap.size
  ·have U:A=h.next:=by
    unfold Mu.add at p
    split at p
    ·rename_i e;exact e
    ·have:=(K.dom A m p).2;omega
   subst U;have W:m=l:=by rw [qG] at p;cases p;rfl
   subst W;have R:b=.row (ofBytes s) .grown:=by
    rcases Tr.get_set H with ⟨_,M⟩ | ⟨M,_⟩
    ·exact M
    ·exact absurd rfl M
   subst R;have ⟨J,q2,q3⟩:=F.blk _ _ _ p H;refine ⟨⟨?_,J.fits,?_⟩,q2,?_⟩
   ·have ⟨e',a1⟩:=J.shape
    grind [wAf]
   ·intro i x hi
    have ⟨y,h7,h8⟩:=J.cell i x hi
    grind [gAk]
   ·intro i hi
    grind [bAb]
  ·exact BR.heap (Y _ I) (F.blk A m b p H)
 ·have B:Ext μ h w (μ.add h.next l) (h.push (.row (ofBytes s) .grown)) r:=Ext.trans K (Ext.draws (w':=w.drew) rfl rfl rfl rfl) h6
  exact ⟨B.mono,B.next,B.fresh,B.wr,fun b H I=>by rw [Y b (by omega)];exact B.frame b H I,by grind,B.os,B.tape,B.output⟩
def jAs (ok:EnvOK E P) (B:HR μ h w) {src dst:TypeId} {x y:AV} {u:Value} {h':Heap} (r:VR μ x u) (f:lX E src dst x h=some (y,h')):DV P (convert src dst u) μ h w y h':=by
 unfold lX at f
 split at f
 ·rename_i d1 k k' n j p
  simp only [xF,xI] at f;obtain ⟨rfl,rfl⟩:=f;simp only [VR] at r;subst r;refine ⟨μ,.int k (k.wrap n),w,?_,by simp only [VR,bN],B,Ext.refl μ h w⟩;unfold convert;refine (rA (P:=P) (pB (aB ok j))).trans ?_;refine (rA (P:=P) (pB (aB ok p))).trans ?_;cases d1 <;> rfl
 ·rename_i d1 s j p
  simp only [xF,xI] at f;obtain ⟨rfl,rfl⟩:=f;simp only [VR] at r;subst r;refine ⟨μ,.string ⟨s.toArray⟩,w,?_,by simp only [VR],B,Ext.refl μ h w⟩;unfold convert;refine (rA (P:=P) (pB (aB ok j))).trans ?_;refine (rA (P:=P) (pB (aB ok p))).trans ?_;cases d1 <;> rfl
 ·rename_i d1 k n j p
  simp only [xF,xI] at f;obtain ⟨rfl,rfl⟩:=f;simp only [VR] at r;subst r;refine ⟨μ,.string (Utf8.encode n),w,?_,by simp only [VR],B,Ext.refl μ h w⟩;unfold convert;refine (rA (P:=P) (pB (aB ok j))).trans ?_;refine (rA (P:=P) (pB (aB ok p))).trans ?_;cases d1 <;> rfl
 ·rename_i d1 e s j p
  split at f
  ·rename_i I
   simp only [xF,xI] at f;obtain ⟨rfl,rfl⟩:=f;simp only [VR] at r;subst r;have ⟨Y,u',w',g1,g2⟩:=iAk (P:=P) B e s;refine ⟨Y,u',w',?_,g2⟩;rw [<- g1];unfold convert;refine (rA (P:=P) (pB (aB ok j))).trans ?_;refine (rA (P:=P) (pB (aB ok p))).trans ?_;cases d1 <;> exact (rA (P:=P) (pB (aB ok I))).trans rfl
  ·simp at f
 ·rename_i e a len cap sz j p
  split at f
  ·rename_i I
   obtain ⟨a',c',rfl⟩:=r.slice_form;have L:(convert src dst (.slice a' len c')).run P w=(Conv.bytesToString (.slice a' len c')).run P w:=by
    unfold convert;refine (rA (P:=P) (pB (aB ok j))).trans ?_;refine (rA (P:=P) (pB (aB ok p))).trans ?_;exact (rA (P:=P) (pB (aB ok I))).trans rfl
   cases a with
   | none=>
    simp only [xF,xI] at f;obtain ⟨rfl,rfl⟩:=f;simp only [VR,Value.slice.injEq] at r;obtain ⟨⟨rfl,_⟩,_⟩:=r;exact ⟨μ,.string .empty,w,by rw [L];rfl,by simp only [VR];rfl,B,Ext.refl μ h w⟩
   | some q=>
    have ⟨A,off⟩:=q;simp only at f
    cases J:h.read A off len with
    | none=>simp [J] at f
    | some xs=>
     simp only [J] at f
     cases H:bM xs with
     | none=>simp [H] at f
     | some s=>
      simp only [H,xF,xI] at f;obtain ⟨rfl,rfl⟩:=f;simp only [VR] at r;have ⟨l,p',c2,C,h1,a6,M⟩:=r;simp only [Value.slice.injEq] at h1;obtain ⟨rfl,_,rfl⟩:=h1;have ⟨ys,g1,g2,g3,_⟩:=B.read (P:=P) C J;obtain ⟨ns,rfl,rfl⟩:=dN H g3;have W:(loadCells p' len).run P w=.ok (ns.map (Value.int .u8)).toArray w:=by
       rcases M with ⟨d1,d2⟩ | ⟨rfl,_⟩
       ·have h0:len=0:=by omega
        grind [List.eq_nil_of_length_eq_zero,loadCells,loadCellsFrom]
       ·exact g1
      refine ⟨μ,_,w,by rw [L,run_bytesToString w p' len c' ns W],?_,B,Ext.refl μ h w⟩;simp only [VR]
      congr 1
      have:=gA8 ns []
      rw [List.nil_append] at this;exact this
  ·simp at f
 ·rename_i t A off j p
  split at f
  ·rename_i cs n O X
   cases R:Nat.blt off cs.length with
   | false=>simp [R] at f
   | true=>
    simp only [R,xA,xF,xI] at f;obtain ⟨rfl,rfl⟩:=f;simp only [VR] at r;obtain ⟨l,C,rfl⟩:=r;have F:=B.row C O;have ⟨e,K⟩:=F.shape;have a3:off<cs.length:=by simp_all
    have V:¬ (l.tot<=l.sh+off):=by have:=F.fits;omega
    refine ⟨μ,.pointer (some ⟨l.b,l.sh+off,none⟩),w,?_,by simp only [VR];exact ⟨l,C,rfl⟩,B,Ext.refl μ h w⟩;have L:(convert src dst (.pointer (some ⟨l.b,l.sh+off,none⟩))).run P w=(Conv.unsafePointer src dst (.pointer (some ⟨l.b,l.sh+off,none⟩))).run P w:=by
     unfold convert;refine (rA (P:=P) (pB (aB ok j))).trans ?_;refine (rA (P:=P) (pB (aB ok p))).trans ?_;rfl
    rw [L];unfold Conv.unsafePointer;refine (rA (P:=P) (pB (aB ok j))).trans ?_;refine (rA (P:=P) (pB (aB ok p))).trans ?_;simp [Conv.seenAt,viewAt,cellsIn,K,lD (w:=w) ok X,V]
  ·simp at f
 ·rename_i u A off j p
  split at f
  ·rename_i cs e hg
   split at f
   ·rename_i n m a0 Z
    cases Q:Nat.beq cs.length (n+1)&&E.lies e off u with
    | false=>simp [Q] at f
    | true=>
     simp only [Q,xA,xF,xI] at f;obtain ⟨rfl,rfl⟩:=f;simp only [xG] at Q;have a1:cs.length=n+1:=xK Q.1;simp only [VR] at r;obtain ⟨l,C,rfl⟩:=r;have ⟨⟨F,_,S,a2,_⟩,K⟩:=B.blk A l _ C hg;have ⟨i,hi,a4,a5⟩:=iA3 ok a0;have W:=ok.lies e off u Q.2;refine ⟨μ,.pointer (some ⟨l.b,l.sh+off,none⟩),w,?_,by simp only [VR];exact ⟨l,C,rfl⟩,B,Ext.refl μ h w⟩;have L:(convert src dst (.pointer (some ⟨l.b,l.sh+off,none⟩))).run P w=(Conv.unsafePointer src dst (.pointer (some ⟨l.b,l.sh+off,none⟩))).run P w:=by
      unfold convert;refine (rA (P:=P) (pB (aB ok j))).trans ?_;refine (rA (P:=P) (pB (aB ok p))).trans ?_;rfl
     rw [L];unfold Conv.unsafePointer;refine (rA (P:=P) (pB (aB ok j))).trans ?_;refine (rA (P:=P) (pB (aB ok p))).trans ?_;have U:l.tot / P.cellsOf e=1:=by simp_all
     simp [Conv.seenAt,viewAt,variablesAt,K,lD (w:=w) ok Z,U,S,W]
   ·simp at f
  ·simp at f
 ·simp at f
end
end Ai
namespace Ai
mutual
theorem jA8:∀ (x y:AV),eqV x y=true->x=y
 | .bool a,y,h=>by cases y <;> simp [eqV] at h;cases a <;> simp_all
 | .int k a,y,h=>by cases y <;> simp [eqV,eM,qA1] at h;grind
 | .str a,y,h=>by cases y <;> simp [eqV,tH] at h;rw [h]
 | .ptr none,y,h=>by
  grind [eqV]
 | .ptr (some (A,i)),y,h=>by
  cases y <;> (try (simp [eqV] at h;done))
  rename_i p
  cases p with
  | none=>simp [eqV] at h
  | some q=>have ⟨B,j⟩:=q;simp only [eqV,xG] at h;simp_all
 | .slice none l c s,y,h=>by
  cases y <;> (try (simp [eqV] at h;done))
  rename_i p _ _ _
  cases p with
  | none=>simp only [eqV,xG] at h;simp_all
  | some q=>simp [eqV] at h
 | .slice (some (A,i)) l c s,y,h=>by
  cases y <;> (try (simp [eqV] at h;done))
  rename_i p _ _ _
  cases p with
  | none=>simp [eqV] at h
  | some q=>have ⟨B,j⟩:=q;simp only [eqV,xG] at h;simp_all
 | .map none,y,h=>by
  grind [eqV]
 | .map (some A),y,h=>by
  cases y <;> (try (simp [eqV] at h;done))
  rename_i p
  cases p with
  | none=>simp [eqV] at h
  | some q=>grind [eqV,xK]
 | .func f a b,y,h=>by
  cases y <;> simp only [eqV,xG,xU,xE] at h;rw [h.1.1,vX _ _ h.1.2,vX _ _ h.2]
 | .nilFunc,y,h=>by cases y <;> simp [eqV] at h;rfl
 | .iface t v,y,h=>by
  cases y <;> simp only [eqV,xG,xE] at h;rw [xK h.1,jA8 _ _ h.2]
 | .nilIface,y,h=>by cases y <;> simp [eqV] at h;rfl
 | .agg a,y,h=>by cases y <;> simp only [eqV,xE] at h;rw [vX _ _ h]
 | .tuple a,y,h=>by cases y <;> simp only [eqV,xE] at h;rw [vX _ _ h]
theorem vX:∀ (x y:List AV),nAo x y=true->x=y
 | [],y,h=>by cases y <;> simp [nAo] at h;rfl
 | a::x,y,h=>by
  cases y with
  | nil=>simp [nAo] at h
  | cons b y=>simp only [nAo,xG] at h;rw [jA8 _ _ h.1,vX _ _ h.2]
end
section
variable {E:Env} {P:Program} {μ:Mu} {h:Heap} {w:World}
def iV:∀ {s:List UInt8} {ys:List Value},VRs μ (ofBytes s) ys->ys=s.map fun b=>Value.int .u8 b.toNat
 | [],ys,h=>by simpa [ofBytes,VRs] using h
 | b::r,ys,h=>by
  simp only [ofBytes,VRs,VR] at h;obtain ⟨y,zs,rfl,rfl,f⟩:=h;rw [iV f];rfl
def eT (w:World) (a:Addr) (n:Nat) {k:Nat} (f:k≠a.block):(w.freeze a n).heap[k]? = w.heap[k]?:=by
 unfold World.freeze
 grind
def oA3 (w:World) (a:Addr) (n:Nat):(w.freeze a n).heap.size=w.heap.size:=by
 unfold World.freeze;split <;> simp
def fAw (w:World) (a:Addr) (n:Nat) {c:Array Value} {e:TypeId} {j:Nat×Nat} (p:w.heap[a.block]? = some (.cells c e j)):∃ f,(w.freeze a n).heap[a.block]? = some (.cells c e f):=by
 unfold World.freeze
 grind
def pA3 (w:World) (a:Addr) (n:Nat):(w.freeze a n).os=w.os/\(w.freeze a n).tape=w.tape/\(w.freeze a n).output=w.output:=by
 unfold World.freeze;grind
def HR.freeze (I:HR μ h w) {A:Nat} {l:Loc} {cs:List AV} {t:Nat} (O:μ A=some l) (M:h.t.get A=some (.row cs (.bytes t))) (n:Nat) :
  HR μ (h.put A (.row cs .ro)) (w.freeze ⟨l.b,0,none⟩ n)/\Ext μ h w μ (h.put A (.row cs .ro)) (w.freeze ⟨l.b,0,none⟩ n):=by
 have ⟨⟨r,a1,S⟩,a2,a0⟩:=I.blk A l _ O M;have K:∀ {B:Nat} {b:Blk},(h.put A (.row cs .ro)).t.get B=some b->(B=A/\b=.row cs .ro)\/(B≠A/\h.t.get B=some b):=fun u=>Tr.get_set u;have j:∀ {B:Nat} {b:Blk},(h.put A (.row cs .ro)).t.get B=some b->∃ f,h.t.get B=some f/\f.live=b.live/\(b.isRo=false->f.isRo=false)/\(f.isRo=true->b.isRo=true):=by
  intro B b u;rcases K u with ⟨rfl,rfl⟩ | ⟨_,Q⟩
  ·exact ⟨_,M,rfl,fun h=>by simp [Blk.isRo] at h,fun h=>rfl⟩
  grind
 obtain ⟨c,e,Y,u⟩:∃ c e Y,w.heap[l.b]? = some (.cells c e Y):=by
  grind [World.shape?]
 have ⟨a3,U⟩:=fAw w ⟨l.b,0,none⟩ n u;refine ⟨⟨?_,?_,?_,I.pin⟩,⟨Mu.le_refl μ,xD _,fun _ _ h=>.inl h,?_,?_,?_,(pA3 _ _ _).1,(pA3 _ _ _).2.1,(pA3 _ _ _).2.2⟩⟩
 ·intro B k p;have:=I.dom B k p;exact ⟨this.1,by rw [oA3];exact this.2⟩
 ·intro B C lb lc bb bc u hc gb gc vb vc F X
  have ⟨f,R,v0,_,r0⟩:=j gb;have ⟨L,g1,v1,_,r1⟩:=j gc
  have:=I.inj B C lb lc f L u hc R g1 (v0.trans vb) (v1.trans vc) F X
  grind
 ·intro B k b p H
  rcases K H with ⟨rfl,rfl⟩ | ⟨F,Q⟩
  ·have:k=l:=by grind
   subst this;have hs:(w.freeze ⟨k.b,0,none⟩ n).shape? k.b=w.shape? k.b:=by
    simp only [World.shape?,U,u]
   refine ⟨by grind,r.fits,fun i x hi=>?_⟩;have ⟨y,h2,h3⟩:=r.cell i x hi
   grind [World.cell?]
  ·by_cases hd:b.live=true
   ·have W:k.b≠l.b:=by
     intro e
     have:=(I.inj B A k l b _ p O Q M hd rfl F e).2
     simp [Blk.isRo] at this
    exact BR.heap (eT _ _ _ W) (I.blk B k b p Q)
   ·cases b with
    | row Z J=>cases J <;> simp [Blk.live] at hd;trivial
    | map=>simp [Blk.live] at hd
    | siter=>simp [Blk.live] at hd
 ·rintro B a4 ⟨b,H,V⟩
  have ⟨f,R,_,r0,_⟩:=j H;exact ⟨f,R,r0 V⟩
 ·intro k hk hm
  refine eT _ _ _ ?_;intro e;exact hm A l O e.symm ⟨_,M,rfl⟩
 ·rw [oA3];exact xD _
def qA3 (ok:EnvOK E P) (R:HR μ h w) {pt O ty:TypeId} {A:Nat} {n:Int} {pv:Value} {y:AV} {h':Heap} (Q:VR μ (.ptr (some (A,0))) pv) (f:kM E pt A n h=some (y,h')) :
  DV P (Builtin.unsafeString_ #[pt,O] ty #[pv,.int .i64 n]) μ h w y h':=by
 unfold kM at f
 split at f
 ·rename_i e cs t k H K
  cases r:Nat.beq t e with
  | false=>simp [r] at f
  | true=>
   simp only [r,xA] at f
   have:t=e:=xK r
   subst this
   split at f
   ·rename_i l1 hs V
    split at f
    ·rename_i s hb
     cases u:Nat.ble (k+1) 1073741824&&nAo l1 (ofBytes s) with
     | false=>simp [u] at f
     | true=>
      simp only [u,xA,xF,xI] at f;obtain ⟨rfl,rfl⟩:=f;simp only [xG] at u;have a0:k+1<=1073741824:=Nat.le_of_ble_eq_true u.1;have F:=vX _ _ u.2;subst F;simp only [VR] at Q;obtain ⟨l,M,rfl⟩:=Q;obtain ⟨⟨p,a3,B⟩,C,W⟩:=R.blk A l _ M K;obtain ⟨ys,r1,r2,I⟩:=p.read (off:=0) (n:=k+1) (by simpa using V);obtain ⟨ns,Z,a4⟩:=dN hb I;obtain ⟨i,hi,_,Y⟩:=iA3 ok hs;have a5:s.length=k+1:=by grind
      have a1:(ofBytes s).length=k+1:=by rw [<- I.length,r1]
      have L:k+1<=l.tot:=by
       have S:=p.fits;have U:(ofBytes s).length<=cs.length:=by
        have:=(cK V).1;grind
       omega
      have J:s≠[]:=by grind
      have a2:ys=s.map fun b=>Value.int .u8 b.toNat:=iV I;obtain ⟨S,U⟩:=R.freeze M K s.length;have X:=Lib.run_unsafeString_row (P:=P) w pt O ty t (aB ok H) Y l.b l.tot C s J (by omega) (by omega) (fun j x hj=>by
       have h5:ys[j]? = some (.int .u8 x.toNat):=by grind
       grind [Addr.add])
      refine ⟨μ,.string ⟨s.toArray⟩,_,?_,by simp only [VR],S,U⟩
      grind
    ·simp at f
   ·simp at f
 ·simp at f
end
end Ai
namespace Ai
section
variable {E:Env} {P:Program} {μ:Mu} {h:Heap} {w:World} {nt:Nat} {fr:Fr} {a:Act}
def pP {f:AV->AV->Option AV} {g:Value->Value->Sem Value} (p:∀ x y z u v,f x y=some z->VR μ x u->VR μ y v->PV P (g u v) w μ z) :
  ∀ {r:List AV} {r':List Value} {x z:AV} {u:Value},VR μ x u->VRs μ r r'->eAs f x r=some z->PV P (r'.foldlM g u) w μ z
 | [],r',x,z,u,A,j,h=>by
  simp only [VRs] at j;subst j;simp [eAs] at h;subst h;exact ⟨u,rfl,A⟩
 | y::r,r',x,z,u,A,j,h=>by
  simp only [VRs] at j;obtain ⟨v,rs,rfl,F,C⟩:=j;simp only [eAs] at h
  cases B:f x y with
  | none=>simp [B] at h
  | some m=>
   simp only [B] at h;have ⟨K,L,H⟩:=p x y m u v B A F;have ⟨J,M,I⟩:=pP p H C h;exact ⟨J,by simp_all,I⟩
def gAw (x y z:AV) (u v:Value) (h:vBr x y=some z) (j:VR μ x u) (f:VR μ y v):PV P (Builtin.min2 u v) w μ z:=by
 unfold vBr at h
 split at h
 ·simp at h;subst h
  simp only [VR] at j f;subst j f;refine ⟨_,rfl,?_⟩
  grind [VR,rA1]
 ·simp at h
def iAw (x y z:AV) (u v:Value) (h:wBr x y=some z) (j:VR μ x u) (f:VR μ y v):PV P (Builtin.max2 u v) w μ z:=by
 unfold wBr at h
 split at h
 ·simp at h;subst h
  simp only [VR] at j f;subst j f;refine ⟨_,rfl,?_⟩
  grind [VR,rA1]
 ·simp at h
def jAw (ok:EnvOK E P) {t ty:TypeId} {x z:AV} {u:Value} {B:Array TypeId} (j:B[0]? = some t) (y:VR μ x u) (f:cBi E t x=some z):PV P (Builtin.len_ B ty #[u]) w μ z:=by
 have A:∀ (k:Sem Value),True:=fun _=>trivial;unfold cBi at f
 split at f
 ·rename_i s r
  simp at f;subst f;simp only [VR] at y;subst y;refine ⟨.int .i64 s.length,?_,by simp only [VR]⟩;unfold Builtin.len_;rw [j];exact (rA (P:=P) (pB (aB ok r))).trans rfl
 ·rename_i n e r
  simp at f;subst f;refine ⟨.int .i64 n,?_,by simp only [VR]⟩;unfold Builtin.len_;rw [j];exact (rA (P:=P) (pB (aB ok r))).trans (by cases u <;> rfl)
 ·rename_i e p n cap sz r
  simp at f;subst f;obtain ⟨C,c,rfl⟩:=y.slice_form;refine ⟨.int .i64 n,?_,by simp only [VR]⟩;unfold Builtin.len_;rw [j];exact (rA (P:=P) (pB (aB ok r))).trans rfl
 ·simp at f
def eN (ok:EnvOK E P) {t:TypeId} {b:Bool} {x:AV} (f:dA8 E t b=some x):b=true/\∃ z j,x=.tuple [z,.bool false]/\(∀ w,(zeroValue t).run P w=.ok j w)/\∀ μ,VR μ x (.tuple #[j,.bool false]):=by
 unfold dA8 at f
 cases b with
 | false=>simp at f
 | true=>
  simp only [xA] at f
  cases p:E.zero t with
  | none=>simp [p] at f
  | some z=>
   simp [p] at f;subst f;have ⟨j,r,u⟩:=iH ok p;exact ⟨rfl,z,j,rfl,r,fun μ=>by simp only [VR];exact ⟨_,rfl,VRs.cons (u μ) (VRs.cons (by simp only [VR]) VRs.nil)⟩⟩
def yAf {b:Bool} {v:AV} {u:Value} (f:VR μ v u):VR μ (mAo b v) (if b then .tuple #[u,.bool true] else u):=by
 cases b
 ·exact f
 ·simp only [mAo,xA,xM,VR];exact ⟨_,rfl,VRs.cons f (VRs.cons (by simp only [VR]) VRs.nil)⟩
def aAg (ok:EnvOK E P) {x y:AV} {u:Value} {M t:TypeId} {b:Bool} (p:VR μ x u) (f:vAa E x t b=some y):PV P (Instr.typeAssert u M t b) w μ y:=by
 unfold vAa at f
 cases I:E.und t with
 | none=>simp [I] at f
 | some d=>
  simp only [I] at f;have j:=aB ok I
  cases hd:lR d with
  | some want=>
   simp only [hd] at f;have J:d=.interface want:=by cases d <;> simp [lR] at hd;rw [hd]
   subst J
   split at f
   ·simp only [VR] at p;subst p
    obtain ⟨rfl,z,L,rfl,B,A⟩:=eN ok f;refine ⟨_,?_,A μ⟩;unfold Instr.typeAssert;refine (rA (P:=P) (pB j)).trans ?_
    simp_all
   ·rename_i r v
    have C:=p;simp only [VR] at p;obtain ⟨O,rfl,p⟩:=p
    cases hi:E.info r with
    | none=>simp [hi] at f
    | some i=>
     simp only [hi] at f
     cases H:Instr.missingMethod want i.methods with
     | none=>
      simp [H] at f;subst f;refine ⟨_,?_,yAf C⟩;unfold Instr.typeAssert;refine (rA (P:=P) (pB j)).trans ?_;refine (rA (P:=P) (pH (ok.info _ _ hi))).trans ?_;rw [H];rfl
     | some m=>
      simp only [H] at f;obtain ⟨rfl,z,L,rfl,B,A⟩:=eN ok f;refine ⟨_,?_,A μ⟩;unfold Instr.typeAssert;refine (rA (P:=P) (pB j)).trans ?_;refine (rA (P:=P) (pH (ok.info _ _ hi))).trans ?_
      simp_all
   ·simp at f
  | none=>
   simp only [hd] at f
   split at f
   ·simp only [VR] at p;subst p
    obtain ⟨rfl,z,L,rfl,B,A⟩:=eN ok f;refine ⟨_,?_,A μ⟩;unfold Instr.typeAssert;refine (rA (P:=P) (pB j)).trans ?_;cases d <;> first | (simp [lR] at hd;done) | exact (rA (P:=P) (B w)).trans rfl
   ·rename_i r v
    simp only [VR] at p;obtain ⟨O,rfl,p⟩:=p
    cases F:Nat.beq r t with
    | true=>
     simp [F] at f;subst f
     have:r=t:=xK F
     subst this;refine ⟨_,?_,yAf p⟩;unfold Instr.typeAssert;refine (rA (P:=P) (pB j)).trans ?_;cases d <;> first | (simp [lR] at hd;done) | (show Sem.run P (if r=r then _ else _) w=_;rw [if_pos rfl];rfl)
    | false=>
     simp only [F,xB] at f;obtain ⟨rfl,z,L,rfl,B,A⟩:=eN ok f;have K:¬ (r=t):=fun e=>by simp_all
     refine ⟨_,?_,A μ⟩;unfold Instr.typeAssert;refine (rA (P:=P) (pB j)).trans ?_;cases d <;> first | (simp [lR] at hd;done) | (show Sem.run P (if r=t then _ else _) w=_;rw [if_neg K];exact (rA (P:=P) (B w)).trans rfl)
   ·simp at f
def bD {v:Option AV} {x:AV} {h':Heap} (f:bE h v=some (x,h')):v=some x/\h'=h:=by
 cases v with
 | none=>simp [bE] at f
 | some y=>grind [bE,xF,xI]
def cAb (ok:EnvOK E P) (F:HR μ h w) {b:Builtin} {y:Array TypeId} {ty:TypeId} {cst:Array Bool} {args:List AV} {args':Array Value} {x:AV} {h':Heap} (j:VRs μ args args'.toList)
  (p:oF E b y.toList args h=some (x,h')):∃ s:Sem Value,(builtin b y ty cst args')=(do pure (.value (<- s)))/\DV P s μ h w x h':=by
 unfold oF at p
 split at p
 ·rename_i st O s L f
  have ⟨y⟩:=y;simp only at f;subst f;have ⟨args'⟩:=args';simp only [VRs] at j;obtain ⟨u,r,rfl,C,v,I,rfl,B,rfl⟩:=j;exact ⟨_,rfl,vAf ok F C B p⟩
 ·rename_i t L f
  have ⟨y⟩:=y;simp only at f;subst f;have ⟨args'⟩:=args';simp only [VRs] at j;obtain ⟨u,r,rfl,C,rfl⟩:=j;obtain ⟨B,rfl⟩:=bD p;exact ⟨_,rfl,(jAw ok rfl C B).dv F⟩
 ·have ⟨args'⟩:=args'
  simp only [VRs] at j;obtain ⟨u,r,rfl,C,B⟩:=j;obtain ⟨H,rfl⟩:=bD p;exact ⟨_,rfl,(pP (P:=P) (w:=w) gAw C B H).dv F⟩
 ·have ⟨args'⟩:=args'
  simp only [VRs] at j;obtain ⟨u,r,rfl,C,B⟩:=j;obtain ⟨H,rfl⟩:=bD p;exact ⟨_,rfl,(pP (P:=P) (w:=w) iAw C B H).dv F⟩
 ·rename_i t A off len cap sz f
  have ⟨y⟩:=y;simp only at f;subst f;have ⟨args'⟩:=args';simp only [VRs,VR] at j;obtain ⟨u,r,rfl,⟨l,Q,R,K,rfl,M,hd⟩,rfl⟩:=j;simp only [xF,xI] at p;obtain ⟨rfl,rfl⟩:=p;rcases hd with ⟨h0,_⟩ | ⟨rfl,B,_⟩
  ·omega
  ·exact ⟨_,rfl,PV.dv ⟨_,Lib.run_unsafeSliceData_row w _ _ _ _ _ (by omega),by simp only [VR];exact ⟨l,K,rfl⟩⟩ F⟩
 ·rename_i t len cap sz f
  have ⟨y⟩:=y;simp only at f;subst f;have ⟨args'⟩:=args';simp only [VRs,VR] at j;obtain ⟨u,r,rfl,⟨rfl,rfl,rfl⟩,rfl⟩:=j;simp only [xF,xI] at p;obtain ⟨rfl,rfl⟩:=p;exact ⟨_,rfl,PV.dv ⟨_,Lib.run_unsafeSliceData_nil w _ _ _ _,by simp only [VR]⟩ F⟩
 ·rename_i pt J A n f
  have ⟨y⟩:=y;simp only at f;subst f;have ⟨args'⟩:=args';simp only [VRs] at j;obtain ⟨u,r,rfl,C,v,I,rfl,B,rfl⟩:=j;simp only [VR] at B;subst B;exact ⟨_,rfl,qA3 ok F C p⟩
 ·rename_i pt J f
  have ⟨y⟩:=y;simp only at f;subst f;have ⟨args'⟩:=args';simp only [VRs] at j;obtain ⟨u,r,rfl,C,v,I,rfl,B,rfl⟩:=j;simp only [VR] at C B;subst C B;simp only [xF,xI] at p;obtain ⟨rfl,rfl⟩:=p;exact ⟨_,rfl,PV.dv ⟨_,Lib.run_unsafeString_none w _ _ _ _,by simp only [VR];rfl⟩ F⟩
 ·simp at p
end
end Ai
namespace Ai
section
variable {E:Env} {P:Program} {μ:Mu} {h:Heap} {w:World}
end
end Ai
namespace Ai
section
variable {E:Env} {P:Program} {μ:Mu} {h:Heap} {w:World}
end
end Ai
namespace Ai
section
variable {E:Env} {P:Program} {μ:Mu} {h:Heap} {w:World} {nt:Nat} {fr:Fr} {a:Act}
def DN (P:Program) (s:Sem Next) (μ:Mu) (h:Heap) (w:World) (x:AV) (h':Heap):Prop:=
 ∃ f n u w',s.run P w=.ok n w'/\(n=.value u\/(n=.skip/\u=undef))/\VR f x u/\HR f h' w'/\Ext μ h w f h' w'
def DV.dn {s:Sem Value} {x:AV} {h':Heap} (hd:DV P s μ h w x h'):DN P (do pure (.value (<- s))) μ h w x h':=by
 have ⟨f,u,w',j,p⟩:=hd;exact ⟨f,.value u,u,w',rA j,.inl rfl,p⟩
def PV.dn {s:Sem Value} {x:AV} (f:PV P s w μ x) (j:HR μ h w):DN P (do pure (.value (<- s))) μ h w x h:=(f.dv j).dn
def fN (p:AR μ nt fr a):∀ {ps:List (Nat×Operand)} {l:List (Nat×AV)},cI fr ps=some l->PR μ l (ps.map fun (i,x)=>(i,a.eval x))
 | [],l,h=>by simp [cI] at h;subst h;simp [PR]
 | (i,x)::r,l,h=>by
  simp only [cI] at h
  cases f:rI fr x with
  | none=>simp [f] at h
  | some v=>
   simp only [f] at h
   cases j:cI fr r with
   | none=>simp [j] at h
   | some u=>
    simp [j] at h;subst h;simp only [PR];exact ⟨a.eval x,_,rfl,bC p f,fN p j⟩
theorem qE {x:Operand} {f:AV->Option (AV×Heap)} {r:AV×Heap} (j:op1 fr x f=some r):∃ v,rI fr x=some v/\f v=some r:=by
 unfold op1 at j
 grind
theorem pR {x y:Operand} {f:AV->AV->Option (AV×Heap)} {r:AV×Heap} (j:op2 fr x y f=some r):∃ v u,rI fr x=some v/\rI fr y=some u/\f v u=some r:=by
 unfold op2 at j
 grind
def kB4 {x y z:Operand} {f:AV->AV->AV->Option (AV×Heap)} {r:AV×Heap} (j:op3 fr x y z f=some r):∃ v u q,rI fr x=some v/\rI fr y=some u/\rI fr z=some q/\f v u q=some r:=by
 unfold op3 at j
 grind
def bAg (p:AR μ nt fr a) {x:Option Operand} {v:Option AV} (f:jAf fr x=some v):OR μ v (x.map a.eval):=by
 cases x with
 | none=>simp [jAf] at f;subst f;trivial
 | some y=>
  simp only [jAf] at f
  cases j:rI fr y with
  | none=>simp [j] at f
  | some u=>simp [j] at f;subst f;exact bC p j
def lB4 (ok:EnvOK E P) (C:HR μ h w) (A:AR μ nt fr a) {o:Oper} {x:AV} {h':Heap} (r:opA E fr o.op h=some (x,h')):DN P (execOp a.eval o) μ h w x h':=by
 have ⟨dst,op,type,pos,after,guard⟩:=o;simp only at r;cases op <;> simp only [opA,reduceCtorEq] at r
 case move y=>
  obtain ⟨j,rfl⟩:=bD r;exact ⟨μ,_,_,w,rfl,.inl rfl,bC A j,C,Ext.refl μ _ w⟩
 case assign y=>
  obtain ⟨j,rfl⟩:=bD r;exact ⟨μ,_,_,w,rfl,.inl rfl,bC A j,C,Ext.refl μ _ w⟩
 case pick c y z=>
  have ⟨v,j,p⟩:=qE r;have I:=bC A j
  split at p
  ·obtain ⟨B,rfl⟩:=bD p
   simp only [VR] at I;exact ⟨μ,.value (a.eval y),_,w,by simp [execOp,I,asBool],.inl rfl,bC A B,C,Ext.refl μ _ w⟩
  ·obtain ⟨B,rfl⟩:=bD p
   simp only [VR] at I;exact ⟨μ,.value (a.eval z),_,w,by simp [execOp,I,asBool],.inl rfl,bC A B,C,Ext.refl μ _ w⟩
  ·simp at p
 case alloc e=>
  cases K:E.zero e with
  | none=>simp [K] at r
  | some z=>
   simp only [K,xF] at r;simp only [xI] at r;obtain ⟨rfl,rfl⟩:=r
   cases U:E.trk e
   ·exact (cAk (P:=P) ok C K).dn
   ·exact (uAf (P:=P) ok C K).dn
 case box e y=>
  have ⟨v,j,p⟩:=qE r;simp only [xF,xI] at p;obtain ⟨rfl,rfl⟩:=p
  cases U:E.trk e
  ·exact (eAw (P:=P) (e:=e) C (bC A j)).dn
  ·exact (iAs (P:=P) (e:=e) C (bC A j)).dn
 case build t ps=>
  cases J:cI fr ps.toList with
  | none=>simp [J] at r
  | some l=>
   simp only [J] at r;obtain ⟨j,rfl⟩:=bD r;exact (bAk (P:=P) (w:=w) (parts':=ps.map fun (i,x)=>(i,a.eval x)) ok (by simpa using fN A J) j).dn C
 case buildSlice t len ps=>
  cases J:cI fr ps.toList with
  | none=>simp [J] at r
  | some l=>
   simp only [J] at r;have M:PR μ l (ps.map fun (i,x)=>(i,a.eval x)).toList:=by simpa using fN A J
   have S:=(uA0 (P:=P) ok C M r).dn
   grind [execOp]
 case load t y=>
  have ⟨v,j,p⟩:=qE r;obtain ⟨B,rfl⟩:=bD p;have ⟨u,F,H⟩:=pAf (P:=P) ok C (bC A j) B;exact PV.dn ⟨u,F,H⟩ C
 case store t y z=>
  have ⟨v,u,j,p,B⟩:=pR r
  cases Q:bA8 E h t v u with
  | none=>simp [Q,unit] at B
  | some Z=>
   simp only [Q,unit,xF,xI] at B;obtain ⟨rfl,rfl⟩:=B;have ⟨w',F,H,V⟩:=aAb (P:=P) ok C (bC A j) (bC A p) Q;exact ⟨μ,.skip,undef,w',rA F,.inr ⟨rfl,rfl⟩,by simp only [undefA,VR];exact ⟨#[],rfl,VRs.nil⟩,H,V⟩
 case nilCheck y=>
  have ⟨v,j,p⟩:=qE r;obtain ⟨B,rfl⟩:=bD p;have ⟨F,H⟩:=oA7 (P:=P) (w:=w) B (bC A j) a.eval ⟨dst,.nilCheck y,type,pos,after,guard⟩ y rfl rfl;exact ⟨μ,_,_,w,F,.inl rfl,H,C,Ext.refl μ _ w⟩
 case binOp op t y z yt=>
  have ⟨v,u,j,p,B⟩:=pR r;obtain ⟨F,rfl⟩:=bD B;have S:=cAw (P:=P) (w:=w) (xo:=y) (yo:=z) ok F (bC A j) (bC A p);have a0:=S.dn C
  grind [execOp]
 case unOp op t y=>
  have ⟨v,j,p⟩:=qE r;obtain ⟨B,rfl⟩:=bD p;exact (iB4 (P:=P) (w:=w) B (bC A j)).dn C
 case convert s d y=>
  have ⟨v,j,p⟩:=qE r;exact (jAs (P:=P) ok C (bC A j) p).dn
 case makeInterface t y=>
  split at r
  ·simp at r
  ·rename_i d n1 X
   have ⟨v,j,p⟩:=qE r;simp only [xF,xI] at p;obtain ⟨rfl,rfl⟩:=p;refine PV.dn ⟨.iface t (a.eval y),?_,by simp only [VR];exact ⟨_,rfl,bC A j⟩⟩ C;unfold Instr.makeInterface;refine (rA (P:=P) (pB (aB ok X))).trans ?_
   simp_all
  ·simp at r
 case makeFunc fn first captured=>
  cases j:wI fr first.toList with
  | none=>simp [j] at r
  | some l=>
   cases p:wI fr captured.toList with
   | none=>simp [j,p] at r
   | some m=>
    simp only [j,p,xF,xI] at r;obtain ⟨rfl,rfl⟩:=r;refine PV.dn ⟨.func fn (first.map a.eval) (captured.map a.eval),rfl,?_⟩ C;simp only [VR];exact ⟨_,_,rfl,by simpa using vM A j,by simpa using vM A p⟩
 case slice t y lo hi mx=>
  cases mx with
  | some m=>simp at r
  | none=>
   simp only at r
   cases j:jAf fr lo with
   | none=>simp [j] at r
   | some Y=>
    cases p:jAf fr hi with
    | none=>simp [j,p] at r
    | some W=>
     simp only [j,p] at r;have ⟨v,B,F⟩:=qE r;obtain ⟨H,rfl⟩:=bD F;exact (wAj (P:=P) ok C (bAg A j) (bAg A p) (bC A B) H).dn C
 case fieldAddr s y f=>
  have ⟨v,j,p⟩:=qE r;obtain ⟨B,rfl⟩:=bD p;exact (kA3 (P:=P) (w:=w) ok (bC A j) B).dn C
 case field t y f=>
  have ⟨v,j,p⟩:=qE r;obtain ⟨B,rfl⟩:=bD p;exact (yAj (P:=P) (w:=w) ok (bC A j) B).dn C
 case indexAddr t y z=>
  have ⟨v,u,j,p,B⟩:=pR r;obtain ⟨F,rfl⟩:=bD B;exact (lA3 (P:=P) (w:=w) ok (bC A j) (bC A p) F).dn C
 case index t y z=>
  have ⟨v,u,j,p,B⟩:=pR r;obtain ⟨F,rfl⟩:=bD B;exact (aAk (P:=P) (w:=w) ok (bC A j) (bC A p) F).dn C
 case typeAssert y xt t b=>
  have ⟨v,j,p⟩:=qE r;obtain ⟨B,rfl⟩:=bD p;exact (aAg (P:=P) (w:=w) ok (bC A j) B).dn C
 case extract t i=>
  have ⟨v,j,p⟩:=qE r;have I:=bC A j
  split at p
  ·obtain ⟨B,rfl⟩:=bD p
   simp only [VR] at I;have ⟨O,L,R⟩:=I;have ⟨y,F,H⟩:=R.get B;refine PV.dn ⟨y,?_,H⟩ C
   have:O[i]? = some y:=by simpa using F
   simp [Instr.extract,L,this]
  ·simp at p
end
end Ai
namespace Ai
section
variable {E:Env} {P:Program} {μ:Mu} {h:Heap} {w:World} {nt:Nat} {fr:Fr} {a:Act}
theorem cAg (x:Value) (l:Array Value):(#[x]++l)[0]? = some x:=by
 grind
theorem dAg (x:Value) (l:Array Value):(#[x]++l).extract 1 (#[x]++l).size=l:=by
 simp_all
def iB8 (μ:Mu) (h:Heap) (w:World) (v:AV) (h':Heap) (u:Value) (w':World):Prop:=∃ f,VR f v u/\HR f h' w'/\Ext μ h w f h' w'
def rA3 (P:Program) (call:CallF):Prop:=∀ f args h v h',call f args h=some (v,h')->∀ μ w (args':Array Value),HR μ h w->VRs μ args args'.toList->
 (∃ u w',(callFunc f args').run P w=.ok (.value u) w'/\iB8 μ h w v h' u w')\/
 ((callFunc f args').run P w=.ok (.enter f args') w/\Calls P f args' w fun e w'=>∃ u,e=.returned u/\iB8 μ h w v h' u w')
def kZ (ok:EnvOK E P) (hr:HR μ h w) {t:TypeId} {v:AV} {vu:Value} {name:String} {args:List AV} {args':Array Value} {tg:Tgt} (hv:VR μ v vu) (ha:VRs μ args args'.toList)
  (hx:mX E h t v name args=some tg):∃ f args2 args2',tg=.fn f args2/\VRs μ args2 args2'.toList/\(callMethod (.iface t vu) name args').run P w=(callFunc f args2').run P w:=by
 unfold mX at hx
 cases hi:E.info t with
 | none=>simp [hi] at hx
 | some i=>
  simp only [hi] at hx
  cases hm:i.methods.find? (·.name == name) with
  | none=>simp [hm] at hx
  | some m=>
   simp only [hm] at hx;have hinfo:=ok.info t i hi
   split at hx
   ·rename_i f ptr hpath hfunc
    have hempty:m.path = #[]:=by
     grind
    have hfol:(follow m.path.toList t (.val vu)).run P w=.ok (t,.val vu) w:=by rw [hempty];rfl
    have hdep:0<Made.depth:=by decide
    obtain ⟨k,hk⟩:∃ k,P.types.size+Made.depth=k+1:=⟨P.types.size+Made.depth-1,by omega⟩;have hcall:∀ (r:Value),(receiverAt t (.val vu) ptr (if m.path.isEmpty then some ((name.splitOn ".").getLastD name) else none)).run P w=.ok r w->
      (callMethod (.iface t vu) name args').run P w=(callFunc f (#[r]++args')).run P w:=by
     intro r hrr;unfold callMethod;refine (rA (P:=P) (a:=P) (w':=w) rfl).trans ?_;rw [hk];refine (rA (P:=P) (a:=(f,r)) (w':=w) ?_).trans rfl;unfold method;refine (rA (P:=P) (pH hinfo)).trans ?_
     simp_all
    split at hx
    ·rename_i e hu
     simp only [xF] at hx;subst hx;refine ⟨f,v::args,#[vu]++args',rfl,by simpa using VRs.cons hv ha,hcall vu ?_⟩;unfold receiverAt;exact (rA (P:=P) (pB (aB ok hu))).trans rfl
    ·rename_i e hu
     cases hl:kS E h e v with
     | none=>simp [hl] at hx
     | some x=>
      simp only [hl,xF] at hx;subst hx;obtain ⟨ad,y,rfl,h1,h2⟩:=aN (P:=P) ok hr hv hl;refine ⟨f,x::args,#[y]++args',rfl,by simpa using VRs.cons h2 ha,hcall y ?_⟩;unfold receiverAt;refine (rA (P:=P) (pB (aB ok hu))).trans ?_;refine (rA (P:=P) (a:=.pointer (some ad)) (w':=w) rfl).trans ?_;rw [hempty];refine (rA (P:=P) (a:=.pointer (some ad)) (w':=w) ?_).trans ?_
      ·rfl
      ·exact (rA (P:=P) (a:=ad) (w':=w) rfl).trans h1
    ·rename_i d n1 hu
     simp only [xF] at hx;subst hx;refine ⟨f,v::args,#[vu]++args',rfl,by simpa using VRs.cons hv ha,hcall vu ?_⟩;unfold receiverAt;refine (rA (P:=P) (pB (aB ok hu))).trans ?_;cases d <;> first | rfl | exact absurd rfl (n1 _)
    ·simp at hx
   ·simp at hx
theorem kBi (ok:EnvOK E P) {call:CallF} (U:rA3 P call) (Y:HR μ h w) (ha:AR μ nt fr a) {o:Oper} {x:AV} {h':Heap} (j:lJ E call fr o.op h=some (x,h'))
  {next:Act->World->Prop} {Q:Exit->Act->World->Prop} (hn:∀ J u w',VR J x u->HR J h' w'->Ext μ h w J h' w'->next (a.put o.dst u) w'):o.wp P a w next Q:=by
 have plain:∀ {s:Sem Next},execOp a.eval o=s->DN P s μ h w x h'->o.wp P a w next Q:=by
  intro s hs hd;have ⟨J,n,u,w',R,M,h3,h4,h5⟩:=hd;unfold Oper.wp;rw [hs,R];rcases M with rfl | ⟨rfl,rfl⟩
  ·grind [Oper.upon_value]
  grind [Oper.upon_skip,undef]
 unfold lJ at j
 split at j
 ·rename_i c a2
  have fin:∀ {f:FuncId} {args:List AV} {args':Array Value},call f args h=some (x,h')->VRs μ args args'.toList->(execOp a.eval o).run P w=(callFunc f args').run P w->o.wp P a w next Q:=by
   intro f args args' hc hv he;unfold Oper.wp;rw [he];rcases U f args h x h' hc μ w args' Y hv with ⟨u,w',R,J,M,h3,h4⟩ | ⟨R,M⟩
   ·grind [Oper.upon_value]
   ·rw [R,Oper.upon_enter]
    refine Calls.mono M ?_;rintro e w' ⟨u,rfl,J,h3,h4,h5⟩
    grind
  have F:execOp a.eval o=(do let d <- resolve a.eval c o.type;invoke d.target d.args):=by
   simp only [execOp,a2]
  unfold fAv at j
  cases C:wI fr c.args.toList with
  | none=>simp [C] at j
  | some args=>
   have a0:VRs μ args (c.args.map a.eval).toList:=by simpa using vM ha C
   simp only [C] at j
   cases A:c.callee with
   | builtin b=>
    simp only [A] at j
    cases hb:oF E b c.argTypes.toList args h with
    | none=>simp [hb] at j
    | some p=>
     have ⟨v,M⟩:=p;simp only [hb,xF,xI] at j;obtain ⟨rfl,rfl⟩:=j;have ⟨s,h3,h4⟩:=cAb (P:=P) (ty:=o.type) (cst:=c.args.map fun | .const _=>true | _=>false) ok Y a0 hb;refine plain (s:=do pure (.value (<- s))) ?_ h4.dn;rw [F];simp only [resolve,A];rw [pure_bind];exact h3
   | invoke recv name=>
    simp only [A] at j
    cases W:rI fr recv with
    | none=>simp [W] at j
    | some rv=>
     have I:=bC ha W;cases rv <;> simp only [W,reduceCtorEq] at j;rename_i t v;simp only [VR] at I;have ⟨vu,O,I⟩:=I
     cases X:mX E h t v name args with
     | none=>simp [X] at j
     | some tg=>
      obtain ⟨f,S,L,rfl,R,M⟩:=kZ (P:=P) ok Y I a0 X
      grind [resolve,invoke,cAg,dAg]
   | value f=>
    simp only [A] at j
    cases V:rI fr f with
    | none=>simp [V] at j
    | some fv=>
     have a1:=bC ha V;cases fv <;> simp only [V,reduceCtorEq] at j;rename_i fn first captured
     simp only [VR] at a1;have ⟨B,H,O,a5,a4⟩:=a1;cases fn <;> simp only [reduceCtorEq] at j
     case func g=>
      refine fin (args':=B++Array.map a.eval c.args++H) j ?_ ?_
      ·grind [VRs.append]
      ·rw [F]
       simp only [resolve,A,O,Deferred.ofValue];rfl
     case method name=>
      cases hl:first++args with
      | nil=>simp [hl] at j
      | cons r0 r=>
       cases r0 <;> simp only [hl,reduceCtorEq] at j;rename_i t v;have K:VRs μ (first++args) (B++Array.map a.eval c.args).toList:=by grind [VRs.append]
       rw [hl] at K;simp only [VRs] at K;have ⟨y,ys,hy,Z,a3⟩:=K;simp only [VR] at Z;obtain ⟨vu,rfl,I⟩:=Z
       cases X:mX E h t v name r with
       | none=>simp [X] at j
       | some tg=>
        obtain ⟨g,S,L,rfl,R,M⟩:=kZ (P:=P) (args':=ys.toArray) ok Y I (by simpa using a3) X;simp only [X] at j;refine fin j R ?_;rw [F,<- M];simp only [resolve,A,O,Deferred.ofValue];rw [pure_bind];have hA:B++Array.map a.eval c.args = #[Value.iface t vu]++ys.toArray:=by
         grind
        grind [invoke,cAg,dAg]
 ·exact plain rfl (lB4 (P:=P) ok Y ha j)
def qP {ops:Array Oper} (I:AR μ nt fr a) {o:Oper} {b:Bool} (u:fF ops.toList fr o=some b):Region.wanted o (yielded ops a.tmps)=b:=by
 unfold fF at u;unfold Region.wanted
 cases K:o.guard with
 | none=>grind
 | some p=>
  have ⟨j,want⟩:=p;simp only [K] at u ⊢
  cases f:pG ops.toList fr j with
  | none=>
   simp only [f] at u
   cases r:bT ops.toList fr j with
   | false=>simp [r] at u
   | true=>
    simp only [r,xA,xF] at u;subst u;unfold bT at r
    split at r
    ·rename_i H C
     split at r
     ·rename_i d hd
      split at r
      ·rename_i F
       have B:=I.slot d _ F;simp only [VR] at B;have ⟨O,B,M⟩:=B;have A:ops[j]? = some H:=by simpa using C
       have y:yielded ops a.tmps j=none:=by
        unfold yielded;simp only [A,hd,Option.bind_some]
        split
        ·simp_all
        ·rfl
       rw [y];rfl
      ·cases r
     ·cases r
    ·cases r
  | some c=>
   simp only [f,xF] at u;unfold pG at f
   cases C:ops.toList[j]? with
   | none=>simp [C] at f
   | some H=>
    simp only [C] at f
    cases hd:H.dst with
    | none=>simp [hd] at f
    | some d=>
     simp only [hd] at f
     cases F:fr.get d with
     | none=>simp [F] at f
     | some v=>
      cases v <;> simp only [F,xF,reduceCtorEq] at f;subst f;rename_i c;have B:=I.slot d _ F;simp only [VR] at B;have A:ops[j]? = some H:=by simpa using C
      have L:a.tmps[d]? = some (.bool c):=by
       rcases Nat.lt_or_ge d a.tmps.size with J | J
       ·simp_all
       ·simp [Array.getD,Nat.not_lt.2 J,undef] at B
      have y:yielded ops a.tmps j=some c:=by
       unfold yielded;simp [A,hd,L]
      rw [y,<- u]
      grind
def dAb (ok:EnvOK E P) {call:CallF} (r:rA3 P call) (B:HR μ h w) (y:AR μ nt fr a) {ops:Array Oper} {o:Oper} {x:AV} {h':Heap} (j:vE E call ops.toList fr o h=some (x,h'))
  {next:Act->World->Prop} {Q:Exit->Act->World->Prop} (A:∀ f u w',VR f x u->HR f h' w'->Ext μ h w f h' w'->next (a.put o.dst u) w') :
  (if Region.wanted o (yielded ops a.tmps) then o.wp P a w next Q\/(o.asks P a w/\LetsOut Q) else next (a.put o.dst undef) w):=by
 unfold vE at j
 split at j
 ·rename_i p
  rw [qP y p];simp only [xM]
  grind [kBi]
 ·rename_i p
  rw [qP y p];simp only [xF,xI] at j;obtain ⟨rfl,rfl⟩:=j;simp only [xE,xL];exact A μ undef w (by simp only [undefA,VR];exact ⟨#[],rfl,VRs.nil⟩) B (Ext.refl μ h w)
 ·simp at j
def mB4 (ok:EnvOK E P) {call:CallF} (r:rA3 P call) {ops:Array Oper} {Q:Exit->Act->World->Prop}:∀ (m k:Nat) (μ:Mu) (h:Heap) (w:World) (fr:Fr) (a:Act) (fr':Fr) (h':Heap),k+m=ops.size->
  rAj E call nt ops.toList (ops.toList.drop k) fr h=some (fr',h')->HR μ h w->AR μ nt fr a->
  (∀ f J w',AR f nt fr' J->HR f h' w'->Ext μ h w f h' w'->Q .normal J w')->wpOps P ops Q (List.range' k m) a w:=by
 intro m
 induction m with
 | zero=>
  intro k μ h w fr a fr' h' R j H C O
  have:ops.toList.drop k=[]:=List.drop_eq_nil_of_le (by simp;omega)
  rw [this] at j;simp only [rAj,xF,xI] at j;obtain ⟨rfl,rfl⟩:=j
  grind [wpOps,Ext.refl]
 | succ m S=>
  intro k μ h w fr a fr' h' R j H C O;have B:k<ops.size:=by omega
  have A:k<ops.toList.length:=by simpa using B
  rw [List.drop_eq_getElem_cons A] at j;simp only [rAj,Array.getElem_toList] at j
  cases I:vE E call ops.toList fr ops[k] h with
  | none=>grind
  | some p=>
   have ⟨v,M⟩:=p;rw [I] at j;have K:ops[k]? = some ops[k]:=by simp [B]
   simp only [List.range'_succ,wpOps,K];refine dAb ok r H C I ?_;intro f u w' L F y;refine S (k+1) f M w' _ _ fr' h' (by omega) j F ((C.mono y.mono).put _ L) ?_
   grind [Ext.trans]
end
end Ai
namespace Ai
namespace Tr
variable {α:Type}
def restrict (keep:Nat->Bool):Tr α->Tr α
 | nil=>nil
 | node l v r=>node (restrictL (fun m=>keep (2 * m+1)) l) (bif keep 0 then v else none) (restrictL (fun m=>keep (2 * m+2)) r)
where restrictL (keep:Nat->Bool):Tr α->Tr α
 | nil=>nil
 | node l v r=>node (restrictL (fun m=>keep (2 * m+1)) l) (bif keep 0 then v else none) (restrictL (fun m=>keep (2 * m+2)) r)
def get_restrict:∀ (t:Tr α) (keep:Nat->Bool) (n:Nat),(restrict.restrictL keep t).get n=bif keep n then t.get n else none:=by
 intro t
 induction t with
 | nil=>grind [restrict.restrictL,get]
 | node l v r j p=>
  intro keep n;simp only [restrict.restrictL,get]
  by_cases h:n=0
  ·simp_all
  ·rw [bf h];simp only [xB]
   by_cases f:n % 2=1
   ·rw [bt f];grind
   ·rw [bf f];grind
end Tr
section
variable {E:Env} {P:Program} {call:CallF} {fr fr2:Fr}
theorem aE {n:Nat}:∀ {l:List Nat},aV n l=true↔n∈l
 | []=>by simp [aV]
 | x::r=>by
  simp only [aV]
  by_cases h:x=n
  ·simp_all
  ·rw [bf h];simp only [xB,List.mem_cons];rw [aE]
   grind
theorem eAg:∀ {l:List Operand} {t:Nat},Operand.tmp t∈l->t∈cB4 l
 | [],t,h=>by simp at h
 | x::r,t,h=>by
  simp only [cB4,List.mem_append];rcases List.mem_cons.1 h with rfl | h
  ·exact .inl (by simp [eB8])
  ·exact .inr (eAg h)
theorem tA3 {l:List Operand} (h:∀ x∈l,rI fr x=rI fr2 x):wI fr l=wI fr2 l:=by
 induction l with
 | nil=>rfl
 | cons x r f=>grind [wI]
theorem uA3 {l:List (Nat×Operand)} (h:∀ x∈l.map (·.2),rI fr x=rI fr2 x):cI fr l=cI fr2 l:=by
 induction l with
 | nil=>rfl
 | cons x r f=>grind [cI]
theorem kAw {x:Option Operand} (h:∀ y∈x.toList,rI fr y=rI fr2 y):jAf fr x=jAf fr2 x:=by
 cases x with
 | none=>rfl
 | some y=>simp only [jAf];rw [h y (by simp)]
def lAw {o:Op} {h:Heap} (j:∀ x∈o.operands.toList,rI fr x=rI fr2 x):lJ E call fr o h=lJ E call fr2 o h:=by
 cases o
 case call c=>
  simp only [lJ,fAv];simp only [Op.operands,Call.operands] at j;have p:wI fr c.args.toList=wI fr2 c.args.toList:=tA3 fun x y=>j x (by simp [y]);rw [p]
  cases u:c.callee with
  | builtin b=>rfl
  | invoke r m=>grind
  | value f=>grind
 case build t ps=>
  grind [lJ,opA,uA3,Op.operands]
 case buildSlice t n ps=>
  grind [lJ,opA,uA3,Op.operands]
 case makeFunc fn first captured=>
  grind [lJ,opA,tA3,Op.operands,Array.toList_append]
 case slice t x lo hi mx=>
  cases mx with
  | some m=>rfl
  | none=>
   grind [lJ,opA,op1,Op.operands,jAf,kAw]
 case makeMap t r=>cases r <;> rfl
 case lookup t m k b=>
  grind [Op.operands,lJ,opA,op2]
 case mapUpdate t m k x=>
  have p:=j m (by simp [Op.operands]);have A:=j k (by simp [Op.operands]);have w:=j x (by simp [Op.operands]);simp only [lJ,opA]
 case insert t m k x=>
  have p:=j m (by simp [Op.operands]);have A:=j k (by simp [Op.operands]);have w:=j x (by simp [Op.operands]);simp only [lJ,opA]
 all_goals first
  | rfl
  | (simp only [lJ,opA,op1,op2];simp [Op.operands] at j;simp only [j])
def kA8 {ops:List Oper} {o:Oper} {h:Heap} (r:∀ t,t∈iF ops o->fr.get t=fr2.get t):vE E call ops fr o h=vE E call ops fr2 o h:=by
 have u:∀ x∈o.op.operands.toList,rI fr x=rI fr2 x:=by
  intro x A
  cases x with
  | tmp t=>exact r t (by grind [iF,eAg])
  | _=>rfl
 have w:fF ops fr o=fF ops fr2 o:=by
  unfold fF
  cases y:o.guard with
  | none=>rfl
  | some p=>
   have ⟨j,want⟩:=p;simp only
   have:pG ops fr j=pG ops fr2 j:=by
    grind [pG,iF,cA3]
   have f:bT ops fr j=bT ops fr2 j:=by
    grind [bT,iF,cA3]
   rw [this,f]
 unfold vE;rw [w,lAw u]
theorem wX {h h':Heap} {v:Option AV} {x:AV} (f:bE h v=some (x,h')):h'=h:=(bD f).2
theorem lBi {o:Op} {h h':Heap} {x:AV} (H:aD o=0) (j:lJ E call fr o h=some (x,h')):h'=h/\∀ p,lJ E call fr o p=some (x,p):=by
 have key:∀ {v:Option AV},bE h v=some (x,h')->h'=h/\∀ p,bE p v=some (x,p):=by
  intro v J;obtain ⟨rfl,rfl⟩:=bD J;exact ⟨rfl,fun _=>rfl⟩
 have C:∀ {y:Operand} {f:AV->Option AV},op1 fr y (fun v=>bE h (f v))=some (x,h')->h'=h/\∀ p,op1 fr y (fun v=>bE p (f v))=some (x,p):=by
  grind [qE,op1]
 have I:∀ {y z:Operand} {f:AV->AV->Option AV},op2 fr y z (fun v u=>bE h (f v u))=some (x,h')->h'=h/\∀ p,op2 fr y z (fun v u=>bE p (f v u))=some (x,p):=by
  grind [pR,op2]
 cases o <;> simp [aD] at H
 case move=>exact key j
 case assign=>exact key j
 case pick c a b=>
  grind [lJ,opA,qE,op1]
 case build t ps=>
  simp only [lJ,opA] at j ⊢
  cases K:cI fr ps.toList with
  | none=>simp [K] at j
  | some l=>grind
 case nilCheck=>exact C j
 case binOp=>exact I j
 case unOp=>exact C j
 case makeInterface t y=>
  simp only [lJ,opA] at j ⊢
  split at j
  ·simp at j
  ·rename_i d Q R
   have ⟨v,B,p⟩:=qE j;simp only [xF,xI] at p;obtain ⟨rfl,rfl⟩:=p;refine ⟨rfl,fun S=>?_⟩;simp only [op1,B]
  ·simp at j
 case makeFunc fn first captured=>
  simp only [lJ,opA] at j ⊢
  cases B:wI fr first.toList with
  | none=>simp [B] at j
  | some l=>
   cases p:wI fr captured.toList with
   | none=>simp [B,p] at j
   | some m=>
    grind
 case fieldAddr=>exact C j
 case field=>exact C j
 case indexAddr=>exact I j
 case index=>exact I j
 case typeAssert=>exact C j
 case extract t i=>
  grind [lJ,opA,qE,reduceCtorEq,op1]
 case call c=>
  simp only [lJ,fAv] at j ⊢
  cases w:wI fr c.args.toList with
  | none=>simp [w] at j
  | some args=>
   simp only [w] at j ⊢
   cases A:c.callee with
   | value f=>simp [A] at H
   | invoke r m=>simp [A] at H
   | builtin b=>
    simp only [A] at j H ⊢;have O:b=.min\/b=.max:=by cases b <;> simp_all
    have F:∀ (y:AV) (B:Heap),oF E b c.argTypes.toList args h=some (y,B)->B=h/\∀ p,oF E b c.argTypes.toList args p=some (y,p):=by
     intro y B F;rcases O with rfl | rfl <;>
     ·simp only [oF] at F ⊢
      cases args with
      | nil=>simp at F
      | cons z r=>
       simp only at F ⊢;have ⟨M,L⟩:=bD F;exact ⟨L,fun p=>by rw [M];rfl⟩
    grind
theorem eBs {o:Op} {h h':Heap} {x:AV} (B:aD o=1) (A:lJ E call fr o h=some (x,h')):h'=h:=by
 cases o <;> simp [aD] at B
 case load t y=>
  have ⟨v,C,F⟩:=qE A;exact wX F
 case slice t y lo hi mx=>
  cases mx with
  | some m=>simp [lJ,opA] at A
  | none=>
   grind [lJ,opA,jAf,qE,wX]
 case call c=>
  simp only [lJ,fAv] at A
  cases u:wI fr c.args.toList with
  | none=>simp [u] at A
  | some args=>
   simp only [u] at A
   cases w:c.callee with
   | value f=>simp [w] at B
   | invoke r m=>simp [w] at B
   | builtin b=>
    simp only [w] at A B;have H:b=.len\/b=.cap:=by cases b <;> simp_all
    cases j:oF E b c.argTypes.toList args h with
    | none=>simp [j] at A
    | some p=>
     have ⟨y,C⟩:=p;simp only [j,xF,xI] at A;obtain ⟨rfl,rfl⟩:=A;rcases H with rfl | rfl <;>
     ·simp only [oF] at j
      first | cases j | (split at j <;> simp at *)
      all_goals (first | exact wX j | skip)
theorem jV (o:Op):aD o=0\/aD o=1\/aD o=2:=by
 cases o <;> simp [aD]
 grind
theorem lK {ops:List Oper} {o:Oper} {h h':Heap} {x:AV} (j:aD o.op≠2) (f:vE E call ops fr o h=some (x,h')):h'=h:=by
 unfold vE at f
 grind [jV,lBi,eBs,absurd,xF,xI]
def fAg {ops:List Oper} {o:Oper} {h h':Heap} {x:AV} (p:aD o.op=0) (j:vE E call ops fr o h=some (x,h')) (f:Heap):vE E call ops fr o f=some (x,f):=by
 grind [vE,lBi,xF,xI]
def tAo {p x:Nat} {l:List Nat} (h:p∈dBr x l):p=x\/p∈l:=by
 unfold dBr at h
 grind
def lA8 {p:Nat}:∀ {xs l:List Nat},p∈oAo xs l->p∈xs\/p∈l
 | [],l,h=>.inr h
 | x::r,l,h=>by
  simp only [oAo] at h;rcases tAo h with rfl | h
  ·exact .inl (by simp)
  ·rcases lA8 h with h | h
   ·grind
   ·exact .inr h
theorem mA8 {acc:List (List Nat)} {p:Nat}:∀ {l:List Nat},p∈fD.unionL acc l->p∈l\/∃ e∈l,∃ ps,acc[e]? = some ps/\p∈ps
 | [],h=>by simp [fD.unionL] at h
 | e::r,h=>by
  simp only [fD.unionL] at h;rcases tAo h with rfl | h
  ·exact .inl (by simp)
  rcases lA8 h with h | h
  ·grind
  ·rcases mA8 h with h | ⟨e',f,j⟩
   ·grind
   grind
def yX:∀ (r pre:List Oper) (acc:List (List Nat)),acc.length=pre.length->
  (∀ (i:Nat) (ps:List Nat),acc[i]? = some ps->∃ o:Oper,pre[i]? = some o/\∀ p∈ps,p∈yE o.after.toList\/∃ e∈yE o.after.toList,∃ qs,acc[e]? = some qs/\p∈qs)->
  ∀ (i:Nat) (ps:List Nat),(fD r acc)[i]? = some ps->∃ o:Oper,(pre++r)[i]? = some o/\∀ p∈ps,p∈yE o.after.toList\/∃ e∈yE o.after.toList,∃ qs,(fD r acc)[e]? = some qs/\p∈qs
 | [],pre,acc,w,f,i,ps,h=>by
  grind [fD]
 | o::r,pre,acc,w,f,i,ps,h=>by
  simp only [fD] at h ⊢
  have:=yX r (pre++[o]) (acc++[fD.unionL acc (yE o.after.toList)]) (by simp [w]) (by
   intro j qs y
   by_cases A:j<acc.length
   ·grind
   ·have u:j=acc.length:=by
     grind
    subst u;rw [List.getElem?_append_right (xD _)] at y;simp at y;subst y;refine ⟨o,by rw [w];simp,fun p B=>?_⟩
    grind [mA8,List.getElem?_append_left,List.getElem?_eq_some_iff]) i ps h
  simpa using this
def lZ {ops:List Oper} {o:Oper} {ps:List Nat}:∀ {l:List Oper} {j:Nat},mR ops o ps j l=true->∀ k x,l[k]? = some x->j+k∈ps\/wAa ops x o=true
 | [],j,h,k,x,f=>by simp at f
 | y::r,j,h,k,x,f=>by
  simp only [mR,xG,Bool.or_eq_true] at h
  cases k with
  | zero=>grind [aE,id]
  | succ k=>
   simp at f
   have:=lZ h.2 k x f
   grind
def nA8 {ops:List Oper} {f:List (List Nat)}:∀ {l:List Oper} {i:Nat},qX ops f i l=true->∀ k o,l[k]? = some o->
  (∀ j x,(ops.take (i+k))[j]? = some x->j∈(f[i+k]?).getD []\/wAa ops x o=true)/\(∀ e∈yE o.after.toList,e<i+k)
 | [],i,h,k,o,p=>by simp at p
 | y::r,i,h,k,o,p=>by
  simp only [qX,xG] at h
  cases k with
  | zero=>
   simp at p;subst p;refine ⟨fun j x u=>by simpa using lZ h.1.1 j x (by simpa using u),fun e w=>?_⟩
   simp_all
  | succ k=>
   simp at p
   have:=nA8 h.2 k o p
   grind
def gK {e:Nat}:∀ {l:List Edge},e∈yE l↔∃ x∈l,Region.binds .any x=true/\x.on=e
 | []=>by simp [yE]
 | x::r=>by
  simp only [yE]
  cases f:Region.binds .any x with
  | true=>simp only [xA,List.mem_cons,gK (l:=r)];grind
  | false=>simp only [xB,gK (l:=r),List.mem_cons];grind
def iK {ops:List Oper} {x y:Oper} (f:wAa ops x y=true):¬ (aD x.op=2/\aD y.op=2)/\(∀ t,x.dst=some t->t ∉ iF ops y)/\(∀ t,y.dst=some t->t ∉ iF ops x)/\(∀ t,x.dst=some t->y.dst≠some t):=by
 simp only [wAa,xG,Bool.not_eq_true'] at f;have ⟨⟨⟨w,B⟩,r⟩,p⟩:=f;refine ⟨?_,?_,?_,?_⟩
 ·rintro ⟨A,u⟩;simp_all
 ·grind [tA0,aE]
 ·grind [tA0,aE]
 ·intro t j h;simp only [nX,j,h] at p;simp_all
def rE {l:Array Bool} {i k:Nat} (hi:i<l.size):(l.setIfInBounds i true).getD k false=if k=i then true else l.getD k false:=by
 by_cases h:k=i
 ·subst h;simp [hi]
 ·have h':i≠k:=fun e=>h e.symm
  simp_all
def uAo {a:Act} {t:Nat} {u:Value} (f:t<a.tmps.size):(a.put (some t) u).tmps.getD t undef=u:=by simp [Act.put,f]
def lV {a:Act} {d:Option Tmp} {t:Nat} {u:Value} (hd:d≠some t):(a.put d u).tmps.getD t undef=a.tmps.getD t undef:=by
 cases d with
 | none=>rfl
 | some k=>
  have:k≠t:=fun e=>hd (by rw [e])
  simp [Act.put,Array.getElem?_setIfInBounds_ne this]
end
end Ai
namespace Ai
section
variable {α:Type}
variable {E:Env} {P:Program} {call:CallF} {fr fr2:Fr}
def nBa (E:Env) (call:CallF) (ops:List Oper) (recs:List (Fr×Heap×AV)) (h':Heap):Prop:=
 ∀ (i:Nat) (o:Oper) (f:Fr) (y:Heap) (v:AV),ops[i]? = some o->recs[i]? = some (f,y,v)->aD o.op=1->∀ (k:Nat) (p:Heap),
  ((∃ (h:Oper) (w:Fr) (r:AV),ops[k]? = some h/\aD h.op=2/\recs[k]? = some (w,p,r))\/(k=ops.length/\p=h'))->
  (∀ (j:Nat) (h:Oper),ops[j]? = some h->aD h.op=2->(j∈((fD ops [])[i]?).getD []->j<k)/\(i∈((fD ops [])[j]?).getD []->k<=j))->
  ∃ u A,vE E call ops f o p=some (u,A)/\eqV u v=true
def mM {u:Nat} {ops:List Oper}:∀ {l:List Oper} {fr:Fr} {h:Heap} {recs:List (Fr×Heap×AV)} {fr':Fr} {h':Heap},jF E call u ops l fr h=some (recs,fr',h')->
  ∃ (F:Nat->Fr) (H:Nat->Heap) (V:Nat->AV),F 0=fr/\H 0=h/\F l.length=fr'/\H l.length=h'/\
   (∀ i o,l[i]? = some o->vE E call ops (F i) o (H i)=some (V i,H (i+1))/\F (i+1)=dV u (F i) o.dst (V i))/\
   (∀ i,i<l.length->recs[i]? = some (F i,H i,V i))
 | [],fr,h,recs,fr',h',f=>by
  simp only [jF,xF,xI] at f;obtain ⟨rfl,rfl,rfl⟩:=f;exact ⟨fun _=>fr,fun _=>h,fun _=>undefA,rfl,rfl,rfl,rfl,by simp,by simp⟩
 | o::r,fr,h,recs,fr',h',f=>by
  simp only [jF] at f
  cases j:vE E call ops fr o h with
  | none=>simp [j] at f
  | some p=>
   have ⟨v,B⟩:=p;simp only [j] at f
   cases w:jF E call u ops r (dV u fr o.dst v) B with
   | none=>simp [w] at f
   | some q=>
    have ⟨L,fr2,J⟩:=q;simp only [w,xF,xI] at f;obtain ⟨rfl,rfl,rfl⟩:=f;have ⟨F,H,V,I,K,fn,C,y,A⟩:=mM w;refine ⟨fun i=>match i with | 0=>fr | i+1=>F i,fun i=>match i with | 0=>h | i+1=>H i,fun i=>match i with | 0=>v | i+1=>V i,rfl,rfl,?_,?_,?_,?_⟩
    ·simpa using fn
    ·simpa using C
    ·grind
    grind
def vAo (ok:EnvOK E P) (hm:P.follows .mixedOrders=true) (d7:rA3 P call) {nt id:Nat} {ops:Array Oper} {h:Heap} {fr':Fr} {h':Heap} {recs:List (Fr×Heap×AV)} (ht:jF E call nt ops.toList ops.toList fr h=some (recs,fr',h')) (e9:dA3 ops.toList=true) (e5:nBa E call ops.toList recs h')
  {μ:Mu} {w:World} {a:Act} {Q:Exit->Act->World->Prop} (hr:HR μ h w) (ha:AR μ nt fr a) (hq:∀ y X w',AR y nt fr' X->HR y h' w'->Ext μ h w y h' w'->Q .normal X w'):(Code.region id ops true).wp P Q a w:=by
 skip
 {
  skip
  {
   have ⟨F,H,V,f0,g0,fn,gn,a4,d0⟩:=mM ht;have c9:ops.toList.length=ops.size:=by simp
   have ord:∀ (i:Nat) (o:Oper),ops.toList[i]? = some o->(∀ (j:Nat) (x:Oper),j<i->ops.toList[j]? = some x->j∈((fD ops.toList [])[i]?).getD []\/wAa ops.toList x o=true)/\(∀ e∈yE o.after.toList,e<i):=by
    intro i o ho
    have:=nA8 (i:=0) e9 i o ho
    grind
   have b2:∀ (i:Nat) (ps:List Nat),(fD ops.toList [])[i]? = some ps->∃ o:Oper,ops.toList[i]? = some o/\∀ p∈ps,p∈yE o.after.toList\/∃ e∈yE o.after.toList,∃ qs,(fD ops.toList [])[e]? = some qs/\p∈qs:=by
    intro i ps hi
    have:=yX ops.toList [] [] rfl (by simp) i ps hi
    simpa using this
   have U:∀ (S:Nat->Prop),(∀ (i:Nat) (o:Oper),ops.toList[i]? = some o->S i->∀ e∈yE o.after.toList,S e)->
     ∀ (i:Nat) (o:Oper),ops.toList[i]? = some o->(∀ e∈yE o.after.toList,S e)->∀ p∈((fD ops.toList [])[i]?).getD [],S p:=by
    intro S a2 i
    induction i using Nat.strongRecOn with
    | _ i ih=>
     intro o ho he p hp
     cases e3:(fD ops.toList [])[i]? with
     | none=>simp [e3] at hp
     | some ps=>
      simp [e3] at hp;have ⟨Y,a3,i4⟩:=b2 i ps e3;rw [ho] at a3;cases a3;rcases i4 p hp with h3 | ⟨e,h3,qs,h4,h5⟩
      ·exact he p h3
      ·have A:=(ord i o ho).2 e h3
       have ⟨oe,f7,_⟩:=b2 e qs h4;exact ih e A oe f7 (a2 e oe f7 (he e h3)) p (by simp [h4];exact h5)
   have wrote:∀ (i:Nat),i<=ops.size->∀ t v,(F i).get t=some v->
     (∃ k o,k<i/\ops.toList[k]? = some o/\o.dst=some t/\t<nt/\v=V k/\∀ L Y,L<i->ops.toList[L]? = some Y->Y.dst=some t->L<=k)\/
     ((∀ k o,k<i->ops.toList[k]? = some o->o.dst≠some t)/\fr.get t=some v):=by
    intro i
    induction i with
    | zero=>grind
    | succ i ih=>
     intro hi t v hv;obtain ⟨o,ho⟩:∃ o,ops.toList[i]? = some o:=⟨ops.toList[i]'(by simp;omega),by simp⟩;rw [(a4 i o ho).2] at hv;have old:(F i).get t=some v->o.dst≠some t->(∃ k o,k<i+1/\ops.toList[k]? = some o/\o.dst=some t/\t<nt/\v=V k/\∀ L Y,L<i+1->ops.toList[L]? = some Y->Y.dst=some t->L<=k)\/
       ((∀ k o,k<i+1->ops.toList[k]? = some o->o.dst≠some t)/\fr.get t=some v):=by
      intro c2 d9;rcases ih (by omega) t v c2 with ⟨k,j7,I,Z,h3,h4,h5,h6⟩ | ⟨I,Z⟩
      ·grind
      grind
     cases b3:o.dst with
     | none=>
      rw [b3] at hv;exact old hv (by rw [b3];simp)
     | some d=>
      rw [b3] at hv;simp only [dV] at hv
      cases A:Nat.blt d nt with
      | false=>simp [A,Tr.get_nil] at hv
      | true=>
       simp only [A,xA] at hv;rcases Tr.get_set hv with ⟨rfl,rfl⟩ | ⟨d9,c2⟩
       ·exact .inl ⟨i,o,by omega,ho,b3,by simpa [Nat.blt_eq] using A,rfl,fun L _ j8 _ _=>by omega⟩
       ·exact old c2 (by grind)
   have c0:∀ (i:Nat) (o:Oper),ops.toList[i]? = some o->aD o.op≠2->H (i+1)=H i:=fun i o ho C=>lK C (a4 i o ho).1;have d5:∀ (d i j:Nat),j=i+d->j<=ops.size->(∀ (k:Nat) (o:Oper),i<=k->k<j->ops.toList[k]? = some o->aD o.op≠2)->H j=H i:=by
    intro d
    induction d with
    | zero=>grind
    | succ d ih=>
     intro i j hj hn C;obtain ⟨o,ho⟩:∃ o,ops.toList[i+d]? = some o:=⟨ops.toList[i+d]'(by simp;omega),by simp⟩;rw [hj,show i+(d+1)=(i+d)+1 from rfl,c0 (i+d) o ho (C _ o (by omega) (by omega) ho)];exact ih i (i+d) rfl (by omega) fun k o I Z=>C k o I (by omega)
   have done:∀ (listed:Array Bool) (y:Mu) (X:Act) (w':World),(∀ i,i<ops.size->listed.getD i false=true)->
     (∃ m,m<=ops.size/\HR y (H m) w'/\Ext μ h w y (H m) w'/\∀ (i:Nat) (o:Oper),ops.toList[i]? = some o->aD o.op=2->(listed.getD i false=true↔i<m))->
     X.tmps.size=nt->X.defers=[]->
     (∀ t k o,t<nt->ops.toList[k]? = some o->o.dst=some t->listed.getD k false=true->(∀ (L:Nat) (Y:Oper),ops.toList[L]? = some Y->listed.getD L false=true->Y.dst=some t->L<=k)->VR y (V k) (X.tmps.getD t undef))->
     (∀ t v,(∀ (k:Nat) (o:Oper),ops.toList[k]? = some o->listed.getD k false=true->o.dst≠some t)->fr.get t=some v->VR y v (X.tmps.getD t undef))->Q .normal X w':=by
    intro listed y X w' b7 hH a8 b0 W R;have ⟨m,c7,f2,b4,b5⟩:=hH;have g9:H ops.size=H m:=d5 (ops.size-m) m ops.size (by omega) (xD _) fun k o I Z ho C=>by
     grind
    have e6:=gn;rw [c9] at e6;rw [<- g9,e6] at f2 b4;refine hq y X w' ⟨fun t v hv=>?_,a8,b0⟩ f2 b4;rw [<- fn,c9] at hv;rcases wrote ops.size (xD _) t v hv with ⟨k,o,I,Z,h3,h4,rfl,h6⟩ | ⟨I,Z⟩
    ·exact W t k o h4 Z h3 (b7 k I) fun L Y a3 _ O=>h6 L Y (by grind) a3 O
    ·exact R t v (fun k o ho _=>I k o (by grind) ho) Z
   have main:∀ (a6:Nat) (listed:Array Bool) (y:Mu) (X:Act) (w':World) (us:List Nat),us.length<=a6->(∀ i,i<ops.size->listed.getD i false=false->i∈us)->listed.size=ops.size->
     (∀ (i:Nat) (o:Oper),ops.toList[i]? = some o->listed.getD i false=true->∀ e∈yE o.after.toList,listed.getD e false=true)->
     (∃ m,m<=ops.size/\HR y (H m) w'/\Ext μ h w y (H m) w'/\∀ (i:Nat) (o:Oper),ops.toList[i]? = some o->aD o.op=2->(listed.getD i false=true↔i<m))->
     X.tmps.size=nt->X.defers=[]->
     (∀ t k o,t<nt->ops.toList[k]? = some o->o.dst=some t->listed.getD k false=true->(∀ (L:Nat) (Y:Oper),ops.toList[L]? = some Y->listed.getD L false=true->Y.dst=some t->L<=k)->VR y (V k) (X.tmps.getD t undef))->
     (∀ t v,(∀ (k:Nat) (o:Oper),ops.toList[k]? = some o->listed.getD k false=true->o.dst≠some t)->fr.get t=some v->VR y v (X.tmps.getD t undef))->
     wpAny P .any ops Q a6 listed X w':=by
    intro a6
    induction a6 with
    | zero=>
     intro listed y X w' us hu e1 f1 a2 hH a8 b0 W R;have b7:∀ i,i<ops.size->listed.getD i false=true:=by
      grind
     refine ⟨?_,?_⟩
     ·simp only [Region.ready,List.filter_eq_nil_iff,List.mem_range]
      grind
     ·exact done listed y X w' b7 hH a8 b0 W R
    | succ a6 ih=>
     intro listed y X w' us hu e1 f1 a2 hH a8 b0 W R;refine ⟨?_,?_⟩
     ·intro c4
      refine done listed y X w' ?_ hH a8 b0 W R;intro i
      induction i using Nat.strongRecOn with
      | _ i i9=>
       intro a1
       cases K:listed.getD i false with
       | true=>rfl
       | false=>
        exfalso
        have A:i<listed.size:=by omega
        have i7:listed.getD i true=false:=by simp [Array.getD,A] at K ⊢;exact K
        have c8:i∈Region.ready .any ops listed:=by
         simp only [Region.ready,List.mem_filter,List.mem_range,xG,Bool.not_eq_true'];refine ⟨a1,i7,?_⟩;have ho:ops[i]? = some ops[i]:=by simp [a1]
         rw [ho];simp only [Option.map_some,Option.getD_some,Array.all_eq_true_iff_forall_mem];intro x hx
         cases j0:Region.binds .any x
         ·simp
         ·have he:x.on∈yE ops[i].after.toList:=gK.2 ⟨x,by simpa using hx,j0,rfl⟩;have g7:=(ord i ops[i] (by simp [a1])).2 _ he;simpa using i9 x.on g7 (by omega)
        rw [c4] at c8;simp at c8
     ·intro i hi
      simp only [Region.ready,List.mem_filter,List.mem_range,xG,Bool.not_eq_true'] at hi;have ⟨a1,g8,d8⟩:=hi;have A:i<listed.size:=by omega
      have a0:listed.getD i false=false:=by simp [Array.getD,A] at g8 ⊢;exact g8
      have ho:ops[i]? = some ops[i]:=by simp [a1]
      have M:ops.toList[i]? = some ops[i]:=by simp [a1]
      have b8:∀ e∈yE ops[i].after.toList,listed.getD e false=true:=by
       intro e he;have ⟨x,I,Z,h3⟩:=gK.1 he;rw [ho] at d8;simp only [Option.map_some,Option.getD_some,Array.all_eq_true_iff_forall_mem] at d8
       have:=d8 x (by simpa using I)
       simp [Z] at this;rw [<- h3];simpa using this
      have b1:=U (fun k=>listed.getD k false=true) a2 i ops[i] M b8;have behind:∀ (k:Nat) (o:Oper),i<k->ops.toList[k]? = some o->listed.getD k false=true->wAa ops.toList ops[i] o=true:=by
       intro k o g6 f J;rcases (ord k o f).1 i ops[i] g6 M with I | I
       ·have h9:listed.getD i false=true:=U (fun k=>listed.getD k false=true) a2 k o f (a2 k o f J) i I
        rw [a0] at h9;cases h9
       ·exact I
      have ahead:∀ (k:Nat) (o:Oper),k<i->ops.toList[k]? = some o->listed.getD k false=true\/wAa ops.toList o ops[i]=true:=by
       intro k o r f;rcases (ord i ops[i] M).1 k o r f with I | I
       ·exact .inl (b1 k I)
       ·exact .inr I
      have ⟨m,c7,j6,b4,b5⟩:=hH;have d3:∀ t,(Tr.restrict.restrictL (fun t=>aV t (iF ops.toList ops[i])) (F i)).get t=bif aV t (iF ops.toList ops[i]) then (F i).get t else none:=fun t=>Tr.get_restrict (F i) _ t;have j3:AR y nt (Tr.restrict.restrictL (fun t=>aV t (iF ops.toList ops[i])) (F i)) X:=by
       refine ⟨fun t v hv=>?_,a8,b0⟩;rw [d3] at hv
       cases e4:aV t (iF ops.toList ops[i]) with
       | false=>simp [e4] at hv
       | true=>
        simp only [e4,xA] at hv;have b6:=aE.1 e4;rcases wrote i (by omega) t v hv with ⟨k,o,I,Z,h3,h4,rfl,h6⟩ | ⟨I,Z⟩
        ·have J:listed.getD k false=true:=by
          rcases ahead k o I Z with B | B
          ·exact B
          ·exact absurd b6 ((iK B).2.1 t h3)
         refine W t k o h4 Z h3 J fun L Y a3 b9 O=>?_;rcases Nat.lt_trichotomy L i with B | rfl | B
         ·exact h6 L Y B a3 O
         ·rw [a0] at b9;cases b9
         ·exact absurd b6 ((iK (behind L Y B a3 b9)).2.2.1 t O)
        ·refine R t v (fun k o f J O=>?_) Z
         rcases Nat.lt_trichotomy k i with B | rfl | B
         ·exact I k o B f O
         ·rw [a0] at J;cases J
         ·exact absurd b6 ((iK (behind k o B f J)).2.2.1 t O)
      have d6:∀ Hx,vE E call ops.toList (Tr.restrict.restrictL (fun t=>aV t (iF ops.toList ops[i])) (F i)) ops[i] Hx=vE E call ops.toList (F i) ops[i] Hx:=by
       intro Hx;refine kA8 fun t ht=>?_;rw [d3,aE.2 ht];rfl
      have f9:∃ m',m'<=ops.size/\vE E call ops.toList (F i) ops[i] (H m)=some (V i,H m')/\
        ∀ (k:Nat) (o:Oper),ops.toList[k]? = some o->aD o.op=2->((listed.setIfInBounds i true).getD k false=true↔k<m'):=by
       have keep:aD ops[i].op≠2->∀ (k:Nat) (o:Oper),ops.toList[k]? = some o->aD o.op=2->((listed.setIfInBounds i true).getD k false=true↔k<m):=by
        intro d9 k o f C;have r:k≠i:=by rintro rfl;rw [M] at f;cases f;exact d9 C
        rw [rE A,if_neg r];exact b5 k o f C
       rcases jV ops[i].op with h0 | I | Z
       ·exact ⟨m,c7,fAg h0 (a4 i ops[i] M).1 (H m),keep (by omega)⟩
       ·have f3:∀ (k:Nat) (o:Oper),ops.toList[k]? = some o->aD o.op=2->(k∈((fD ops.toList [])[i]?).getD []->k<m)/\(i∈((fD ops.toList [])[k]?).getD []->m<=k):=by
         intro k o f C;refine ⟨fun B=>(b5 k o f C).1 (b1 k B),fun B=>?_⟩;rcases Nat.lt_or_ge k m with h8 | h8
         ·have J:=(b5 k o f C).2 h8
          have h9:listed.getD i false=true:=U (fun k=>listed.getD k false=true) a2 k o f (a2 k o f J) i B;rw [a0] at h9;cases h9
         ·exact h8
        have c6:∃ k,m<=k/\k<=ops.size/\H k=H m/\(k=ops.size\/∃ o,ops.toList[k]? = some o/\aD o.op=2)/\∀ (j:Nat) (o:Oper),m<=j->j<k->ops.toList[j]? = some o->aD o.op≠2:=by
         have:∀ d m,m+d=ops.size->∃ k,m<=k/\k<=ops.size/\H k=H m/\(k=ops.size\/∃ o,ops.toList[k]? = some o/\aD o.op=2)/\∀ (j:Nat) (o:Oper),m<=j->j<k->ops.toList[j]? = some o->aD o.op≠2:=by
          intro d
          induction d with
          | zero=>intro m hm;exact ⟨m,xD _,by omega,rfl,.inl (by omega),fun j o I Z=>by omega⟩
          | succ d i5=>
           intro m hm;obtain ⟨o,e2⟩:∃ o,ops.toList[m]? = some o:=⟨ops.toList[m]'(by simp;omega),by simp⟩
           by_cases C:aD o.op=2
           ·exact ⟨m,xD _,by omega,rfl,.inr ⟨o,e2,C⟩,fun j o I Z=>by omega⟩
           ·have ⟨k,g1,g2,g3,g4,g5⟩:=i5 (m+1) (by omega)
            refine ⟨k,by omega,g2,by rw [g3];exact c0 m o e2 C,g4,fun j Y I Z h3=>?_⟩
            by_cases j1:j=m
            ·subst j1;rw [e2] at h3;cases h3;exact C
            ·exact g5 j Y (by omega) Z h3
         exact this (ops.size-m) m (by omega)
        have ⟨k,g1,g2,g3,g4,g5⟩:=c6;have ⟨u,h3,h4,he⟩:=e5 i ops[i] (F i) (H i) (V i) M (d0 i (by simpa using a1)) I k (H k) (by
         rcases g4 with rfl | ⟨o,B,_⟩
         ·right;exact ⟨by simp,by rw [<- gn];simp⟩
         ·left;exact ⟨o,F k,V k,B,by assumption,d0 k (by have:=(List.getElem?_eq_some_iff.1 B).1;simpa using this)⟩) (fun j o f4 hj=>by
         have ⟨w1,w2⟩:=f3 j o f4 hj;refine ⟨fun B=>by have:=w1 B;omega,fun B=>?_⟩;have h8:=w2 B;rcases Nat.lt_or_ge j k with h9 | h9
         ·exact absurd hj (g5 j o h8 h9 f4)
         ·exact h9)
        rw [g3] at h4;have i6:=jA8 _ _ he;subst i6
        have:=lK (by omega) h4
        subst this;exact ⟨m,c7,h4,keep (by omega)⟩
       ·have c3:∀ (k:Nat) (o:Oper),ops.toList[k]? = some o->aD o.op=2->(k<m↔k<i):=by
         intro k o f C;rw [<- b5 k o f C];constructor
         ·intro J
          rcases Nat.lt_trichotomy k i with B | rfl | B
          ·exact B
          ·rw [a0] at J;cases J
          ·exact absurd ⟨Z,C⟩ (iK (behind k o B f J)).1
         ·intro r
          rcases ahead k o r f with B | B
          ·exact B
          ·exact absurd ⟨C,Z⟩ (iK B).1
        have j2:H m=H i:=by
         rcases Nat.le_total m i with B | B
         ·exact (d5 (i-m) m i (by omega) (by omega) fun k o h8 h9 f C=>by have:=(c3 k o f C).2 h9;omega).symm
         ·exact d5 (m-i) i m (by omega) c7 fun k o h8 h9 f C=>by have:=(c3 k o f C).1 h9;omega
        refine ⟨i+1,a1,by rw [j2];exact (a4 i ops[i] M).1,fun k o f C=>?_⟩;rw [rE A]
        by_cases r:k=i
        ·rw [if_pos r];simp;omega
        ·rw [if_neg r,b5 k o f C,c3 k o f C];omega
      have ⟨m',f5,c5,e7⟩:=f9;show wpOp P ops Q i _ X w';unfold wpOp;rw [ho];refine dAb ok d7 j6 j3 (by rw [d6];exact c5) ?_;intro i3 u w2 hv j5 a7;refine ih (listed.setIfInBounds i true) i3 _ w2 (us.erase i) ?_ ?_ (by simpa using f1) ?_ ⟨m',f5,j5,Ext.trans hr b4 a7,e7⟩ (by simpa [Act.put] using (by cases ops[i].dst <;> simp [a8])) (by cases ops[i].dst <;> simp [Act.put,b0]) ?_ ?_
      ·have:=e1 i a1 a0
       rw [List.length_erase_of_mem this];omega
      ·intro k C K
       rw [rE A] at K
       by_cases r:k=i
       ·rw [if_pos r] at K;cases K
       ·rw [if_neg r] at K
        exact (List.mem_erase_of_ne r).2 (e1 k C K)
      ·intro k o f K e he
       rw [rE A] at K ⊢
       by_cases f6:e=i
       ·rw [if_pos f6]
       ·rw [if_neg f6]
        by_cases r:k=i
        ·subst r;rw [M] at f;cases f;exact b8 e he
        ·rw [if_neg r] at K;exact a2 k o f K e he
      ·intro t k o j4 f O K d4
       rw [rE A] at K
       by_cases a9:ops[i].dst=some t
       ·have g6:i<=k:=d4 i ops[i] M (by rw [rE A,if_pos rfl]) a9
        have r:k=i:=by
         by_cases r:k=i
         ·exact r
         ·rw [if_neg r] at K
          exact absurd O ((iK (behind k o (by omega) f K)).2.2.2 t a9)
        subst r;rw [a9,uAo (by omega)];exact hv
       ·have r:k≠i:=by rintro rfl;rw [M] at f;cases f;exact a9 O
        rw [if_neg r] at K;rw [lV a9];refine VR.mono a7.mono _ _ (W t k o j4 f O K fun L Y a3 b9 e8=>d4 L Y a3 ?_ e8);rw [rE A];split
        ·rfl
        ·exact b9
      ·intro t v f8 c2
       have a9:ops[i].dst≠some t:=f8 i ops[i] M (by rw [rE A,if_pos rfl]);rw [lV a9];refine VR.mono a7.mono _ _ (R t v (fun k o f K=>f8 k o f ?_) c2);rw [rE A];split
       ·rfl
       ·exact K
   refine wp_region_any hm ?_;have i8:HR μ h { w with drawn:=w.drawn+1 }:=hr.draws rfl;have a5:∀ k,(Array.replicate ops.size false).getD k false=false:=by
    intro k;simp [Array.getD]
   refine main ops.size _ μ a _ (List.range ops.size) (by simp) (by intro i hi _;simpa using hi) (by simp) ?_ ⟨0,xc _,by rw [g0];exact i8,by rw [g0];exact Ext.draws rfl rfl rfl rfl,?_⟩ ha.size ha.defers ?_ ?_
   ·intro i o _ K;rw [a5] at K;cases K
   ·intro i o _ _;rw [a5];simp
   ·intro t k o _ _ _ K;rw [a5] at K;cases K
   ·intro t v _ hv;exact ha.slot t v hv
  }
 }
def aY {ops:List Oper} {k:Nat}:∀ {l:List Nat},qAv ops k l=true↔∀ j∈l,∀ o,ops[j]? = some o->aD o.op=2->j<k
 | []=>by simp [qAv]
 | j::r=>by
  simp only [qAv];have w:gBa ops j=true↔∃ o,ops[j]? = some o/\aD o.op=2:=by
   unfold gBa
   cases ops[j]? with
   | none=>simp
   | some o=>simp
  cases p:gBa ops j with
  | false=>
   simp only [Bool.false_and,xB,aY (l:=r),List.mem_cons]
   grind
  | true=>
   have ⟨o,y,f⟩:=w.1 p
   cases A:Nat.blt j k with
   | true=>
    have u:j<k:=by simp_all
    simp only [xV,Bool.and_false,xB,aY (l:=r),List.mem_cons]
    grind
   | false=>
    have u:¬ j<k:=by
     grind [Nat.blt,Nat.blt_eq]
    simp only [Bool.not_false,Bool.and_self,xA];constructor
    ·intro h;cases h
    ·intro B;simp_all
def oA8 {ops:List Oper} {i k:Nat}:∀ {l:List (List Nat)} {b:Nat},(∀ (j:Nat) (ps:List Nat),l[j]? = some ps->∀ o,ops[b+j]? = some o->aD o.op=2->i∈ps->k<=b+j)->dB4 ops i k b l=true
 | [],b,h=>rfl
 | ps::r,b,h=>by
  simp only [dB4];have y:=oA8 (l:=r) (b:=b+1) (fun j qs H o p F hi=>by
   have A:=h (j+1) qs (by simpa using H) o (by rw [show b+(j+1)=b+1+j by omega];exact p) F hi;rw [show b+1+j=b+(j+1) by omega];exact A)
  cases u:(gBa ops b&&(aV i ps&&!Nat.ble k b)) with
  | false=>simpa using y
  | true=>
   simp only [xG,Bool.not_eq_true'] at u;have ⟨f,B,I⟩:=u;unfold gBa at f
   split at f
   ·rename_i o p
    have C:=h 0 ps rfl o (by simpa using p) (xK f) (aE.1 B);have w:Nat.ble k b=true:=by simpa using C
    rw [I] at w;cases w
   ·cases f
end
end Ai
namespace Ai
def kAs (ops:List Oper) (x y:Oper):Bool:=
 !(Nat.beq (aD x.op) 2&&!Nat.beq (aD y.op) 0)&&!(!Nat.beq (aD x.op) 0&&Nat.beq (aD y.op) 2)&&!tA0 x.dst (iF ops y)&&!tA0 y.dst (iF ops x)&&!nX x.dst y.dst
def qR (ops:List Oper) (o:Oper) (ps:List Nat):Nat->List Oper->Bool
 | _,[]=>true
 | j,x::r=>(aV j ps||kAs ops x o)&&qR ops o ps (j+1) r
def rR (ops:List Oper) (f:List (List Nat)):Nat->List Oper->Bool
 | _,[]=>true
 | i,o::r=>qR ops o ((f[i]?).getD []) 0 (ops.take i)&&(yE o.after.toList).all (fun e=>Nat.blt e i)&&rR ops f (i+1) r
def wAo (ops:List Oper):Bool:=rR ops (fD ops []) 0 ops
def mZ:∀ s:List UInt8,bB s s=true
 | []=>rfl
 | a::s=>by simp [bB,mZ s]
def uH (n:Int):pA n n=true:=by cases n <;> simp [pA]
mutual
theorem pL:∀ v:AV,eqV v v=true
 | .bool b=>by cases b <;> rfl
 | .int k n=>by simp [eqV,eM,uH]
 | .str s=>by simp [eqV,mZ]
 | .ptr none=>rfl
 | .ptr (some (A,i))=>by simp [eqV]
 | .slice none l c s=>by simp [eqV]
 | .slice (some (A,i)) l c s=>by simp [eqV]
 | .map none=>rfl
 | .map (some A)=>by simp [eqV]
 | .func f a b=>by simp [eqV,nM a,nM b]
 | .nilFunc=>rfl
 | .iface t v=>by simp [eqV,pL v]
 | .nilIface=>rfl
 | .agg a=>by simp [eqV,nM a]
 | .tuple a=>by simp [eqV,nM a]
theorem nM:∀ v:List AV,nAo v v=true
 | []=>rfl
 | a::r=>by simp [nAo,pL a,nM r]
end
section
variable {α:Type}
variable {E:Env} {P:Program} {call:CallF} {fr fr2:Fr}
def mV {ops:List Oper} {o:Oper} {ps:List Nat}:∀ {l:List Oper} {j:Nat},qR ops o ps j l=true->∀ k x,l[k]? = some x->j+k∈ps\/kAs ops x o=true
 | [],j,h,k,x,f=>by simp at f
 | y::r,j,h,k,x,f=>by
  simp only [qR,xG,Bool.or_eq_true] at h
  cases k with
  | zero=>grind [aE,id]
  | succ k=>
   simp at f
   have:=mV h.2 k x f
   grind
def vT {ops:List Oper} {f:List (List Nat)}:∀ {l:List Oper} {i:Nat},rR ops f i l=true->∀ k o,l[k]? = some o->
  (∀ j x,(ops.take (i+k))[j]? = some x->j∈(f[i+k]?).getD []\/kAs ops x o=true)/\(∀ e∈yE o.after.toList,e<i+k)
 | [],i,h,k,o,p=>by simp at p
 | y::r,i,h,k,o,p=>by
  simp only [rR,xG] at h
  cases k with
  | zero=>
   simp at p;subst p;refine ⟨fun j x u=>by simpa using mV h.1.1 j x (by simpa using u),fun e w=>?_⟩
   simp_all
  | succ k=>
   simp at p
   have:=vT h.2 k o p
   grind
theorem pA8 {ops:List Oper} {x y:Oper} (f:kAs ops x y=true):¬ ((aD x.op=2/\aD y.op≠0)\/(aD x.op≠0/\aD y.op=2))/\(∀ t,x.dst=some t->t ∉ iF ops y)/\(∀ t,y.dst=some t->t ∉ iF ops x)/\(∀ t,x.dst=some t->y.dst≠some t):=by
 simp only [kAs,xG,Bool.not_eq_true'] at f;have ⟨⟨⟨⟨B,w⟩,C⟩,A⟩,r⟩:=f;refine ⟨?_,?_,?_,?_⟩
 ·rintro (⟨u,j⟩ | ⟨u,j⟩)
  ·simp_all
  simp_all
 ·grind [tA0,aE]
 ·grind [tA0,aE]
 ·intro t p h;simp only [nX,p,h] at r;simp_all
def vA3 {ops:List Oper} {f:List (List Nat)}:∀ {l:List Oper} {i:Nat},rR ops f i l=true->qX ops f i l=true
 | [],_,_=>rfl
 | o::r,i,h=>by
  simp only [rR,qX,xG] at h ⊢;have p:∀ {l:List Oper} {j:Nat},qR ops o ((f[i]?).getD []) j l=true->mR ops o ((f[i]?).getD []) j l=true:=by
   intro l
   induction l with
   | nil=>intro _ _;rfl
   | cons x l w=>
    intro j h;simp only [qR,mR,xG,Bool.or_eq_true] at h ⊢;refine ⟨h.1.imp id fun u=>?_,w h.2⟩;simp only [kAs,wAa,xG,Bool.not_eq_true'] at u ⊢
    grind [Nat.beq,aD,xK]
  exact ⟨⟨p h.1.1,h.1.2⟩,vA3 h.2⟩
def nB4 (ok:EnvOK E P) (hm:P.follows .mixedOrders=true) (y:rA3 P call) {S id:Nat} {ops:Array Oper} {h:Heap} {fr':Fr} {h':Heap} {recs:List (Fr×Heap×AV)} (X:jF E call S ops.toList ops.toList fr h=some (recs,fr',h')) (p:wAo ops.toList=true)
  {μ:Mu} {w:World} {a:Act} {Q:Exit->Act->World->Prop} (hr:HR μ h w) (ha:AR μ S fr a) (hq:∀ u a' w',AR u S fr' a'->HR u h' w'->Ext μ h w u h' w'->Q .normal a' w'):(Code.region id ops true).wp P Q a w:=by
 refine vAo ok hm y X (vA3 p) ?_ hr ha hq;have ⟨F,H,V,f0,g0,fn,gn,r,A⟩:=mM X;intro i o f hh v hi B hk k Hk K Y;have M:=(List.getElem?_eq_some_iff.1 hi).1;have U:=A i M;rw [B] at U;simp only [xF,xI] at U;obtain ⟨rfl,rfl,rfl⟩:=U;have I:k<=ops.toList.length/\Hk=H k:=by
  grind
 obtain ⟨I,rfl⟩:=I;have W:∀ j x,ops.toList[j]? = some x->((i<=j/\j<k)\/(k<=j/\j<i))->aD x.op≠2:=by
  intro j x J hb a0;rcases hb with ⟨b1,b2⟩ | ⟨b1,b2⟩
  ·rcases Nat.lt_or_ge i j with b3 | b3
   ·have:=(vT p j x J).1 i o (by grind)
    rw [xC] at this
    grind [pA8]
   grind
  ·have:=(vT p i o hi).1 j x (by grind)
   rw [xC] at this
   grind [pA8]
 have C:∀ d a,a+d<=ops.toList.length->(∀ j x,ops.toList[j]? = some x->a<=j->j<a+d->aD x.op≠2)->H (a+d)=H a:=by
  intro d
  induction d with
  | zero=>intro a _ _;rfl
  | succ d ih=>
   intro a hl Z;have J:ops.toList[a+d]? = some (ops.toList[a+d]'(by omega)):=by simp
   have:=lK (Z (a+d) _ J (by omega) (by omega)) (r (a+d) _ J).1
   rw [show a+(d+1)=a+d+1 from rfl,this];exact ih a (by omega) fun j x O R h3=>Z j x O R (by omega)
 have a1:H k=H i:=by
  rcases Nat.le_total i k with L | L
  ·have:=C (k-i) i (by omega) fun j x O R h3=>W j x O (.inl ⟨R,by omega⟩)
   simp_all
  grind
 grind [pL]
end
end Ai
namespace Ai
namespace Tr
variable {α:Type}
def mBi {n:Nat}:Nat.beq n 0=decide (n=0):=by cases n <;> rfl
def nBi {n:Nat}:Nat.beq (n % 2) 1=decide (n % 2=1):=by
 grind [Nat.beq,xK,Nat.ne_of_beq_eq_false]
def gN:∀ (f:Nat) (t:Tr α) (n:Nat) (x:α),n+1<2 ^ f->get (setN f t n x) n=some x
 | 0,t,n,x,h=>by simp at h
 | f+1,t,n,x,h=>by
  have w:2 ^ (f+1)=2 * 2 ^ f:=by grind
  have r:n % 2=1->n / 2+1<2 ^ f:=by intro j;omega
  have p:¬ n=0->¬ n % 2=1->n / 2-1+1<2 ^ f:=by intro j u;omega
  cases t <;> simp only [setN,mBi,nBi] <;> by_cases h0:n=0 <;> by_cases j:n % 2=1 <;>
   simp only [h0,j,xO,xQ,xA,xB,get,mBi,nBi] <;> first
    | rfl
    | exact gN f _ _ x (r j)
    | exact gN f _ _ x (p h0 j)
    | (exfalso;omega)
def dM:∀ (f:Nat) (t:Tr α) (n m:Nat) (x y:α),n+1<2 ^ f->m≠n->get t m=some y->get (setN f t n x) m=some y
 | 0,t,n,m,x,y,h,_,_=>by simp at h
 | f+1,nil,n,m,x,y,h,_,j=>by simp [get_nil] at j
 | f+1,node l v r,n,m,x,y,h,B,j=>by
  have H:2 ^ (f+1)=2 * 2 ^ f:=by grind
  have u:n % 2=1->n / 2+1<2 ^ f:=by intro p;omega
  have A:¬ n=0->¬ n % 2=1->n / 2-1+1<2 ^ f:=by intro p F;omega
  simp only [setN,mBi,nBi] at *;simp only [get,mBi,nBi] at j
  by_cases h0:n=0 <;> by_cases p:n % 2=1 <;> by_cases C:m=0 <;> by_cases w:m % 2=1 <;>
   simp only [h0,p,C,w,xO,xQ,xA,xB,get,mBi,nBi] at j ⊢ <;> first
    | exact j
    | exact dM f _ _ _ x y (u p) (by omega) j
    | exact dM f _ _ _ x y (A h0 p) (by omega) j
    | (exfalso;omega)
def pn (n:Nat):n+1<2 ^ (n+1):=Nat.lt_two_pow_self
def get_set_same {t:Tr α} {n:Nat} {x:α}:(t.set n x).get n=some x:=gN (n+1) t n x (pn n)
def get_set_other {t:Tr α} {n m:Nat} {x y:α} (f:m≠n) (h:t.get m=some y):(t.set n x).get m=some y:=dM (n+1) t n m x y (pn n) f h
end Tr
section
variable {E:Env} {P:Program} {μ:Mu} {w:World} {n:Nat}
def jAk (P:Program) (s:Sem Value) (μ:Mu) (w:World) (n:Nat) (x:AV) (b:Blk):Prop:=
 ∃ l u o,s.run P w=.ok u (w.alloc o)/\l.b=w.heap.size/\VR (μ.add n l) x u/\BR (μ.add n l) (w.alloc o) l b
def kAk (u:μ n=none) (xs:List AV) (cs:Array Value) (e:TypeId) (j:VRs μ xs cs.toList) :
  ∃ l,l.b=w.heap.size/\l.sh=0/\l.tot=xs.length/\l.ex=true/\BR (μ.add n l) (w.alloc (.cells cs e)) l (.row xs .own):=by
 have p:=j.length;refine ⟨⟨w.heap.size,0,xs.length,true⟩,rfl,rfl,rfl,rfl,?_⟩;have h:μ.le (μ.add n ⟨w.heap.size,0,xs.length,true⟩):=Mu.le_add u;have f:=VRs.mono h _ _ j;refine ⟨⟨⟨e,?_⟩,by simp,?_⟩,rfl,rfl,rfl,?_⟩
 ·have A:(w.alloc (.cells cs e)).heap[w.heap.size]? = some (.cells cs e):=by show (w.heap.push _)[_]? = _;simp
  grind [World.shape?]
 ·intro i x hi
  have ⟨y,B,r⟩:=f.get hi
  simp_all
 ·intro i _;simp_all
def gAg (p:μ n=none) {xs:List AV} {cs:Array Value} {e:TypeId} (f:VRs μ xs cs.toList):jAk P (do pure (.pointer (some (<- newRow e cs)))) μ w n (.ptr (some (n,0))) (.row xs .own):=by
 have ⟨l,h,y,r,u,j⟩:=kAk (w:=w) p xs cs e f;refine ⟨l,.pointer (some ⟨w.heap.size,0,none⟩),_,?_,h,?_,j⟩
 ·simp only [newRow,Sem.run_bind,run_newObj,Result.andThen_ok,Sem.run_pure];rfl
 grind [VR,qG]
def qA8 (r:μ n=none) {xs:List AV} {cs:Array Value} {e:TypeId} (f:VRs μ xs cs.toList):jAk P (do pure (.pointer (some (<- newRow e cs)))) μ w n (.ptr (some (n,0))) (.row xs (.ty e)):=by
 have ⟨l,j,B,y,A,p⟩:=kAk (w:=w) r xs cs e f;have h:=f.length;refine ⟨l,.pointer (some ⟨w.heap.size,0,none⟩),_,?_,j,?_,⟨p,?_⟩⟩
 ·simp only [newRow,Sem.run_bind,run_newObj,Result.andThen_ok,Sem.run_pure];rfl
 ·grind [VR,qG]
 ·have u:(w.alloc (.cells cs e)).heap[w.heap.size]? = some (.cells cs e):=by show (w.heap.push _)[_]? = _;simp
  grind [World.shape?]
def oBi (E:Env) (j:μ n=none) {e:TypeId} {v:AV} {u:Value} (p:VR μ v u):jAk P (Instr.box e u) μ w n (.ptr (some (n,0))) (.row v.cells (bif E.trk e then .ty e else .own)):=by
 cases E.trk e with
 | false=>
  have ⟨l,f,o,r,h⟩:=gAg (P:=P) (w:=w) (e:=e) j p.cells;refine ⟨l,f,o,?_,h⟩
  grind [Instr.box,newVar]
 | true=>
  have ⟨l,f,o,r,h⟩:=qA8 (P:=P) (w:=w) (e:=e) j p.cells;refine ⟨l,f,o,?_,h⟩
  grind [Instr.box,newVar]
def oB4 (ok:EnvOK E P) (j:μ n=none) {e:TypeId} {z:AV} (y:E.zero e=some z):jAk P (Instr.alloc e true (.tuple #[])) μ w n (.ptr (some (n,0))) (.row z.cells (bif E.trk e then .ty e else .own)):=by
 have ⟨A,p,f⟩:=iH ok y
 cases E.trk e with
 | false=>
  have ⟨l,u,o,r,h⟩:=gAg (P:=P) (w:=w) (e:=e) j (f μ).cells;refine ⟨l,u,o,?_,h⟩
  grind [Instr.alloc,Sem.run_bind,Result.andThen_ok,newVar]
 | true=>
  have ⟨l,u,o,r,h⟩:=qA8 (P:=P) (w:=w) (e:=e) j (f μ).cells;refine ⟨l,u,o,?_,h⟩
  grind [Instr.alloc,Sem.run_bind,Result.andThen_ok,newVar]
def HR.at {h:Heap} (j:HR μ h w) (U:μ n=none) (Y:n<h.next) {b:Blk} (Z:h.t.get n=some b) (o:Obj) (l:Loc) (hl:l.b=w.heap.size) (hb:BR (μ.add n l) (w.alloc o) l b):HR (μ.add n l) h (w.alloc o):=by
 have u:μ.le (μ.add n l):=Mu.le_add U;have C:∀ k,k<w.heap.size->(w.alloc o).heap[k]? = w.heap[k]?:=fun k hk=>by
  show (w.heap.push o)[k]? = _
  grind
 have f:∀ {A k},μ.add n l A=some k->(A=n/\k=l)\/(A≠n/\μ A=some k):=by
  grind [Mu.add]
 refine ⟨?_,?_,?_,fun x M=>u _ _ (j.pin x M)⟩
 ·intro A k r
  rcases f r with ⟨rfl,rfl⟩ | ⟨_,p⟩
  ·simp_all
  ·exact ⟨(j.dom A k p).1,by simp;have:=(j.dom A k p).2;omega⟩
 ·intro A B L K X R r J O W va Q y I
  rcases f r with ⟨rfl,rfl⟩ | ⟨V,p⟩
  ·rcases f J with ⟨rfl,rfl⟩ | ⟨nb,F⟩
   ·exact absurd rfl y
   ·have:=(j.dom B K F).2;omega
  ·rcases f J with ⟨rfl,rfl⟩ | ⟨nb,F⟩
   ·have:=(j.dom A L p).2;omega
   ·exact j.inj A B L K X R p F O W va Q y I
 ·intro A k S r H
  rcases f r with ⟨rfl,rfl⟩ | ⟨V,p⟩
  ·grind
  ·exact BR.mono u (BR.heap (C _ (j.dom A k p).2) (j.blk A k S p H))
def Ext.at {mu0:Mu} {h0 h:Heap} {y:World} (f:Ext mu0 h0 y μ h w) (F:μ n=none) (r:h0.next<=n) (o:Obj) (l:Loc) (C:l.b=w.heap.size):Ext mu0 h0 y (μ.add n l) h (w.alloc o):=by
 have j:∀ {A k},μ.add n l A=some k->(A=n/\k=l)\/(A≠n/\μ A=some k):=by
  grind [Mu.add]
 refine ⟨fun A k p=>Mu.le_add F A k (f.mono A k p),f.next,?_,f.wr,?_,?_,f.os,f.tape,f.output⟩
 ·intro A k p
  rcases j p with ⟨rfl,rfl⟩ | ⟨_,B⟩
  ·exact .inr ⟨r,.inl (by rw [C];exact f.size)⟩
  ·exact f.fresh A k B
 ·intro b H u
  rw [<- f.frame b H u];show (w.heap.push o)[b]? = _
  have:=f.size
  grind
 ·have:=f.size
  simp;omega
end
end Ai
namespace Ai
section
variable {α:Type}
variable {E:Env} {P:Program} {call:CallF} {fr fr2:Fr}
def lAk {α:Type} {t:Tr α} {n m:Nat} {x:α} (f:m≠n):(t.set n x).get m=t.get m:=by
 cases h:t.get m with
 | some y=>exact Tr.get_set_other f h
 | none=>
  cases j:(t.set n x).get m with
  | none=>rfl
  | some y=>
   rcases Tr.get_set j with ⟨e,_⟩ | ⟨_,e⟩
   ·exact absurd e f
   ·rw [h] at e;cases e
def lAs {ops:List Oper} {x y:Oper} (u:iBa ops x y=true):True/\(∀ t,x.dst=some t->t ∉ iF ops y)/\(∀ t,y.dst=some t->t ∉ iF ops x)/\(∀ t,x.dst=some t->y.dst≠some t):=by
 simp only [iBa,xG,Bool.not_eq_true'] at u;have ⟨⟨p,h⟩,j⟩:=u;refine ⟨trivial,?_,?_,?_⟩
 ·intro t f r;simp only [tA0,f] at p;rw [aE.2 r] at p;cases p
 ·intro t f r;simp only [tA0,f] at h;rw [aE.2 r] at h;cases h
 ·intro t f w;simp only [nX,f,w] at j;rw [bt rfl] at j;cases j
def mAs (ok:EnvOK E P) {μ:Mu} {C:Nat} {a:Act} (A:AR μ C fr a) {o:Oper} (u:eA3 o.op=true) {h h':Heap} {x:AV} (f:lJ E call fr o.op h=some (x,h')) (r:μ h.next=none) (w:World) :
  ∃ b s,h'=h.push b/\execOp a.eval o=(do pure (.value (<- s)))/\jAk P s μ w h.next x b:=by
 have ⟨dst,op,type,pos,after,guard⟩:=o;simp only at f u;cases op <;> simp only [eA3,reduceCtorEq] at u
 case alloc e=>
  simp only [lJ,opA] at f
  cases j:E.zero e with
  | none=>simp [j] at f
  | some z=>
   simp only [j,xF,xI] at f;obtain ⟨rfl,rfl⟩:=f;exact ⟨_,_,rfl,rfl,oB4 (P:=P) ok r j⟩
 case box e y=>
  simp only [lJ,opA] at f;have ⟨v,B,p⟩:=qE f;simp only [xF,xI] at p;obtain ⟨rfl,rfl⟩:=p;exact ⟨_,_,rfl,rfl,oBi (P:=P) E r (bC A B)⟩
def nAs (call:CallF) {o:Oper} (r:eA3 o.op=true) {h h':Heap} {x:AV} (f:lJ E call fr o.op h=some (x,h')):∃ b,h'=h.push b:=by
 have ⟨dst,op,type,pos,after,guard⟩:=o;simp only at f r;cases op <;> simp only [eA3,reduceCtorEq] at r
 case alloc e=>
  simp only [lJ,opA] at f
  cases j:E.zero e with
  | none=>simp [j] at f
  | some z=>
   simp only [j,xF,xI] at f;exact ⟨_,f.2.symm⟩
 case box e y=>
  simp only [lJ,opA] at f;have ⟨v,u,p⟩:=qE f;simp only [xF,xI] at p;exact ⟨_,p.2.symm⟩
end
end Ai
namespace Ai
section
variable {α:Type}
variable {E:Env} {P:Program} {call:CallF} {fr fr2:Fr}
def eAb (ok:EnvOK E P) {μ:Mu} {w:World} {h h':Heap} {t:TypeId} {len:Nat} {parts:List (Nat×AV)} {parts':Array (Nat×Value)} {x:AV} (U:μ h.next=none) (Q:PR μ parts parts'.toList)
  (f:yI E h t len parts=some (x,h')):∃ b,h'=h.push b/\jAk P (Instr.buildSlice t len parts') μ w h.next x b:=by
 unfold yI at f
 split at f
 ·rename_i e K
  cases u:E.size e with
  | none=>simp [u] at f
  | some n=>
   simp only [u] at f
   cases F:E.zero e with
   | none=>simp [F] at f
   | some z=>
    simp only [F] at f;have ⟨Z,y,J⟩:=iH ok F
    cases r:(Nat.beq z.cells.length n&&Nat.ble (len * n) 16777216) with
    | false=>simp [r] at f
    | true=>
     simp only [r,xA] at f;simp only [xG] at r;have I:z.cells.length=n:=xK r.1;have W:len * n<=16777216:=by simpa using r.2
     subst I
     cases B:aA3 (fun i=>some (i * z.cells.length,z.cells.length)) (mAv len z.cells) parts with
     | none=>simp [B] at f
     | some cs=>
      simp only [B,xF,xI] at f;obtain ⟨rfl,rfl⟩:=f;have ⟨p,M,O,V⟩:=lM Q (mA3 (n:=len) (J μ)) B;have ⟨l,R,X,L,Y,S⟩:=kAk (w:=w) U cs p e O;have j:¬ (len * z.cells.length > 2 ^ 24):=by
       grind
      refine ⟨_,rfl,l,.slice (some ⟨w.heap.size,0,none⟩) len len,_,?_,R,?_,S⟩
      ·by_cases h0:len * z.cells.length=0
       ·have C:¬ ((0:Nat) > 2 ^ 24):=by decide
        have H:Instr.fill (fun i=>some (i * z.cells.length,z.cells.length)) #[] parts'.toList=some p:=by
         grind
        simp only [Instr.buildSlice,Sem.run_bind,pB (aB ok K),Result.andThen_ok,lD ok u,h0,C,xL,xM,Sem.run_pure,show Array.range 0 = #[] from rfl,Array.map_empty,H,newRow,run_newObj];rfl
       ·simp only [Instr.buildSlice,Sem.run_bind,pB (aB ok K),Result.andThen_ok,lD ok u,if_neg j,h0,xL,y,Sem.run_pure,M,newRow,run_newObj]
        rfl
      ·have:=VR.slice_own (μ:=μ.add h.next l) (A:=h.next) (off:=0) (len:=len) (cap:=len) (sz:=z.cells.length) (qG _ _ _) (xD _) (by rw [X,L,V,cN];omega)
       grind
 ·simp at f
def mAk (ok:EnvOK E P) {μ:Mu} {C:Nat} {a:Act} (y:AR μ C fr a) {o:Oper} (j:dZ o.op=true) {h h':Heap} {x:AV} (f:lJ E call fr o.op h=some (x,h')) (A:μ h.next=none) (w:World) :
  ∃ b s,h'=h.push b/\execOp a.eval o=(do pure (.value (<- s)))/\jAk P s μ w h.next x b:=by
 cases p:eA3 o.op with
 | true=>exact mAs ok y p f A w
 | false=>
  have ⟨dst,op,type,pos,after,guard⟩:=o;simp only at f j p;cases op
  case buildSlice t len ps=>
   simp only [lJ,opA] at f
   cases r:cI fr ps.toList with
   | none=>simp [r] at f
   | some l=>
    simp only [r] at f;have u:PR μ l (ps.map fun (i,x)=>(i,a.eval x)).toList:=by simpa using fN y r
    have ⟨b,F,B⟩:=eAb (P:=P) (w:=w) ok A u f;exact ⟨b,_,F,rfl,B⟩
  all_goals
   simp only [dZ] at j;rw [p] at j;cases j
theorem wA3 (call:CallF) {o:Oper} (j:dZ o.op=true) {h h':Heap} {x:AV} (f:lJ E call fr o.op h=some (x,h')):∃ b,h'=h.push b:=by
 cases p:eA3 o.op with
 | true=>exact nAs call p f
 | false=>
  have ⟨dst,op,type,pos,after,guard⟩:=o;simp only at f j p;cases op
  case buildSlice t len ps=>
   simp only [lJ,opA] at f
   cases r:cI fr ps.toList with
   | none=>simp [r] at f
   | some l=>
    simp only [r] at f;unfold yI at f
    split at f
    ·grind
    ·simp at f
  all_goals
   simp only [dZ] at j;rw [p] at j;cases j
def yA3 {o:Op} (h:lP o=true):aD o=2/\dZ o=false:=by
 simp only [lP,xG,Bool.not_eq_true'] at h
 simp_all
theorem fAb {o:Op} (h:lP o=false) (f:aD o=2):dZ o=true:=by
 unfold lP at h
 simp_all
def oBa (E:Env) (call:CallF) (ops:List Oper) (recs:List (Fr×Heap×AV)) (h':Heap):Prop:=
 ∀ (i:Nat) (o:Oper) (f:Fr) (w:Heap) (v:AV),ops[i]? = some o->recs[i]? = some (f,w,v)->aD o.op=1->∀ (k:Nat) (h:Heap),((∃ j r p,ops[k]? = some j/\lP j.op=true/\recs[k]? = some (r,h,p))\/(k=ops.length/\h=h'))->
  ∃ u y,vE E call ops f o h=some (u,y)/\eqV u v=true
end
end Ai
end Go.Proofs.YtkcjphhjmlienaaGreatDoor
