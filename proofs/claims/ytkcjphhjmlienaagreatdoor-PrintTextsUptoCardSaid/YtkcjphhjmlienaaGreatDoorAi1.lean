import Derived.Orders
import Derived.Laws.Sem
import Derived.Laws.World
import Derived.Laws.Strings
import Derived.Below
import Derived.Laws.StructEq
import Derived.ChangeKeysEq
import Derived.Laws.BytesString
import Derived.Lib.UnsafeStr
import Derived.WideKeyRuns
import Derived.MapKept
import Derived.LoopN
import Derived.Scope
/- A verified evaluator for the model of the program: what it evaluates is what the program computes, whatever else the memory holds; part 1. Conditions: no package variables. -/
namespace Go.Proofs.YtkcjphhjmlienaaGreatDoor
set_option linter.unusedVariables false
set_option linter.unusedSimpArgs false
namespace Ai
inductive AV where
 | bool (b:Bool)
 | int (k:IntKind) (n:Int)
 | str (s:List UInt8)
 | ptr (a:Option (Nat×Nat))
 | slice (a:Option (Nat×Nat)) (len cap sz:Nat)
 | map (r:Option Nat)
 | func (fn:Fn) (first captured:List AV)
 | nilFunc
 | iface (t:TypeId) (v:AV)
 | nilIface
 | agg (cs:List AV)
 | tuple (vs:List AV)
 deriving Inhabited
inductive Tr (α:Type) where
 | nil
 | node (l:Tr α) (v:Option α) (r:Tr α)
namespace Tr
variable {α:Type}
def get:Tr α->Nat->Option α
 | nil,_=>none
 | node l v r,n=>bif Nat.beq n 0 then v else bif Nat.beq (n % 2) 1 then get l (n / 2) else get r (n / 2-1)
def lAh:Nat->Tr α->Nat->α->Tr α
 | 0,_,_,_=>nil
 | f+1,nil,n,x=>bif Nat.beq n 0 then node nil (some x) nil else bif Nat.beq (n % 2) 1 then node (lAh f nil (n / 2) x) none nil else node nil none (lAh f nil (n / 2-1) x)
 | f+1,node l v r,n,x=>bif Nat.beq n 0 then node l (some x) r else bif Nat.beq (n % 2) 1 then node (lAh f l (n / 2) x) v r else node l v (lAh f r (n / 2-1) x)
def set (t:Tr α) (n:Nat) (x:α):Tr α:=lAh (n+1) t n x
end Tr
inductive BState where
 | ro | own | grown | dead | bytes (t:Nat) | ty (t:Nat)
inductive Blk where
 | row (cs:List AV) (st:BState)
 | map (es:List (AV×AV×Nat)) (clock:Nat)
 | siter (s:List UInt8) (pos:Nat)
structure Loc where
 b:Nat
 sh:Nat
 tot:Nat
 ex:Bool
structure Heap where
 t:Tr Blk
 next:Nat
 pins:List (Nat×Loc):=[]
structure Env where
 info:TypeId->Option TypeInfo
 fn:FuncId->Option Func
 native:FuncId->Option (List AV->Heap->Option (AV×Heap))
 cmp:TypeId->Bool
 trk:TypeId->Bool
 lies:TypeId->Nat->TypeId->Bool
def Env.und (E:Env) (t:TypeId):Option TypeDesc:=
 match E.info t with
 | some i=>match i.desc with
  | .named _ u=>match E.info u with
   | some j=>some j.desc
   | none=>none
  | d=>some d
 | none=>none
def undefA:AV:=.tuple []
def AV.cells:AV->List AV
 | .agg cs=>cs
 | v=>[v]
def AV.single:AV->Bool
 | .agg _=>false
 | .tuple _=>false
 | _=>true
def pAp:Value->Option AV
 | .bool b=>some (.bool b)
 | .int k n=>some (.int k n)
 | .string s=>some (.str s.data.toList)
 | .pointer none=>some (.ptr none)
 | .slice none 0 0=>some (.slice none 0 0 0)
 | .map none=>some (.map none)
 | .nilFunc=>some .nilFunc
 | .nilIface=>some .nilIface
 | _=>none
def kZ:List Value->Option (List AV)
 | []=>some []
 | v::r=>match pAp v with
  | some x=>match kZ r with
   | some xs=>some (x::xs)
   | none=>none
  | none=>none
def ofV:Value->Option AV
 | .agg cs=>(kZ cs.toList).map .agg
 | .tuple cs=>if cs.size=0 then some (.tuple []) else none
 | v=>pAp v
abbrev Fr:=Tr AV
def eG (fr:Fr):Operand->Option AV
 | .tmp t=>fr.get t
 | .const v=>ofV v
 | .global _=>none
 | .func f=>some (.func (.func f) [] [])
def jG (fr:Fr):List Operand->Option (List AV)
 | []=>some []
 | x::r=>match eG fr x with
  | some v=>match jG fr r with
   | some l=>some (v::l)
   | none=>none
  | none=>none
def Heap.row (h:Heap) (A:Nat):Option (List AV):=
 match h.t.get A with
 | some (.row cs st)=>match st with
  | .dead=>none
  | _=>some cs
 | _=>none
def Heap.rowW (h:Heap) (A:Nat):Option (List AV×BState):=
 match h.t.get A with
 | some (.row cs st)=>match st with
  | .own=>some (cs,st)
  | .grown=>some (cs,st)
  | .bytes _=>some (cs,st)
  | .ty _=>some (cs,st)
  | _=>none
 | _=>none
def Heap.push (h:Heap) (b:Blk):Heap:={ t:=h.t.set h.next b,next:=h.next+1,pins:=h.pins }
def Heap.put (h:Heap) (A:Nat) (b:Blk):Heap:={ h with t:=h.t.set A b }
def takeN:Nat->List AV->Option (List AV)
 | 0,_=>some []
 | n+1,x::r=>match takeN n r with
  | some l=>some (x::l)
  | none=>none
 | _+1,[]=>none
def Heap.read (h:Heap) (A off n:Nat):Option (List AV):=
 match h.row A with
 | some cs=>takeN n (cs.drop off)
 | none=>none
def over:Nat->List AV->List AV->Option (List AV)
 | _,cs,[]=>some cs
 | _,[],_::_=>none
 | 0,_::cs,v::vs=>match over 0 cs vs with
  | some l=>some (v::l)
  | none=>none
 | n+1,c::cs,v::vs=>match over n cs (v::vs) with
  | some l=>some (c::l)
  | none=>none
def cAt:TypeDesc->Bool
 | .struct _=>true
 | .array _ _=>true
 | _=>false
def Env.isAgg (E:Env) (t:TypeId):Option Bool:=(E.und t).map cAt
def Env.size (E:Env) (t:TypeId):Option Nat:=(E.info t).map (·.size)
def Env.zero (E:Env) (t:TypeId):Option AV:=
 match E.info t with
 | some i=>match i.zero with
  | some v=>ofV v
  | none=>none
 | none=>none
def nN (E:Env) (h:Heap) (t:TypeId) (a:AV):Option AV:=
 match a with
 | .ptr (some (A,off))=>
  match E.isAgg t with
  | some true=>match E.size t with
   | some n=>match h.read A off n with
    | some l=>some (.agg l)
    | none=>none
   | none=>none
  | some false=>match h.read A off 1 with
   | some [v]=>some v
   | _=>none
  | none=>none
 | _=>none
def lZ (E:Env) (h:Heap) (t:TypeId) (a v:AV):Option Heap:=
 match a with
 | .ptr (some (A,off))=>
  match E.size t with
  | some n=>
   if v.cells.length=n&&v.cells.all AV.single then
    match h.rowW A with
    | some (cs,st)=>match over off cs v.cells with
     | some cs'=>some (h.put A (.row cs' st))
     | none=>none
    | none=>none
   else none
  | none=>none
 | _=>none
def cO (h:Heap) (cs:List AV):AV×Heap:=(.ptr (some (h.next,0)),h.push (.row cs .own))
def cV (place:Nat->Option (Nat×Nat)):List AV->List (Nat×AV)->Option (List AV)
 | cs,[]=>some cs
 | cs,(i,v)::rest=>
  match place i with
  | some (off,size)=>bif Nat.beq v.cells.length size&&Nat.ble (off+size) cs.length then
    match over off cs v.cells with
    | some cs'=>cV place cs' rest
    | none=>none
   else none
  | none=>none
def dO (E:Env):List Field->Option (List (Nat×Nat))
 | []=>some []
 | f::r=>match E.size f.type with
  | some n=>match dO E r with
   | some l=>some ((f.offset,n)::l)
   | none=>none
  | none=>none
def Env.fieldAt (E:Env) (t:TypeId) (f:Nat):Option Field:=
 match E.und t with
 | some (.struct fs)=>fs[f]?
 | _=>none
def mAj (E:Env) (t:TypeId) (parts:List (Nat×AV)):Option AV:=
 match E.zero t with
 | some z=>match E.und t with
  | some (.struct fs)=>match dO E fs.toList with
   | some l=>match cV (fun i=>l[i]?) z.cells parts with
    | some cs=>some (.agg cs)
    | none=>none
   | none=>none
  | some (.array _ e)=>match E.size e with
   | some n=>match cV (fun i=>some (i * n,n)) z.cells parts with
    | some cs=>some (.agg cs)
    | none=>none
   | none=>none
  | _=>none
 | none=>none
def nAj:Nat->List AV->List AV
 | 0,_=>[]
 | n+1,l=>l++nAj n l
def kG (E:Env) (h:Heap) (t:TypeId) (len:Nat) (parts:List (Nat×AV)):Option (AV×Heap):=
 match E.und t with
 | some (.slice e)=>match E.size e with
  | some n=>match E.zero e with
   | some z=>bif Nat.beq z.cells.length n&&Nat.ble (len * n) 16777216 then
     match cV (fun i=>some (i * n,n)) (nAj len z.cells) parts with
     | some cs=>some (.slice (some (h.next,0)) len len n,h.push (.row cs .own))
     | none=>none
    else none
   | none=>none
  | none=>none
 | _=>none
def eO (E:Env) (t:TypeId) (cs:List AV) (off:Nat):Option AV:=
 match E.isAgg t with
 | some true=>match E.size t with
  | some n=>(takeN n (cs.drop off)).map .agg
  | none=>none
 | some false=>match cs.drop off with
  | v::_=>some v
  | []=>none
 | none=>none
def mAh (a b:Option (Nat×Nat)):Option Bool:=
 match a,b with
 | none,none=>some true
 | none,some _=>some false
 | some _,none=>some false
 | some (A,i),some (B,j)=>bif Nat.beq A B then some (Nat.beq i j) else none
def oAj (E:Env) (eqr:AV->AV->Option Bool) (e:TypeId) (n:Nat):Nat->List AV->List AV->Option Bool
 | 0,_,_=>some true
 | len+1,xs,ys=>match eO E e xs 0,eO E e ys 0 with
  | some x,some y=>match eqr x y with
   | some true=>oAj E eqr e n len (xs.drop n) (ys.drop n)
   | some false=>some false
   | none=>none
  | _,_=>none
def eqFields (E:Env) (eqr:TypeId->AV->AV->Option Bool):List Field->List AV->List AV->Option Bool
 | [],_,_=>some true
 | f::fs,xs,ys=>
  if f.name = "_" then none else
  match eO E f.type xs f.offset,eO E f.type ys f.offset with
  | some x,some y=>match eqr f.type x y with
   | some true=>eqFields E eqr fs xs ys
   | some false=>some false
   | none=>none
  | _,_=>none
def fB:List UInt8->List UInt8->Bool
 | [],[]=>true
 | a::x,b::y=>bif Nat.beq a.toNat b.toNat then fB x y else false
 | _,_=>false
def eA:Int->Int->Bool
 | .ofNat a,.ofNat b=>Nat.beq a b
 | .negSucc a,.negSucc b=>Nat.beq a b
 | _,_=>false
def nJ (k k':IntKind):Bool:=decide (k=k')
def eqA (E:Env):Nat->TypeId->AV->AV->Option Bool
 | 0,_,_,_=>none
 | d+1,t,x,y=>
  match E.und t,x,y with
  | some .bool,.bool a,.bool b=>some (bif a then b else !b)
  | some (.int _),.int k a,.int k' b=>bif nJ k k' then some (eA a b) else none
  | some .string,.str a,.str b=>some (fB a b)
  | some (.pointer e),.ptr a,.ptr b=>match E.size e with
    | some (_+1)=>mAh a b
    | _=>none
  | some (.interface _),.nilIface,.nilIface=>some true
  | some (.interface _),.nilIface,.iface _ _=>some false
  | some (.interface _),.iface _ _,.nilIface=>some false
  | some (.interface _),.iface tx vx,.iface ty vy=>bif Nat.beq tx ty then match E.info tx with
     | some i=>bif i.comparable then eqA E d tx vx vy else none
     | none=>none
    else some false
  | some (.slice _),.slice none _ _ _,.slice b _ _ _=>some b.isNone
  | some (.slice _),.slice (some _) _ _ _,.slice none _ _ _=>some false
  | some (.map _ _),.map none,.map b=>some b.isNone
  | some (.map _ _),.map (some _),.map none=>some false
  | some (.func _ _ _),.nilFunc,.nilFunc=>some true
  | some (.func _ _ _),.nilFunc,.func _ _ _=>some false
  | some (.func _ _ _),.func _ _ _,.nilFunc=>some false
  | some (.array len e),.agg xs,.agg ys=>match E.size e with
    | some n=>oAj E (eqA E d e) e n len xs ys
    | none=>none
  | some (.struct fs),.agg xs,.agg ys=>bif E.cmp t then eqFields E (eqA E d) fs.toList xs ys else none
  | _,_,_=>none
end Ai
namespace Ai
def pw:IntKind->Nat
 | .i8=>256
 | .u8=>256
 | .i16=>65536
 | .u16=>65536
 | .i32=>4294967296
 | .u32=>4294967296
 | .i64=>18446744073709551616
 | .u64=>18446744073709551616
def wrapN (k:IntKind) (m:Nat):Int:=bif k.signed&&Nat.ble (pw k / 2) m then .negSucc (pw k-1-m) else .ofNat m
def jB (k:IntKind):Int->Int
 | .ofNat a=>wrapN k (a % pw k)
 | .negSucc a=>wrapN k (pw k-1-a % pw k)
def dAt (k:IntKind):Int->Nat
 | .ofNat a=>a % pw k
 | .negSucc a=>pw k-1-a % pw k
def ltInt (a b:Int):Bool:=match b-a with
 | .ofNat n=>!(Nat.beq n 0)
 | .negSucc _=>false
def wB (a b:Int):Bool:=match b-a with
 | .ofNat _=>true
 | .negSucc _=>false
def qL:List UInt8->List UInt8->Bool
 | _,[]=>false
 | [],_::_=>true
 | a::x,b::y=>bif Nat.blt a.toNat b.toNat then true else bif Nat.beq a.toNat b.toNat then qL x y else false
def qA9 (op:BinOp) (k:IntKind) (x y:Int):Option AV:=
 let a:=dAt k x
 let b:=dAt k y
 match op with
 | .and=>some (.int k (jB k (Nat.land a b)))
 | .or=>some (.int k (jB k (Nat.lor a b)))
 | .xor=>some (.int k (jB k (Nat.xor a b)))
 | .andNot=>some (.int k (jB k (Nat.xor a (Nat.land a b))))
 | _=>none
def aA6 (op:BinOp) (k:IntKind) (x y:Int):Option AV:=
 match op with
 | .add=>some (.int k (jB k (x+y)))
 | .sub=>some (.int k (jB k (x-y)))
 | .mul=>some (.int k (jB k (x * y)))
 | .quo=>bif eA y 0 then none else some (.int k (jB k (x.tdiv y)))
 | .rem=>bif eA y 0 then none else some (.int k (x.tmod y))
 | .eql=>some (.bool (eA x y))
 | .neq=>some (.bool (!eA x y))
 | .lss=>some (.bool (ltInt x y))
 | .leq=>some (.bool (wB x y))
 | .gtr=>some (.bool (ltInt y x))
 | .geq=>some (.bool (wB y x))
 | .shl=>none
 | .shr=>none
 | op=>qA9 op k x y
def iAe (op:BinOp) (k:IntKind) (x y:Int):Option AV:=
 match y with
 | .negSucc _=>none
 | .ofNat m=>
  let n:=min m k.bits
  match op with
  | .shl=>some (.int k (jB k (x * Int.ofNat (2 ^ n))))
  | .shr=>some (.int k (x.fdiv (Int.ofNat (2 ^ n))))
  | _=>none
def rA (op:BinOp) (x y:List UInt8):Option AV:=
 match op with
 | .add=>bif Nat.ble (x.length+y.length) 1099511627776 then some (.str (x++y)) else none
 | .eql=>some (.bool (fB x y))
 | .neq=>some (.bool (!fB x y))
 | .lss=>some (.bool (qL x y))
 | .leq=>some (.bool (!qL y x))
 | .gtr=>some (.bool (qL y x))
 | .geq=>some (.bool (!qL x y))
 | _=>none
def pM:Operand->Bool
 | .const _=>true
 | _=>false
def fAv (op:BinOp) (k k':IntKind) (a b:Int):Option AV:=
 match op with
 | .shl=>iAe .shl k a b
 | .shr=>iAe .shr k a b
 | op=>bif nJ k k' then aA6 op k a b else none
def pAj:AV->AV->Bool
 | .bool _,.bool _=>true
 | .ptr _,.ptr _=>true
 | .slice ..,.slice ..=>true
 | .map _,.map _=>true
 | .iface ..,.iface ..=>true
 | .iface ..,.nilIface=>true
 | .nilIface,.iface ..=>true
 | .nilFunc,.nilFunc=>true
 | .nilFunc,.func ..=>true
 | .func ..,.nilFunc=>true
 | _,_=>false
def gAp (E:Env) (t:TypeId) (x y:Operand) (a b:AV):Option Bool:=
 match a,b with
 | .nilIface,.nilIface=>bif pM x||pM y then eqA E 9 t .nilIface .nilIface else none
 | .agg xs,.agg ys=>bif E.cmp t then eqA E 9 t (.agg xs) (.agg ys) else none
 | a,b=>bif pAj a b then eqA E 9 t a b else none
def kB0 (E:Env) (op:BinOp) (t:TypeId) (x y:Operand) (a b:AV):Option AV:=
 match op with
 | .eql=>match gAp E t x y a b with
  | some r=>some (.bool r)
  | none=>none
 | .neq=>match gAp E t x y a b with
  | some r=>some (.bool (!r))
  | none=>none
 | _=>none
def oA9 (E:Env) (op:BinOp) (t:TypeId) (x y:Operand) (a b:AV):Option AV:=
 match a,b with
 | .int k a,.int k' b=>fAv op k k' a b
 | .str a,.str b=>rA op a b
 | a,b=>kB0 E op t x y a b
def unA (op:UnOp) (x:AV):Option AV:=
 match op,x with
 | .neg,.int k n=>some (.int k (jB k (0-n)))
 | .xor,.int k n=>qA9 .xor k (if k.signed then -1 else k.max) n
 | .not,.bool b=>some (.bool (!b))
 | _,_=>none
def bJ (l:List AV):Option (List UInt8):=
 match l with
 | []=>some []
 | .int .u8 n::r=>match bJ r with
  | some s=>some (UInt8.ofNat n.toNat::s)
  | none=>none
 | _=>none
def ofBytes:List UInt8->List AV
 | []=>[]
 | b::r=>.int .u8 b.toNat::ofBytes r
def nA1 (E:Env) (src dst:TypeId) (x:AV) (h:Heap):Option (AV×Heap):=
 match E.und src,E.und dst,x with
 | some _,some (.int k),.int _ n=>some (.int k (jB k n),h)
 | some _,some .string,.str s=>some (.str s,h)
 | some _,some .string,.int _ n=>some (.str (Utf8.encode n).data.toList,h)
 | some _,some (.slice e),.str s=>match E.und e with
  | some (.int .u8)=>some (.slice (some (h.next,0)) s.length s.length 1,h.push (.row (ofBytes s) .grown))
  | _=>none
 | some (.slice e),some .string,.slice a len _ _=>match E.und e with
  | some (.int .u8)=>match a with
   | none=>some (.str [],h)
   | some (A,off)=>match h.read A off len with
    | some l=>match bJ l with
     | some s=>some (.str s,h)
     | none=>none
    | none=>none
  | _=>none
 | some (.pointer t),some .unsafePointer,.ptr (some (A,off))=>match h.row A,E.size t with
  | some cs,some (_+1)=>bif Nat.blt off cs.length then some (.ptr (some (A,off)),h) else none
  | _,_=>none
 | some .unsafePointer,some (.pointer u),.ptr (some (A,off))=>match h.t.get A with
  | some (.row cs (.ty e))=>match E.size e,E.size u with
   | some (n+1),some (_+1)=>bif Nat.beq cs.length (n+1)&&E.lies e off u then some (.ptr (some (A,off)),h) else none
   | _,_=>none
  | _=>none
 | _,_,_=>none
def lT:AV->Option Nat
 | .int _ (.ofNat n)=>some n
 | _=>none
def yD (v:Option AV) (lim dflt:Nat):Option Nat:=
 match v with
 | none=>some dflt
 | some v=>match lT v with
  | some n=>bif Nat.ble n lim then some n else none
  | none=>none
def vT (E:Env) (h:Heap) (n:Nat) (e:TypeId) (A off:Nat) (lo hi:Option AV):Option AV:=
 match E.size e with
 | some sz=>match h.row A with
  | some cs=>bif Nat.ble (off+n * sz) cs.length then match yD hi n n with
    | some hN=>match yD lo hN 0 with
     | some l=>some (.slice (some (A,off+l * sz)) (hN-l) (n-l) sz)
     | none=>none
    | none=>none
   else none
  | none=>none
 | none=>none
def nE (E:Env) (h:Heap) (t:TypeId) (x:AV) (lo hi:Option AV):Option AV:=
 match E.und t,x with
 | some .string,.str s=>match yD hi s.length s.length with
  | some h=>match yD lo h 0 with
   | some l=>some (.str ((s.take h).drop l))
   | none=>none
  | none=>none
 | some (.slice e),.slice none len cap sz=>match E.size e with
  | some _=>match yD hi cap len with
   | some h=>match yD lo h 0 with
    | some l=>some (.slice none (h-l) (cap-l) sz)
    | none=>none
   | none=>none
  | none=>none
 | some (.slice e),.slice (some (A,off)) len cap sz=>match E.size e with
  | some n=>bif Nat.beq n sz then match yD hi cap len with
    | some h=>match yD lo h 0 with
     | some l=>some (.slice (some (A,off+l * sz)) (h-l) (cap-l) sz)
     | none=>none
    | none=>none
   else none
  | none=>none
 | some (.array n e),.ptr (some (A,off))=>vT E h n e A off lo hi
 | some (.pointer arr),.ptr (some (A,off))=>match E.und arr with
  | some (.array n e)=>vT E h n e A off lo hi
  | _=>none
 | _,_=>none
def qM (E:Env) (s:TypeId) (x:AV) (f:Nat):Option AV:=
 match x with
 | .ptr (some (A,off))=>match E.fieldAt s f with
  | some fd=>match E.size fd.type with
   | some (_+1)=>some (.ptr (some (A,off+fd.offset)))
   | _=>none
  | none=>none
 | _=>none
def jAe (E:Env) (t:TypeId) (x:AV) (f:Nat):Option AV:=
 match x with
 | .agg cs=>match E.fieldAt t f with
  | some fd=>eO E fd.type cs fd.offset
  | none=>none
 | _=>none
def oJ (E:Env) (t:TypeId) (x ix:AV):Option AV:=
 match lT ix with
 | some i=>match E.und t,x with
  | some (.array len e),.ptr (some (A,off))=>match E.size e with
   | some n=>bif Nat.blt i len then some (.ptr (some (A,off+i * n))) else none
   | none=>none
  | some (.slice e),.slice (some (A,off)) len _ _=>match E.size e with
   | some n=>bif Nat.blt i len then some (.ptr (some (A,off+i * n))) else none
   | none=>none
  | _,_=>none
 | none=>none
def bA6 (E:Env) (t:TypeId) (x ix:AV):Option AV:=
 match lT ix with
 | some i=>match E.und t,x with
  | some (.array len e),.agg cs=>match E.size e with
   | some n=>bif Nat.blt i len then eO E e cs (i * n) else none
   | none=>none
  | some .string,.str s=>match s[i]? with
   | some b=>some (.int .u8 b.toNat)
   | none=>none
  | _,_=>none
 | none=>none
def cA6 (ok:Bool) (v:AV):AV:=bif ok then .tuple [v,.bool true] else v
def yR (E:Env) (t:TypeId) (ok:Bool):Option AV:=bif ok then (match E.zero t with
  | some z=>some (.tuple [z,.bool false])
  | none=>none) else none
def rM:TypeDesc->Option (Array (String×TypeId))
 | .interface ms=>some ms
 | _=>none
def cJ (E:Env) (x:AV) (t:TypeId) (ok:Bool):Option AV:=
 match E.und t with
 | none=>none
 | some d=>match rM d with
  | some want=>match x with
   | .nilIface=>yR E t ok
   | .iface t' _=>match E.info t' with
    | some i=>match Instr.missingMethod want i.methods with
     | none=>some (cA6 ok x)
     | some _=>yR E t ok
    | none=>none
   | _=>none
  | none=>match x with
   | .nilIface=>yR E t ok
   | .iface t' v=>bif Nat.beq t' t then some (cA6 ok v) else yR E t ok
   | _=>none
def pJ (x:AV):Option AV:=
 match x with
 | .ptr none=>none
 | .nilIface=>none
 | .nilFunc=>none
 | .func (.method _) _ _=>none
 | x=>some x
def jL:AV->Option Nat
 | .slice _ n _ _=>some n
 | .str s=>some s.length
 | _=>none
def wC (h:Heap) (size n:Nat):AV->Option (List AV)
 | .slice (some (A,off)) _ _ _=>h.read A off (n * size)
 | .slice none _ _ _=>some []
 | .str s=>some (ofBytes (s.take n))
 | _=>none
def oA1:Nat:=1073741824
def yO:TypeDesc->Bool
 | .int _=>true
 | _=>false
def fO (h:Heap) (base:Option (Nat×Nat)) (len cap sz n:Nat) (new:List AV):Option (AV×Heap):=
 match base with
 | none=>some (.slice (some (h.next,0)) (len+n) (len+n) sz,h.push (.row new .grown))
 | some (A,off)=>match h.t.get A with
  | some (.row cs .own)=>match takeN (len * sz) (cs.drop off) with
   | some old=>bif Nat.ble (len+n) cap then (match over (off+len * sz) cs new with
     | some cs'=>some (.slice (some (A,off)) (len+n) cap sz,h.put A (.row cs' .own))
     | none=>none)
    else some (.slice (some (h.next,0)) (len+n) (len+n) sz,h.push (.row (old++new) .grown))
   | none=>none
  | some (.row cs .grown)=>match takeN (len * sz) (cs.drop off) with
   | some old=>some (.slice (some (h.next,0)) (len+n) (len+n) sz,(h.put A (.row cs .dead)).push (.row (old++new) .grown))
   | none=>none
  | some (.row cs (.bytes _))=>match takeN (len * sz) (cs.drop off) with
   | some old=>some (.slice (some (h.next,0)) (len+n) (len+n) sz,(h.put A (.row cs .dead)).push (.row (old++new) .grown))
   | none=>none
  | _=>none
def growB (e:Nat) (h:Heap) (base:Option (Nat×Nat)) (len cap sz n:Nat) (new:List AV):Option (AV×Heap):=
 match base with
 | none=>some (.slice (some (h.next,0)) (len+n) (len+n) sz,h.push (.row new (.bytes e)))
 | some (A,off)=>match h.t.get A with
  | some (.row cs (.bytes t))=>bif Nat.beq t e&&Nat.beq off 0 then (match takeN (len * sz) (cs.drop off) with
   | some old=>some (.slice (some (h.next,0)) (len+n) (len+n) sz,(h.put A (.row cs .dead)).push (.row (old++new) (.bytes e)))
   | none=>none) else fO h base len cap sz n new
  | _=>fO h base len cap sz n new
def dV:TypeDesc->Bool
 | .string=>true
 | _=>false
def gAv (E:Env) (st:TypeId) (s x:AV) (h:Heap):Option (AV×Heap):=
 match E.und st,s,x with
 | some (.slice e),.slice none _ _ _,.int .i64 (.ofNat (n+1))=>match E.info e,E.zero e with
  | some i,some z=>
   bif Nat.ble ((n+1) * (i.bytes+i.size+1)) oA1&&Nat.beq z.cells.length i.size&&Nat.ble 1 i.size then
    some (.slice (some (h.next,0)) (n+1) (n+1) i.size,h.push (.row (nAj (n+1) z.cells) .grown))
   else none
  | _,_=>none
 | _,_,_=>none
def dD (E:Env) (st xt:TypeId) (s x:AV) (h:Heap):Option (AV×Heap):=
 match E.und xt with
 | none=>none
 | some d=>bif yO d then none else
 match E.und st,s with
 | some (.slice e),.slice base len cap sz=>match E.info e,E.zero e with
  | some i,some z=>match jL x with
   | some n=>match wC h i.size n x with
    | some new=>
     bif Nat.beq n 0 then some (s,h) else
     bif Nat.ble ((len+n) * (i.bytes+i.size+1)) oA1&&Nat.beq z.cells.length i.size&&(Nat.beq sz i.size||base.isNone)&&Nat.beq new.length (n * i.size)&&new.all AV.single then (bif dV d then growB e h base len cap i.size n new else fO h base len cap i.size n new)
     else none
    | none=>none
   | none=>none
  | _,_=>none
 | _,_=>none
def gBd (E:Env) (dt:TypeId) (d s:AV) (h:Heap):Option (AV×Heap):=
 match E.und dt,d with
 | some (.slice e),.slice base dl _ sz=>match E.size e,jL s with
  | some n,some sl=>bif Nat.beq (Nat.min sl dl) 0 then some (.int .i64 0,h) else
   match wC h n (Nat.min sl dl) s with
   | some new=>match base with
    | none=>none
    | some (A,off)=>match h.rowW A with
     | some (cs,st)=>match over off cs new with
      | some cs'=>bif Nat.beq sz n&&new.all AV.single then some (.int .i64 (Nat.min sl dl),h.put A (.row cs' st)) else none
      | none=>none
     | none=>none
   | none=>none
  | _,_=>none
 | _,_=>none
mutual
def eqV:AV->AV->Bool
 | .bool a,.bool b=>bif a then b else !b
 | .int k a,.int k' b=>nJ k k'&&eA a b
 | .str a,.str b=>fB a b
 | .ptr none,.ptr none=>true
 | .ptr (some (A,i)),.ptr (some (B,j))=>Nat.beq A B&&Nat.beq i j
 | .slice none l c s,.slice none l' c' s'=>Nat.beq l l'&&Nat.beq c c'&&Nat.beq s s'
 | .slice (some (A,i)) l c s,.slice (some (B,j)) l' c' s'=>Nat.beq A B&&Nat.beq i j&&Nat.beq l l'&&Nat.beq c c'&&Nat.beq s s'
 | .map none,.map none=>true
 | .map (some A),.map (some B)=>Nat.beq A B
 | .func f a b,.func f' a' b'=>decide (f=f')&&kAe a a'&&kAe b b'
 | .nilFunc,.nilFunc=>true
 | .iface t v,.iface t' v'=>Nat.beq t t'&&eqV v v'
 | .nilIface,.nilIface=>true
 | .agg a,.agg b=>kAe a b
 | .tuple a,.tuple b=>kAe a b
 | _,_=>false
def kAe:List AV->List AV->Bool
 | [],[]=>true
 | a::x,b::y=>eqV a b&&kAe x y
 | _,_=>false
end
def fB8 (E:Env) (kt:TypeId) (k:AV):List (AV×AV×Nat)->Nat->Option (Option (Nat×AV))
 | [],_=>some none
 | (k',v,_)::r,i=>match eqA E 9 kt k k' with
  | some true=>bif eqV k k' then some (some (i,v)) else none
  | some false=>fB8 E kt k r (i+1)
  | none=>none
def op3 (fr:Fr) (x y z:Operand) (f:AV->AV->AV->Option (AV×Heap)):Option (AV×Heap):=
 match eG fr x with
 | some v=>match eG fr y with
  | some u=>match eG fr z with
   | some q=>f v u q
   | none=>none
  | none=>none
 | none=>none
def gB8:AV->AV->Option AV
 | .int k x,.int _ y=>some (.int k (bif ltInt y x then y else x))
 | _,_=>none
def iB8:AV->AV->Option AV
 | .int k x,.int _ y=>some (.int k (bif ltInt x y then y else x))
 | _,_=>none
def nAh (f:AV->AV->Option AV):AV->List AV->Option AV
 | x,[]=>some x
 | x,y::r=>match f x y with
  | some z=>nAh f z r
  | none=>none
def lB0 (E:Env) (t:TypeId) (x:AV):Option AV:=
 match E.und t,x with
 | some .string,.str s=>some (.int .i64 s.length)
 | some (.array n _),_=>some (.int .i64 n)
 | some (.slice _),.slice _ n _ _=>some (.int .i64 n)
 | _,_=>none
def rBe (E:Env) (t:TypeId) (x:AV) (h:Heap):Option AV:=
 match E.und t,x with
 | some (.slice _),.slice none _ c _=>some (.int .i64 c)
 | some (.slice _),.slice (some (A,_)) _ c _=>match h.t.get A with
  | some (.row _ .own)=>some (.int .i64 c)
  | _=>none
 | _,_=>none
def tC (h:Heap) (v:Option AV):Option (AV×Heap):=match v with
 | some v=>some (v,h)
 | none=>none
def qJ (E:Env) (pt:TypeId) (A:Nat) (n:Int) (h:Heap):Option (AV×Heap):=
 match E.und pt,h.t.get A,n with
 | some (.pointer e),some (.row cs (.bytes t)),.ofNat (k+1)=>bif Nat.beq t e then
   (match E.size e,takeN (k+1) cs with
    | some 1,some l=>match bJ l with
     | some s=>bif Nat.ble (k+1) 1073741824&&kAe l (ofBytes s) then some (.str s,h.put A (.row cs .ro)) else none
     | none=>none
    | _,_=>none)
   else none
 | _,_,_=>none
def qD (E:Env) (b:Builtin) (ts:List TypeId) (args:List AV) (h:Heap):Option (AV×Heap):=
 match b,ts,args with
 | .append,[st,xt],[s,x]=>dD E st xt s x h
 | .len,[t],[x]=>tC h (lB0 E t x)
 | .min,_,x::r=>tC h (nAh gB8 x r)
 | .max,_,x::r=>tC h (nAh iB8 x r)
 | .unsafeSliceData,[_],[.slice (some (A,off)) _ (_+1) _]=>some (.ptr (some (A,off)),h)
 | .unsafeSliceData,[_],[.slice none _ _ _]=>some (.ptr none,h)
 | .unsafeString,[pt,_],[.ptr (some (A,0)),.int .i64 n]=>qJ E pt A n h
 | .unsafeString,[_,_],[.ptr none,.int .i64 (.ofNat 0)]=>some (.str [],h)
 | _,_,_=>none
inductive Tgt where
 | fn (f:FuncId) (args:List AV)
 | val (v:AV) (h:Heap)
def yQ (E:Env) (h:Heap) (t:TypeId) (v:AV) (name:String) (args:List AV):Option Tgt:=
 match E.info t with
 | some i=>match i.methods.find? (·.name == name) with
  | some m=>match m.path.toList,m.func with
   | [],some (f,ptr)=>match E.und t,ptr with
    | some (.pointer _),true=>some (.fn f (v::args))
    | some (.pointer e),false=>match nN E h e v with
     | some x=>some (.fn f (x::args))
     | none=>none
    | some _,false=>some (.fn f (v::args))
    | _,_=>none
   | _,_=>none
  | none=>none
 | none=>none
def kAj (E:Env) (fr:Fr) (c:Call) (h:Heap):Option Tgt:=
 match jG fr c.args.toList with
 | none=>none
 | some args=>
 match c.callee with
 | .builtin b=>match qD E b c.argTypes.toList args h with
  | some (v,h')=>some (.val v h')
  | none=>none
 | .invoke recv name=>match eG fr recv with
  | some (.iface t v)=>yQ E h t v name args
  | _=>none
 | .value f=>match eG fr f with
  | some (.func (.func g) first captured)=>some (.fn g (first++args++captured))
  | some (.func (.method name) first _)=>match first++args with
   | .iface t v::r=>yQ E h t v name r
   | _=>none
  | _=>none
def jF (fr:Fr):List (Nat×Operand)->Option (List (Nat×AV))
 | []=>some []
 | (i,x)::r=>match eG fr x with
  | some v=>match jF fr r with
   | some l=>some ((i,v)::l)
   | none=>none
  | none=>none
def dA6 (fr:Fr):Option Operand->Option (Option AV)
 | none=>some none
 | some x=>match eG fr x with
  | some v=>some (some v)
  | none=>none
def op1 (fr:Fr) (x:Operand) (f:AV->Option (AV×Heap)):Option (AV×Heap):=
 match eG fr x with
 | some v=>f v
 | none=>none
def op2 (fr:Fr) (x y:Operand) (f:AV->AV->Option (AV×Heap)):Option (AV×Heap):=
 match eG fr x with
 | some v=>match eG fr y with
  | some u=>f v u
  | none=>none
 | none=>none
def unit (h:Option Heap):Option (AV×Heap):=match h with
 | some h=>some (undefA,h)
 | none=>none
def opA (E:Env) (fr:Fr) (o:Op) (h:Heap):Option (AV×Heap):=
 match o with
 | .move x=>tC h (eG fr x)
 | .assign x=>tC h (eG fr x)
 | .pick c a b=>op1 fr c fun
  | .bool true=>tC h (eG fr a)
  | .bool false=>tC h (eG fr b)
  | _=>none
 | .alloc e=>match E.zero e with
  | some z=>some (.ptr (some (h.next,0)),h.push (.row z.cells (bif E.trk e then .ty e else .own)))
  | none=>none
 | .box e x=>op1 fr x fun v=>some (.ptr (some (h.next,0)),h.push (.row v.cells (bif E.trk e then .ty e else .own)))
 | .build t ps=>match jF fr ps.toList with
  | some l=>tC h (mAj E t l)
  | none=>none
 | .buildSlice t len ps=>match jF fr ps.toList with
  | some l=>kG E h t len l
  | none=>none
 | .load t a=>op1 fr a fun v=>tC h (nN E h t v)
 | .store t a x=>op2 fr a x fun v u=>unit (lZ E h t v u)
 | .nilCheck x=>op1 fr x fun v=>tC h (pJ v)
 | .binOp op t x y _=>op2 fr x y fun v u=>tC h (oA9 E op t x y v u)
 | .unOp op _ x=>op1 fr x fun v=>tC h (unA op v)
 | .convert s d x=>op1 fr x fun v=>nA1 E s d v h
 | .makeInterface t x=>match E.und t with
  | some (.interface _)=>none
  | some _=>op1 fr x fun v=>some (.iface t v,h)
  | none=>none
 | .makeFunc fn first captured=>match jG fr first.toList,jG fr captured.toList with
  | some l,some m=>some (.func fn l m,h)
  | _,_=>none
 | .slice t x lo hi none=>match dA6 fr lo,dA6 fr hi with
  | some lo,some hi=>op1 fr x fun v=>tC h (nE E h t v lo hi)
  | _,_=>none
 | .fieldAddr s x f=>op1 fr x fun v=>tC h (qM E s v f)
 | .field t x f=>op1 fr x fun v=>tC h (jAe E t v f)
 | .indexAddr t x ix=>op2 fr x ix fun v u=>tC h (oJ E t v u)
 | .index t x ix=>op2 fr x ix fun v u=>tC h (bA6 E t v u)
 | .typeAssert x _ t ok=>op1 fr x fun v=>tC h (cJ E v t ok)
 | .extract t i=>op1 fr t fun
  | .tuple vs=>tC h vs[i]?
  | _=>none
 | _=>none
def aP (nt:Nat) (fr:Fr) (d:Option Tmp) (v:AV):Fr:=match d with
 | some t=>bif Nat.blt t nt then fr.set t v else .nil
 | none=>fr
def iE (ops:List Oper) (fr:Fr) (j:Nat):Option Bool:=
 match ops[j]? with
 | some o=>match o.dst with
  | some d=>match fr.get d with
   | some (.bool b)=>some b
   | _=>none
  | none=>none
 | none=>none
def qN (ops:List Oper) (fr:Fr) (j:Nat):Bool:=
 match ops[j]? with
 | some o=>match o.dst with
  | some d=>match fr.get d with
   | some (.tuple [])=>true
   | _=>false
  | none=>false
 | none=>false
def mD (ops:List Oper) (fr:Fr) (o:Oper):Option Bool:=
 match o.guard with
 | none=>some true
 | some (j,want)=>match iE ops fr j with
  | some b=>some (bif b then want else !want)
  | none=>bif qN ops fr j then some false else none
abbrev CallF:=FuncId->List AV->Heap->Option (AV×Heap)
def eH (E:Env) (call:CallF) (fr:Fr) (o:Op) (h:Heap):Option (AV×Heap):=
 match o with
 | .call c=>match kAj E fr c h with
  | some (.fn f args)=>call f args h
  | some (.val v h')=>some (v,h')
  | none=>none
 | o=>opA E fr o h
def eD (E:Env) (call:CallF) (ops:List Oper) (fr:Fr) (o:Oper) (h:Heap):Option (AV×Heap):=
 match mD ops fr o with
 | some true=>eH E call fr o.op h
 | some false=>some (undefA,h)
 | none=>none
def rA9 (E:Env) (call:CallF) (nt:Nat) (ops:List Oper):List Oper->Fr->Heap->Option (Fr×Heap)
 | [],fr,h=>some (fr,h)
 | o::r,fr,h=>match eD E call ops fr o h with
  | some (v,h')=>rA9 E call nt ops r (aP nt fr o.dst v) h'
  | none=>none
def yB:Op->Nat
 | .move _ | .assign _ | .pick .. | .build .. | .nilCheck _ | .binOp .. | .unOp .. | .makeInterface .. | .makeFunc .. | .fieldAddr .. | .field .. | .indexAddr .. | .index ..
 | .typeAssert .. | .extract ..=>0
 | .load .. | .slice ..=>1
 | .call c=>match c.callee with
  | .builtin .len | .builtin .cap=>1
  | .builtin .min | .builtin .max=>0
  | _=>2
 | _=>2
def pL (n:Nat):List Nat->Bool
 | []=>false
 | x::r=>bif Nat.beq x n then true else pL n r
def eAt:Operand->List Nat
 | .tmp t=>[t]
 | _=>[]
def eV (ops:List Oper) (o:Oper):List Nat:=
 match o.guard with
 | some (g,_)=>match ops[g]? with
  | some x=>match x.dst with
   | some d=>[d]
   | none=>[]
  | none=>[]
 | none=>[]
def qAp (l:List Operand):List Nat:=match l with
 | []=>[]
 | x::r=>eAt x++qAp r
def kD (ops:List Oper) (o:Oper):List Nat:=qAp o.op.operands.toList++eV ops o
def yC:List Edge->List Nat
 | []=>[]
 | e::r=>bif Region.binds .any e then e.on::yC r else yC r
def kB7 (x:Nat) (l:List Nat):List Nat:=bif pL x l then l else x::l
def lAe:List Nat->List Nat->List Nat
 | [],l=>l
 | x::r,l=>kB7 x (lAe r l)
def dC:List Oper->List (List Nat)->List (List Nat)
 | [],acc=>acc
 | o::r,acc=>dC r (acc++[unionL acc (yC o.after.toList)])
where
 unionL (acc:List (List Nat)):List Nat->List Nat
  | []=>[]
  | e::r=>kB7 e (lAe ((acc[e]?).getD []) (unionL acc r))
def mT (d:Option Nat) (l:List Nat):Bool:=match d with
 | some t=>pL t l
 | none=>false
def aR:Option Nat->Option Nat->Bool
 | some a,some b=>Nat.beq a b
 | _,_=>false
def pA1 (ops:List Oper) (x y:Oper):Bool:=
 !(Nat.beq (yB x.op) 2&&Nat.beq (yB y.op) 2)&&!mT x.dst (kD ops y)&&!mT y.dst (kD ops x)&&!aR x.dst y.dst
def tM (ops:List Oper) (o:Oper) (ps:List Nat):Nat->List Oper->Bool
 | _,[]=>true
 | j,x::r=>(pL j ps||pA1 ops x o)&&tM ops o ps (j+1) r
def bR (ops:List Oper) (preds:List (List Nat)):Nat->List Oper->Bool
 | _,[]=>true
 | i,o::r=>tM ops o ((preds[i]?).getD []) 0 (ops.take i)&&(yC o.after.toList).all (fun e=>Nat.blt e i)&&bR ops preds (i+1) r
def fV (ops:List Oper):Bool:=bR ops (dC ops []) 0 ops
def lD (E:Env) (call:CallF) (nt:Nat) (ops:List Oper):List Oper->Fr->Heap->Option (List (Fr×Heap×AV)×Fr×Heap)
 | [],fr,h=>some ([],fr,h)
 | o::r,fr,h=>match eD E call ops fr o h with
  | some (v,h')=>match lD E call nt ops r (aP nt fr o.dst v) h' with
   | some (l,p)=>some ((fr,h,v)::l,p)
   | none=>none
  | none=>none
def qA1:List Oper->List (Fr×Heap×AV)->Heap->List Heap
 | o::r,(_,h,_)::q,e=>bif Nat.beq (yB o.op) 2 then h::qA1 r q e else qA1 r q e
 | _,_,e=>[e]
def tA9 (E:Env) (call:CallF) (ops:List Oper) (hs:List Heap):List Oper->List (Fr×Heap×AV)->Bool
 | o::r,(fr,_,v)::q=>(bif Nat.beq (yB o.op) 1 then hs.all (fun H=>match eD E call ops fr o H with
   | some (u,_)=>eqV u v
   | none=>false) else true)&&tA9 E call ops hs r q
 | _,_=>true
def iBd (E:Env) (call:CallF) (nt:Nat) (ops:List Oper) (fr:Fr) (h:Heap):Option (Fr×Heap):=
 match lD E call nt ops ops fr h with
 | some (l,fr',h')=>bif fV ops&&tA9 E call ops (qA1 ops l h') ops l then some (fr',h') else none
 | none=>none
def iAv (ops:List Oper) (j:Nat):Bool:=
 match ops[j]? with
 | some o=>Nat.beq (yB o.op) 2
 | none=>false
def qAj (ops:List Oper) (k:Nat):List Nat->Bool
 | []=>true
 | j::r=>bif iAv ops j&&!Nat.blt j k then false else qAj ops k r
def rAp (ops:List Oper) (i k:Nat):Nat->List (List Nat)->Bool
 | _,[]=>true
 | j,ps::r=>bif iAv ops j&&(pL i ps&&!Nat.ble k j) then false else rAp ops i k (j+1) r
def mB0 (ops:List Oper) (preds:List (List Nat)) (i k:Nat):Bool:=qAj ops k ((preds[i]?).getD [])&&rAp ops i k 0 preds
def uA9:Nat->List Oper->List (Fr×Heap×AV)->Heap->List (Nat×Heap)
 | i,o::r,(_,h,_)::q,e=>bif Nat.beq (yB o.op) 2 then (i,h)::uA9 (i+1) r q e else uA9 (i+1) r q e
 | i,_,_,e=>[(i,e)]
def rAj (E:Env) (call:CallF) (ops:List Oper) (wn:Nat->Nat->Bool) (hs:List (Nat×Heap)):Nat->List Oper->List (Fr×Heap×AV)->Bool
 | i,o::r,(fr,_,v)::q=>(bif Nat.beq (yB o.op) 1 then hs.all (fun p=>bif wn i p.1 then (match eD E call ops fr o p.2 with
   | some (u,_)=>eqV u v
   | none=>false) else true) else true)&&rAj E call ops wn hs (i+1) r q
 | _,_,_=>true
def jB8 (E:Env) (call:CallF) (nt:Nat) (ops:List Oper) (fr:Fr) (h:Heap):Option (Fr×Heap):=
 match lD E call nt ops ops fr h with
 | some (l,fr',h')=>bif fV ops&&rAj E call ops (mB0 ops (dC ops [])) (uA9 0 ops l h') 0 ops l then some (fr',h') else none
 | none=>none
def rL:Op->Bool
 | .box .. | .alloc ..=>true
 | _=>false
def tAj (ops:List Oper) (x y:Oper):Bool:=!mT x.dst (kD ops y)&&!mT y.dst (kD ops x)&&!aR x.dst y.dst
def rN:Op->Bool
 | .buildSlice ..=>true
 | o=>rL o
def dJ (o:Op):Bool:=Nat.beq (yB o) 2&&!rN o
def gV (ops:List Oper) (x y:Oper):Bool:=tAj ops x y&&!(dJ x.op&&Nat.beq (yB y.op) 2)
def pI (ops:List Oper) (o:Oper) (ps:List Nat):Nat->List Oper->Bool
 | _,[]=>true
 | j,x::r=>(pL j ps||gV ops x o)&&pI ops o ps (j+1) r
def qI (ops:List Oper) (preds:List (List Nat)):Nat->List Oper->Bool
 | _,[]=>true
 | i,o::r=>pI ops o ((preds[i]?).getD []) 0 (ops.take i)&&(yC o.after.toList).all (fun e=>Nat.blt e i)&&qI ops preds (i+1) r
def uAj (ops:List Oper):Bool:=qI ops (dC ops []) 0 ops
def aS (n:Nat) (recs:List (Fr×Heap×AV)) (h':Heap) (k:Nat):Heap:=bif Nat.blt k n then (match recs[k]? with | some r=>r.2.1 | none=>h') else h'
def eZ:List Nat->Nat->Nat
 | [],_=>0
 | x::r,i=>bif Nat.beq x i then 0 else eZ r i+1
def nB0 (π:List Nat) (e:Edge):Edge:={ e with on:=eZ π e.on }
def kB8 (π:List Nat):Option (Nat×Bool)->Option (Nat×Bool)
 | none=>none
 | some g=>some (eZ π g.1,g.2)
def bB0 (π:List Nat) (o:Oper):Oper:={ o with after:=o.after.map (nB0 π),guard:=kB8 π o.guard }
def lG (π:List Nat) (ops:List Oper):List Oper:=π.map fun i=>bB0 π ((ops[i]?).getD default)
def vAj (n:Nat):Option (Nat×Bool)->Bool
 | none=>true
 | some g=>Nat.blt g.1 n
def wAj (π:List Nat) (ops:List Oper):Bool:=
 Nat.beq π.length ops.length&&(List.range ops.length).all (fun i=>Nat.blt (eZ π i) ops.length&&Nat.beq ((π[eZ π i]?).getD ops.length) i&&Nat.beq (eZ π ((π[i]?).getD ops.length)) i&&Nat.blt ((π[i]?).getD ops.length) ops.length) &&
 ops.all fun o=>o.after.toList.all (fun e=>Nat.blt e.on ops.length)&&vAj ops.length o.guard
def oB0:BState->BState->Bool
 | .ro,.ro=>true
 | .own,.own=>true
 | .grown,.grown=>true
 | .bytes a,.bytes b=>Nat.beq a b
 | .ty a,.ty b=>Nat.beq a b
 | .dead,.dead=>true
 | _,_=>false
def gO:Option Blk->Option Blk->Bool
 | some (.row cs st),some (.row cs' st')=>eqV (.agg cs) (.agg cs')&&oB0 st st'
 | none,none=>true
 | _,_=>false
def eA6 (ops:List Oper) (k:Nat):Bool:=match ops[k]? with
 | some o=>dJ o.op
 | none=>false
def pB0 (ops:List Oper) (recs:List (Fr×Heap×AV)) (h':Heap):Bool:=
 (List.range ops.length).all fun m=>!eA6 ops m||(List.range m).all fun x=>eA6 ops x||Nat.beq (aS ops.length recs h' (x+1)).next (aS ops.length recs h' x).next ||
  gO ((aS ops.length recs h' (m+1)).t.get (aS ops.length recs h' x).next) ((aS ops.length recs h' m).t.get (aS ops.length recs h' x).next)
def yAj (o:Oper):Bool:=match o.op with
 | .alloc _=>o.guard.isNone&&Nat.beq o.after.toList.length 0
 | _=>false
def fAt (ops:List Oper) (k:Nat):Bool:=match ops[k]? with
 | some o=>yAj o
 | none=>false
def bS (ops:List Oper):List Nat:=(List.range ops.length).filter (fAt ops)++(List.range ops.length).filter (fun k=>!fAt ops k)
def lB8 (E:Env) (call:CallF) (nt:Nat) (ops:List Oper) (fr:Fr) (h:Heap):Option (Fr×Heap):=
 match lD E call nt (lG (bS ops) ops) (lG (bS ops) ops) fr h with
 | some (l,fr',h')=>bif wAj (bS ops) ops&&uAj (lG (bS ops) ops)&&tA9 E call (lG (bS ops) ops) (qA1 (lG (bS ops) ops) l h') (lG (bS ops) ops) l&&pB0 (lG (bS ops) ops) l h' then some (fr',h') else none
 | none=>none
def mB8 (E:Env) (call:CallF) (nt:Nat) (ops:List Oper) (fr:Fr) (h:Heap):Option (Fr×Heap):=
 bif fV ops then jB8 E call nt ops fr h else lB8 E call nt ops fr h
inductive Out where
 | norm
 | exit (id:Nat)
 | ret
abbrev Ev:=Code->Fr->Heap->Option (Out×Fr×Heap)
def evC (E:Env) (call:CallF) (nt:Nat) (loop:Ev):Ev
 | .skip,fr,h=>some (.norm,fr,h)
 | .region _ ops draw,fr,h=>match (bif draw then mB8 E call nt ops.toList fr h else rA9 E call nt ops.toList ops.toList fr h) with
  | some (fr',h')=>some (.norm,fr',h')
  | none=>none
 | .seq a b,fr,h=>match evC E call nt loop a fr h with
  | some (.norm,fr',h')=>evC E call nt loop b fr' h'
  | r=>r
 | .cond c x y,fr,h=>match eG fr c with
  | some (.bool b)=>bif b then evC E call nt loop x fr h else evC E call nt loop y fr h
  | _=>none
 | .block id c,fr,h=>match evC E call nt loop c fr h with
  | some (.exit id',fr',h')=>bif Nat.beq id' id then some (.norm,fr',h') else some (.exit id',fr',h')
  | r=>r
 | .loop c,fr,h=>match evC E call nt loop c fr h with
  | some (.norm,fr',h')=>loop (.loop c) fr' h'
  | r=>r
 | .exit id,fr,h=>some (.exit id,fr,h)
 | .ret,fr,h=>some (.ret,fr,h)
 | .scope c,fr,h=>evC E call nt loop c fr h
 | .label _,fr,h=>some (.norm,fr,h)
 | _,_,_=>none
def fA6:Nat->List AV->Fr->Fr
 | _,[],fr=>fr
 | i,v::r,fr=>fA6 (i+1) r (fr.set i v)
def rE (E:Env) (fr:Fr) (h:Heap):List ResultVar->Option (List AV)
 | []=>some []
 | .tmp t::r=>match fr.get t,rE E fr h r with
  | some v,some l=>some (v::l)
  | _,_=>none
 | .cell a t::r=>match fr.get a with
  | some x=>match nN E h t x,rE E fr h r with
   | some v,some l=>some (v::l)
   | _,_=>none
  | none=>none
def jAv (E:Env) (fn:Func) (r:Option (Out×Fr×Heap)):Option (AV×Heap):=
 match r with
 | some (.exit _,_,_)=>none
 | some (_,fr,h)=>match rE E fr h fn.results.toList with
  | some [v]=>some (v,h)
  | some vs=>some (.tuple vs,h)
  | none=>none
 | none=>none
def nB8 (E:Env) (ev:Nat->Ev) (f:FuncId) (args:List AV) (h:Heap):Option (AV×Heap):=
 match E.native f with
 | some g=>g args h
 | none=>match E.fn f with
  | some fn=>match fn.body with
   | some c=>bif Nat.ble args.length fn.ntmps then jAv E fn (ev fn.ntmps c (fA6 0 args .nil) h) else none
   | none=>none
  | none=>none
def ev (E:Env):Nat->Nat->Ev
 | 0=>fun _ _ _ _=>none
 | n+1=>fun nt=>evC E (nB8 E (ev E n)) nt (ev E n nt)
def kAv {α:Type} (l:List α):Tr α:=(l.foldl (fun (p:Tr α×Nat) x=>(p.1.set p.2 x,p.2+1)) (Tr.nil,0)).1
end Ai
namespace Ai
open Go.RowKit (Below)
theorem bt {a b:Nat} (h:a=b):Nat.beq a b=true:=by simp_all
theorem bf {a b:Nat} (h:a≠b):Nat.beq a b=false:=by
 grind [Nat.beq,absurd,Nat.eq_of_beq_eq_true]
namespace Tr
variable {α:Type}
theorem tAp:∀ (f:Nat) (t:Tr α) (n m:Nat) (x y:α),get (lAh f t n x) m=some y->(m=n/\y=x)\/(m≠n/\get t m=some y):=by
 intro f
 induction f with
 | zero=>grind [lAh,get]
 | succ f ih=>
  intro t n m x y h;have par:∀ a b:Nat,a≠0->b≠0->a % 2=b % 2->(a % 2=1->a / 2=b / 2->a=b)/\(a % 2≠1->a / 2-1=b / 2-1->a=b):=by
   grind
  have hgn:∀ k,get (nil:Tr α) k=none:=fun k=>by simp [get]
  cases t with
  | nil=>
   simp only [lAh] at h
   by_cases hn:n=0
   ·subst hn
    simp only [cond_true,get,show Nat.beq 0 0=true from rfl] at h
    by_cases hm:m=0
    ·grind
    ·have:Nat.beq m 0=false:=bf hm
     grind
   ·have hnb:Nat.beq n 0=false:=bf hn
    simp only [hnb,cond_false] at h
    by_cases hp:n % 2=1
    ·have hpb:Nat.beq (n % 2) 1=true:=bt hp
     simp only [hpb,cond_true,get] at h
     by_cases hm:m=0
     ·subst hm;simp at h
     ·have hmb:Nat.beq m 0=false:=bf hm
      simp only [hmb,cond_false] at h
      by_cases hq:m % 2=1
      ·grind
      grind [Nat.beq,bf]
    ·have hpb:Nat.beq (n % 2) 1=false:=bf hp
     simp only [hpb,cond_false,get] at h
     by_cases hm:m=0
     ·subst hm;simp at h
     ·have hmb:Nat.beq m 0=false:=bf hm
      simp only [hmb,cond_false] at h
      by_cases hq:m % 2=1
      ·simp [hq] at h
      grind
  | node l v r=>
   simp only [lAh] at h
   by_cases hn:n=0
   ·subst hn
    simp only [show Nat.beq 0 0=true from rfl,cond_true,get] at h
    by_cases hm:m=0
    ·simp_all
    ·have hmb:Nat.beq m 0=false:=bf hm
     simp only [hmb,cond_false] at h;refine .inr ⟨hm,?_⟩;simp only [get,hmb,cond_false];exact h
   ·have hnb:Nat.beq n 0=false:=bf hn
    simp only [hnb,cond_false] at h
    by_cases hp:n % 2=1
    ·have hpb:Nat.beq (n % 2) 1=true:=bt hp
     simp only [hpb,cond_true,get] at h
     by_cases hm:m=0
     ·subst hm;simp at h;exact .inr ⟨by omega,by simp [get,h]⟩
     ·have hmb:Nat.beq m 0=false:=bf hm
      simp only [hmb,cond_false] at h
      by_cases hq:m % 2=1
      ·simp only [hq,show Nat.beq 1 1=true from rfl,cond_true] at h
       grind [get]
      ·have hqb:Nat.beq (m % 2) 1=false:=bf hq
       simp only [hqb,cond_false] at h;exact .inr ⟨by grind,by simp only [get,hmb,hqb,cond_false];exact h⟩
    ·have hpb:Nat.beq (n % 2) 1=false:=bf hp
     simp only [hpb,cond_false,get] at h
     by_cases hm:m=0
     ·subst hm;simp at h;exact .inr ⟨by omega,by simp [get,h]⟩
     ·have hmb:Nat.beq m 0=false:=bf hm
      simp only [hmb,cond_false] at h
      by_cases hq:m % 2=1
      ·simp only [hq,show Nat.beq 1 1=true from rfl,cond_true] at h
       exact .inr ⟨by grind,by simp only [get,hmb,hq,show Nat.beq 1 1=true from rfl,cond_true,cond_false];exact h⟩
      ·have hqb:Nat.beq (m % 2) 1=false:=bf hq
       simp only [hqb,cond_false] at h
       grind [get]
theorem get_set {t:Tr α} {n m:Nat} {x y:α} (h:(t.set n x).get m=some y):(m=n/\y=x)\/(m≠n/\t.get m=some y):=tAp (n+1) t n m x y h
theorem get_nil (m:Nat):(nil:Tr α).get m=none:=by simp [get]
end Tr
abbrev Mu:=Nat->Option Loc
mutual
def VR (μ:Mu):AV->Value->Prop
 | .bool b,v=>v=.bool b
 | .int k n,v=>v=.int k n
 | .str s,v=>v=.string ⟨s.toArray⟩
 | .ptr none,v=>v=.pointer none
 | .ptr (some (A,off)),v=>∃ l,μ A=some l/\v=.pointer (some ⟨l.b,l.sh+off,none⟩)
 | .slice none len cap _,v=>v=.slice none 0 0/\len=0/\cap=0
 | .slice (some (A,off)) len cap sz,v=>∃ l a' cap',μ A=some l/\v=.slice (some a') len cap'/\len<=cap/\
   ((cap=0/\cap'=0)\/(a'=⟨l.b,l.sh+off,none⟩/\cap<=cap'/\l.sh+off+cap' * sz<=l.tot/\(l.ex=true->cap'=cap)))
 | .map none,v=>v=.map none
 | .map (some A),v=>∃ l,μ A=some l/\v=.map (some l.b)
 | .func fn f c,v=>∃ f' c',v=.func fn f' c'/\VRs μ f f'.toList/\VRs μ c c'.toList
 | .nilFunc,v=>v=.nilFunc
 | .iface t x,v=>∃ x',v=.iface t x'/\VR μ x x'
 | .nilIface,v=>v=.nilIface
 | .agg cs,v=>∃ cs',v=.agg cs'/\VRs μ cs cs'.toList
 | .tuple cs,v=>∃ cs',v=.tuple cs'/\VRs μ cs cs'.toList
def VRs (μ:Mu):List AV->List Value->Prop
 | [],l=>l=[]
 | x::xs,l=>∃ y ys,l=y::ys/\VR μ x y/\VRs μ xs ys
end
def Mu.le (μ μ':Mu):Prop:=∀ A l,μ A=some l->μ' A=some l
mutual
theorem VR.mono {μ μ':Mu} (h:μ.le μ'):∀ (x:AV) (v:Value),VR μ x v->VR μ' x v
 | .bool b,v=>by simp only [VR];exact id
 | .int k n,v=>by simp only [VR];exact id
 | .str s,v=>by simp only [VR];exact id
 | .ptr none,v=>by simp only [VR];exact id
 | .ptr (some (A,off)),v=>by simp only [VR];rintro ⟨l,h1,h2⟩;exact ⟨l,h _ _ h1,h2⟩
 | .slice none len cap _,v=>by simp only [VR];exact id
 | .slice (some (A,off)) len cap sz,v=>by simp only [VR];rintro ⟨l,a',c',h1,h2⟩;exact ⟨l,a',c',h _ _ h1,h2⟩
 | .map none,v=>by simp only [VR];exact id
 | .map (some A),v=>by simp only [VR];rintro ⟨l,h1,h2⟩;exact ⟨l,h _ _ h1,h2⟩
 | .func fn f c,v=>by simp only [VR];rintro ⟨f',c',h1,h2,h3⟩;exact ⟨f',c',h1,VRs.mono h f _ h2,VRs.mono h c _ h3⟩
 | .nilFunc,v=>by simp only [VR];exact id
 | .iface t x,v=>by simp only [VR];rintro ⟨x',h1,h2⟩;exact ⟨x',h1,VR.mono h x _ h2⟩
 | .nilIface,v=>by simp only [VR];exact id
 | .agg cs,v=>by simp only [VR];rintro ⟨x',h1,h2⟩;exact ⟨x',h1,VRs.mono h cs _ h2⟩
 | .tuple cs,v=>by simp only [VR];rintro ⟨x',h1,h2⟩;exact ⟨x',h1,VRs.mono h cs _ h2⟩
theorem VRs.mono {μ μ':Mu} (h:μ.le μ'):∀ (x:List AV) (v:List Value),VRs μ x v->VRs μ' x v
 | [],v=>by simp only [VRs];exact id
 | x::xs,v=>by simp only [VRs];rintro ⟨y,ys,h1,h2,h3⟩;exact ⟨y,ys,h1,VR.mono h x _ h2,VRs.mono h xs _ h3⟩
end
section
variable {μ:Mu}
theorem VRs.length:∀ {xs:List AV} {ys:List Value},VRs μ xs ys->ys.length=xs.length
 | [],ys,h=>by simp only [VRs] at h;simp [h]
 | x::xs,ys,h=>by
  simp only [VRs] at h;obtain ⟨y,zs,rfl,_,h⟩:=h;simp [VRs.length h]
theorem VRs.get:∀ {xs:List AV} {ys:List Value},VRs μ xs ys->∀ {i:Nat} {x:AV},xs[i]? = some x->∃ y,ys[i]? = some y/\VR μ x y
 | [],ys,h,i,x,hx=>by simp at hx
 | x::xs,ys,h,i,z,hx=>by
  simp only [VRs] at h;obtain ⟨y,zs,rfl,h1,h2⟩:=h
  cases i with
  | zero=>simp at hx;subst hx;exact ⟨y,by simp,h1⟩
  | succ i=>simp at hx;obtain ⟨u,hu,hr⟩:=VRs.get h2 hx;exact ⟨u,by simpa using hu,hr⟩
theorem VRs.of:∀ {xs:List AV} {ys:List Value},ys.length=xs.length->(∀ (i:Nat) (x:AV),xs[i]? = some x->∃ y,ys[i]? = some y/\VR μ x y)->VRs μ xs ys
 | [],ys,h,_=>by grind [VRs,List.eq_nil_of_length_eq_zero]
 | x::xs,ys,h,hp=>by
  cases ys with
  | nil=>simp at h
  | cons y ys=>
   simp only [VRs];refine ⟨y,ys,rfl,?_,VRs.of (by simpa using h) fun i z hz=>?_⟩
   ·obtain ⟨u,hu,hr⟩:=hp 0 x (by simp);grind
   ·obtain ⟨u,hu,hr⟩:=hp (i+1) z (by simpa using hz);grind
theorem VRs.nil:VRs μ [] []:=by simp only [VRs]
theorem VRs.cons {x:AV} {y:Value} {xs:List AV} {ys:List Value} (h:VR μ x y) (h':VRs μ xs ys):VRs μ (x::xs) (y::ys):=by
 simp only [VRs];grind
theorem VRs.append:∀ {xs xs':List AV} {ys ys':List Value},VRs μ xs ys->VRs μ xs' ys'->VRs μ (xs++xs') (ys++ys')
 | [],xs',ys,ys',h,h'=>by grind [VRs]
 | x::xs,xs',ys,ys',h,h'=>by
  simp only [VRs] at h;obtain ⟨y,zs,rfl,h1,h2⟩:=h;exact VRs.cons h1 (VRs.append h2 h')
theorem VRs.drop:∀ (n:Nat) {xs:List AV} {ys:List Value},VRs μ xs ys->VRs μ (xs.drop n) (ys.drop n)
 | 0,xs,ys,h=>by simpa using h
 | n+1,[],ys,h=>by grind [VRs]
 | n+1,x::xs,ys,h=>by
  simp only [VRs] at h;obtain ⟨y,zs,rfl,_,h2⟩:=h;simpa using VRs.drop n h2
theorem VRs.take:∀ (n:Nat) {xs:List AV} {ys:List Value},VRs μ xs ys->VRs μ (xs.take n) (ys.take n)
 | 0,xs,ys,h=>by simp [VRs]
 | n+1,[],ys,h=>by grind [VRs]
 | n+1,x::xs,ys,h=>by
  simp only [VRs] at h;obtain ⟨y,zs,rfl,h1,h2⟩:=h;simpa using VRs.cons h1 (VRs.take n h2)
theorem VR.cells {x:AV} {v:Value} (h:VR μ x v):VRs μ x.cells v.cells.toList:=by
 cases x with
 | agg cs=>simp only [VR] at h;obtain ⟨cs',rfl,h⟩:=h;simpa [AV.cells,Value.cells] using h
 | ptr a=>cases a <;> simp only [VR] at h <;> (try obtain ⟨l,h1,rfl⟩:=h) <;> (try subst h) <;> simp_all [AV.cells,Value.cells,VRs,VR]
 | slice a=>
  cases a with
  | none=>have h':=h;simp only [VR] at h;obtain ⟨rfl,_⟩:=h;exact VRs.cons h' VRs.nil
  | some p=>have h':=h;obtain ⟨A,off⟩:=p;simp only [VR] at h;obtain ⟨l,a',c',_,rfl,_⟩:=h;exact VRs.cons h' VRs.nil
 | map a=>cases a <;> simp only [VR] at h <;> (try obtain ⟨l,h1,rfl⟩:=h) <;> (try subst h) <;> simp_all [AV.cells,Value.cells,VRs,VR]
 | func f a b=>have h':=h;simp only [VR] at h;obtain ⟨_,_,rfl,_⟩:=h;exact VRs.cons h' VRs.nil
 | iface t y=>have h':=h;simp only [VR] at h;obtain ⟨_,rfl,_⟩:=h;exact VRs.cons h' VRs.nil
 | tuple vs=>have h':=h;simp only [VR] at h;obtain ⟨_,rfl,_⟩:=h;exact VRs.cons h' VRs.nil
 | bool b=>have h':=h;simp only [VR] at h;subst h;exact VRs.cons h' VRs.nil
 | int k n=>have h':=h;simp only [VR] at h;subst h;exact VRs.cons h' VRs.nil
 | str s=>have h':=h;simp only [VR] at h;subst h;exact VRs.cons h' VRs.nil
 | nilFunc=>have h':=h;simp only [VR] at h;subst h;exact VRs.cons h' VRs.nil
 | nilIface=>have h':=h;simp only [VR] at h;subst h;exact VRs.cons h' VRs.nil
theorem VR.single {x:AV} {v:Value} (h:VR μ x v) (hs:x.single=true):v.oneCell'=true:=by
 cases x with
 | agg cs=>simp [AV.single] at hs
 | tuple cs=>simp [AV.single] at hs
 | ptr a=>cases a <;> simp only [VR] at h <;> (try obtain ⟨l,h1,rfl⟩:=h) <;> (try subst h) <;> rfl
 | slice a=>
  cases a with
  | none=>simp only [VR] at h;obtain ⟨rfl,_⟩:=h;rfl
  | some p=>obtain ⟨A,off⟩:=p;simp only [VR] at h;obtain ⟨l,a',c',_,rfl,_⟩:=h;rfl
 | map a=>cases a <;> simp only [VR] at h <;> (try obtain ⟨l,h1,rfl⟩:=h) <;> (try subst h) <;> rfl
 | func f a b=>simp only [VR] at h;obtain ⟨_,_,rfl,_⟩:=h;rfl
 | iface t y=>simp only [VR] at h;obtain ⟨_,rfl,_⟩:=h;rfl
 | bool b=>simp only [VR] at h;subst h;rfl
 | int k n=>simp only [VR] at h;subst h;rfl
 | str s=>simp only [VR] at h;subst h;rfl
 | nilFunc=>simp only [VR] at h;subst h;rfl
 | nilIface=>simp only [VR] at h;subst h;rfl
theorem iV {v:Value} {x:AV} (h:pAp v=some x):VR μ x v:=by
 unfold pAp at h
 split at h <;> simp only [Option.some.injEq,reduceCtorEq] at h <;> subst h <;> simp [VR]
theorem cS:∀ {l:List Value} {xs:List AV},kZ l=some xs->VRs μ xs l
 | [],xs,h=>by grind [kZ,VRs.nil]
 | v::r,xs,h=>by
  simp only [kZ] at h
  split at h <;> try simp at h
  rename_i x hx
  split at h <;> simp at h;rename_i ys hy;subst h;exact VRs.cons (iV hx) (cS hy)
theorem gA6 {v:Value} {x:AV} (h:ofV v=some x):VR μ x v:=by
 unfold ofV at h
 split at h
 ·rename_i cs
  cases hl:kZ cs.toList with
  | none=>simp [hl] at h
  | some xs=>simp [hl] at h;subst h;simp only [VR];exact ⟨cs,rfl,cS hl⟩
 ·rename_i cs
  split at h <;> simp at h;rename_i hz;subst h;simp only [VR];exact ⟨cs,rfl,by grind [VRs,Array.eq_empty_of_size_eq_zero]⟩
 ·exact iV h
structure AR (μ:Mu) (nt:Nat) (fr:Fr) (a:Act):Prop where
 slot:∀ t v,fr.get t=some v->VR μ v (a.tmps.getD t undef)
 size:a.tmps.size=nt
 defers:a.defers=[]
theorem AR.mono {μ':Mu} {nt:Nat} {fr:Fr} {a:Act} (h:AR μ nt fr a) (hm:μ.le μ'):AR μ' nt fr a:=
 ⟨fun t v ht=>VR.mono hm _ _ (h.slot t v ht),h.size,h.defers⟩
theorem tB {nt:Nat} {fr:Fr} {a:Act} (h:AR μ nt fr a) {x:Operand} {v:AV} (hx:eG fr x=some v):VR μ v (a.eval x):=by
 cases x with
 | tmp t=>exact h.slot t v hx
 | const c=>exact gA6 hx
 | global g=>simp [eG] at hx
 | func f=>simp [eG] at hx;subst hx;simp only [VR];exact ⟨#[],#[],rfl,by simp [VRs],by simp [VRs]⟩
theorem fK {nt:Nat} {fr:Fr} {a:Act} (h:AR μ nt fr a):∀ {l:List Operand} {vs:List AV},jG fr l=some vs->VRs μ vs (l.map a.eval)
 | [],vs,hx=>by grind [jG,VRs.nil]
 | x::r,vs,hx=>by
  simp only [jG] at hx
  split at hx <;> try simp at hx
  rename_i v hv
  split at hx <;> simp at hx;rename_i l hl;subst hx;exact VRs.cons (tB h hv) (fK h hl)
theorem AR.put {nt:Nat} {fr:Fr} {a:Act} (h:AR μ nt fr a) (d:Option Tmp) {v:AV} {u:Value} (hv:VR μ v u):AR μ nt (aP nt fr d v) (a.put d u):=by
 cases d with
 | none=>exact h
 | some t=>
  refine ⟨fun s x hs=>?_,by simp [Act.put,h.size],by simp [Act.put,h.defers]⟩;simp only [aP] at hs
  by_cases hlt:t<nt
  ·have hb:Nat.blt t nt=true:=by simp_all
   simp only [hb,cond_true] at hs;rcases Tr.get_set hs with ⟨rfl,rfl⟩ | ⟨hne,hs⟩
   ·have:s<a.tmps.size:=by rw [h.size];exact hlt
    simp [Act.put,this];exact hv
   ·have:=h.slot s x hs
    have hne':t≠s:=fun e=>hne e.symm;simpa [Act.put,Array.getElem?_setIfInBounds_ne hne'] using this
  grind [Nat.blt,absurd,Nat.blt_eq,Tr.get_nil]
end
end Ai
namespace Ai
open Go.RowKit (Below)
theorem kF (b o i:Nat):(⟨b,o,none⟩:Addr).add i=⟨b,o+i,none⟩:=by
 grind [Addr.add]
def tN (w:World) (b:Nat):Nat->List Value->World
 | _,[]=>w
 | o,v::vs=>tN (w.setCell ⟨b,o,none⟩ v) b (o+1) vs
theorem fZ (w:World) (a:Addr) (v:Value) (r:Nat):(w.setCell a v).shape? r=w.shape? r:=by
 grind [World.setCell,World.shape?]
theorem frozen?_setCell (w:World) (a:Addr) (v:Value) (p:Addr):(w.setCell a v).frozen? p=w.frozen? p:=by
 simp_all
theorem heap_setCell (w:World) (a:Addr) (v:Value) (k:Nat) (h:k≠a.block):(w.setCell a v).heap[k]? = w.heap[k]?:=by
 simp only [World.setCell,Array.getElem?_modify]
 grind
theorem mF (b:Nat):∀ (vs:List Value) (o:Nat) (w:World),(tN w b o vs).heap.size=w.heap.size
 | [],_,_=>rfl
 | v::vs,o,w=>by simp only [tN];rw [mF b vs];simp
theorem cI (b:Nat) {k:Nat} (h:k≠b):∀ (vs:List Value) (o:Nat) (w:World),(tN w b o vs).heap[k]? = w.heap[k]?
 | [],_,_=>rfl
 | v::vs,o,w=>by simp only [tN];rw [cI b h vs];exact heap_setCell _ _ _ _ h
theorem mG (b r:Nat):∀ (vs:List Value) (o:Nat) (w:World),(tN w b o vs).shape? r=w.shape? r
 | [],_,_=>rfl
 | v::vs,o,w=>by simp only [tN];rw [mG b r vs];exact fZ _ _ _ _
theorem gK (b:Nat) (p:Addr):∀ (vs:List Value) (o:Nat) (w:World),(tN w b o vs).frozen? p=w.frozen? p
 | [],_,_=>rfl
 | v::vs,o,w=>by simp only [tN];rw [gK b p vs];simp_all
theorem fJ (b:Nat):∀ (vs:List Value) (o:Nat) (w:World),(tN w b o vs).os=w.os/\(tN w b o vs).tape=w.tape/\(tN w b o vs).output=w.output
 | [],_,_=>⟨rfl,rfl,rfl⟩
 | v::vs,o,w=>by simp only [tN];exact fJ b vs _ _
theorem fE (b:Nat) {p:Addr}:∀ (vs:List Value) (o:Nat) (w:World),(p.block≠b\/p.off<o\/o+vs.length<=p.off)->(tN w b o vs).cell? p=w.cell? p
 | [],_,_,_=>rfl
 | v::vs,o,w,h=>by
  simp only [tN];rw [fE b vs (o+1) _ (by grind)];refine World.cell?_setCell_other _ _ _ _ fun e=>?_
  grind
theorem gH (b:Nat):∀ (vs:List Value) (o:Nat) (w:World) (i:Nat) (x:Value),vs[i]? = some x->(w.cell? ⟨b,o+i,none⟩).isSome->(tN w b o vs).cell? ⟨b,o+i,none⟩=some x
 | [],_,_,i,x,h,_=>by simp at h
 | v::vs,o,w,0,x,h,hc=>by
  grind [tN,fE,Option.isSome_iff_exists,World.cell?_setCell_same]
 | v::vs,o,w,i+1,x,h,hc=>by
  simp only [tN]
  have:=gH b vs (o+1) (w.setCell ⟨b,o,none⟩ v) i x (by simpa using h) (by
   rw [World.cell?_setCell_other _ _ _ _ (by grind)]
   grind)
  grind
theorem oN (w:World) (a p:Addr) (v:Value) (h:(w.cell? p).isSome):((w.setCell a v).cell? p).isSome:=by
 grind [Option.isSome_iff_exists,World.cell?_setCell_same,World.cell?_setCell_other]
variable {P:Program}
theorem gE (b o:Nat):∀ (vs:List Value) (i:Nat) (w:World),(∀ v∈vs,v.oneCell'=true)->
  (∀ j,j<vs.length->(w.cell? ⟨b,o+i+j,none⟩).isSome)->(∀ j,j<vs.length->w.frozen? ⟨b,o+i+j,none⟩=false)->
  (storeCells ⟨b,o,none⟩ vs i).run P w=.ok () (tN w b (o+i) vs)
 | [],i,w,_,_,_=>rfl
 | v::vs,i,w,h1,h2,h3=>by
  simp only [storeCells,tN,Sem.run_bind,kF];rw [run_store _ _ _ _ _ (h1 v (by simp))];have hc:=h2 0 (by simp);have hf:=h3 0 (by simp);simp only [Nat.add_zero] at hc hf;obtain ⟨u,hu⟩:=Option.isSome_iff_exists.1 hc;simp only [hu,hf,Bool.false_eq_true,if_false,Result.andThen_ok];rw [gE b o vs (i+1) _ (fun x hx=>h1 x (by simp [hx])) (fun j hj=>?_) (fun j hj=>?_)]
  ·grind
  ·refine oN _ _ _ _ ?_
   have:=h2 (j+1) (by simp;omega)
   grind
  ·rw [frozen?_setCell]
   have:=h3 (j+1) (by simp;omega)
   grind
theorem run_loadCellsFrom (b o:Nat):∀ (n i:Nat) (acc:Array Value) (ys:List Value) (w:World),ys.length=n->
  (∀ j y,ys[j]? = some y->w.cell? ⟨b,o+i+j,none⟩=some y)->
  (loadCellsFrom ⟨b,o,none⟩ i n acc).run P w=.ok (acc++ys.toArray) w
 | 0,i,acc,ys,w,hl,_=>by
  have:ys=[]:=List.eq_nil_of_length_eq_zero hl
  subst this;simp [loadCellsFrom]
 | n+1,i,acc,ys,w,hl,h=>by
  cases ys with
  | nil=>simp at hl
  | cons y ys=>
   have h0:=h 0 y (by simp);simp only [Nat.add_zero] at h0;simp only [loadCellsFrom,Sem.run_bind,kF,run_load,h0,Result.andThen_ok];rw [run_loadCellsFrom b o n (i+1) (acc.push y) ys w (by simpa using hl) (fun j z hz=>by
    have:=h (j+1) z (by simpa using hz)
    grind)]
   simp
theorem run_loadCells (b o n:Nat) (ys:List Value) (w:World) (hl:ys.length=n) (h:∀ j y,ys[j]? = some y->w.cell? ⟨b,o+j,none⟩=some y) :
  (loadCells ⟨b,o,none⟩ n).run P w=.ok ys.toArray w:=by
 grind [loadCells,run_loadCellsFrom]
theorem rH:∀ {n:Nat} {l xs:List AV},takeN n l=some xs->xs=l.take n/\n<=l.length
 | 0,l,xs,h=>by simp [takeN] at h;subst h;simp
 | n+1,[],xs,h=>by simp [takeN] at h
 | n+1,x::r,xs,h=>by
  simp only [takeN] at h
  split at h <;> simp at h;rename_i l hl;subst h
  have:=rH hl
  simp [this.1,this.2]
theorem bP:∀ {n:Nat} {cs vs cs':List AV},over n cs vs=some cs'->
  cs'.length=cs.length/\(vs=[]\/n+vs.length<=cs.length)/\(∀ i,i<n->cs'[i]? = cs[i]?)/\(∀ i,i<vs.length->cs'[n+i]? = vs[i]?)/\(∀ i,n+vs.length<=i->cs'[i]? = cs[i]?)
 | n,cs,[],cs',h=>by simp [over] at h;subst h;simp
 | n,[],v::vs,cs',h=>by simp [over] at h
 | 0,c::cs,v::vs,cs',h=>by
  simp only [over] at h
  split at h <;> simp at h;rename_i l hl;subst h;obtain ⟨h1,h2,h3,h4,h5⟩:=bP hl
  grind
 | n+1,c::cs,v::vs,cs',h=>by
  simp only [over] at h
  split at h <;> simp at h;rename_i l hl;subst h;obtain ⟨h1,h2,h3,h4,h5⟩:=bP hl
  grind
end Ai
namespace Ai
def Blk.isRo:Blk->Bool
 | .row _ .ro=>true
 | _=>false
def Blk.live:Blk->Bool
 | .row _ .dead=>false
 | _=>true
structure RowR (μ:Mu) (w:World) (l:Loc) (cs:List AV):Prop where
 shape:∃ e,w.shape? l.b=some (e,l.tot)
 fits:l.sh+cs.length<=l.tot
 cell:∀ (i:Nat) (x:AV),cs[i]? = some x->∃ y,w.cell? ⟨l.b,l.sh+i,none⟩=some y/\VR μ x y
def Free (w:World) (l:Loc):Prop:=∀ i,i<l.tot->w.frozen? ⟨l.b,i,none⟩=false
inductive ER (μ:Mu):List (AV×AV×Nat)->List MapEntry->Prop
 | nil:ER μ [] []
 | cons {k v:AV} {b:Nat} {r:List (AV×AV×Nat)} {k' v':Value} {r':List MapEntry} (hk:VR μ k k') (hv:VR μ v v') (h:ER μ r r'):ER μ ((k,v,b)::r) (⟨k',v',b⟩::r')
def BR (μ:Mu) (w:World) (l:Loc):Blk->Prop
 | .row _ .dead=>True
 | .row cs .ro=>RowR μ w l cs
 | .row cs .own=>RowR μ w l cs/\l.ex=true/\l.sh=0/\cs.length=l.tot/\Free w l
 | .row cs .grown=>RowR μ w l cs/\l.ex=false/\Free w l
 | .row cs (.ty t)=>(RowR μ w l cs/\l.ex=true/\l.sh=0/\cs.length=l.tot/\Free w l)/\w.shape? l.b=some (t,l.tot)
 | .row cs (.bytes t)=>(RowR μ w l cs/\l.ex=false/\Free w l)/\w.shape? l.b=some (t,l.tot)/\l.sh=0
 | .map es c=>∃ es':Array MapEntry,w.heap[l.b]? = some (.map es' c)/\ER μ es es'.toList
 | .siter s p=>w.heap[l.b]? = some (.stringIter ⟨s.toArray⟩ p)
structure HR (μ:Mu) (h:Heap) (w:World):Prop where
 dom:∀ A l,μ A=some l->A<h.next/\l.b<w.heap.size
 inj:∀ A B la lb ba bb,μ A=some la->μ B=some lb->h.t.get A=some ba->h.t.get B=some bb->ba.live=true->bb.live=true->A≠B->la.b=lb.b->ba.isRo=true/\bb.isRo=true
 blk:∀ A l b,μ A=some l->h.t.get A=some b->BR μ w l b
 pin:∀ x∈h.pins,μ x.1=some x.2
def Wr (h:Heap) (A:Nat):Prop:=∃ b,h.t.get A=some b/\b.isRo=false
structure Ext (μ:Mu) (h:Heap) (w:World) (μ':Mu) (h':Heap) (w':World):Prop where
 mono:μ.le μ'
 next:h.next<=h'.next
 fresh:∀ A l,μ' A=some l->μ A=some l\/(h.next<=A/\(w.heap.size<=l.b\/∃ B lB,μ B=some lB/\lB.b=l.b/\Wr h B))
 wr:∀ A,A<h.next->Wr h' A->Wr h A
 frame:∀ b,b<w.heap.size->(∀ A l,μ A=some l->l.b=b->¬ Wr h A)->w'.heap[b]? = w.heap[b]?
 size:w.heap.size<=w'.heap.size
 os:w'.os=w.os
 tape:w'.tape=w.tape
 output:w'.output=w.output
theorem Mu.le_refl (μ:Mu):μ.le μ:=fun _ _ h=>h
theorem Ext.refl (μ:Mu) (h:Heap) (w:World):Ext μ h w μ h w:=
 ⟨Mu.le_refl μ,Nat.le_refl _,fun _ _ h=>.inl h,fun _ _ h=>h,fun _ _ _=>rfl,Nat.le_refl _,rfl,rfl,rfl⟩
theorem Ext.trans {μ μ' μ'':Mu} {h h' h'':Heap} {w w' w'':World} (hr:HR μ h w) (a:Ext μ h w μ' h' w') (b:Ext μ' h' w' μ'' h'' w''):Ext μ h w μ'' h'' w'' where
 mono:=fun A l hA=>b.mono A l (a.mono A l hA)
 next:=Nat.le_trans a.next b.next
 fresh:=by
  intro A l hA;rcases b.fresh A l hA with h1 | ⟨hn,h1 | ⟨B,lB,h1,h2,h3⟩⟩
  ·exact a.fresh A l h1
  ·exact .inr ⟨Nat.le_trans a.next hn,.inl (Nat.le_trans a.size h1)⟩
  ·refine .inr ⟨Nat.le_trans a.next hn,?_⟩
   rcases a.fresh B lB h1 with h4 | ⟨hn4,h4 | ⟨C,lC,h4,h5,h6⟩⟩
   ·exact .inr ⟨B,lB,h4,h2,a.wr B (hr.dom B lB h4).1 h3⟩
   ·exact .inl (h2 ▸ h4)
   grind
 wr:=fun A hA h=>a.wr A hA (b.wr A (Nat.lt_of_lt_of_le hA a.next) h)
 frame:=by
  intro k hk hm;rw [b.frame k (Nat.lt_of_lt_of_le hk a.size) ?_]
  ·exact a.frame k hk hm
  ·intro A l hA hl hw
   rcases a.fresh A l hA with h4 | ⟨_,h4 | ⟨C,lC,h4,h5,h6⟩⟩
   ·exact hm A l h4 hl (a.wr A (hr.dom A l h4).1 hw)
   ·omega
   grind
 size:=Nat.le_trans a.size b.size
 os:=b.os.trans a.os
 tape:=b.tape.trans a.tape
 output:=b.output.trans a.output
theorem RowR.mono {μ μ':Mu} {w:World} {l:Loc} {cs:List AV} (h:RowR μ w l cs) (hm:μ.le μ'):RowR μ' w l cs:=
 ⟨h.shape,h.fits,fun i x hx=>let ⟨y,h1,h2⟩:=h.cell i x hx;⟨y,h1,VR.mono hm _ _ h2⟩⟩
theorem ER.mono {μ μ':Mu} (hm:μ.le μ') {es:List (AV×AV×Nat)} {es':List MapEntry} (h:ER μ es es'):ER μ' es es':=by
 induction h with
 | nil=>exact .nil
 | cons hk hv _ ih=>exact .cons (VR.mono hm _ _ hk) (VR.mono hm _ _ hv) ih
theorem BR.mono {μ μ':Mu} {w:World} {l:Loc} {b:Blk} (hm:μ.le μ') (h:BR μ w l b):BR μ' w l b:=by
 cases b with
 | row cs st=>
  cases st with
  | dead=>trivial
  | ro=>exact RowR.mono h hm
  | own=>exact ⟨RowR.mono h.1 hm,h.2⟩
  | grown=>exact ⟨RowR.mono h.1 hm,h.2⟩
  | bytes t=>exact ⟨⟨RowR.mono h.1.1 hm,h.1.2⟩,h.2⟩
  | ty t=>exact ⟨⟨RowR.mono h.1.1 hm,h.1.2⟩,h.2⟩
 | map es c=>obtain ⟨es',h1,h2⟩:=h;exact ⟨es',h1,h2.mono hm⟩
 | siter s p=>exact h
theorem tH {w w':World} {a:Addr} (h:w'.heap[a.block]? = w.heap[a.block]?):w'.cell? a=w.cell? a:=by simp only [World.cell?,h]
theorem iA6 {w w':World} {a:Addr} (h:w'.heap[a.block]? = w.heap[a.block]?):w'.frozen? a=w.frozen? a:=by simp only [World.frozen?,h]
theorem iO {w w':World} {r:Nat} (h:w'.heap[r]? = w.heap[r]?):w'.shape? r=w.shape? r:=by simp only [World.shape?,h]
theorem RowR.heap {μ:Mu} {w w':World} {l:Loc} {cs:List AV} (hh:w'.heap[l.b]? = w.heap[l.b]?) (h:RowR μ w l cs):RowR μ w' l cs:=
 ⟨by rw [iO hh];exact h.shape,h.fits,fun i x hx=>by rw [tH (a:=⟨l.b,_,none⟩) hh];exact h.cell i x hx⟩
theorem Free.heap {w w':World} {l:Loc} (hh:w'.heap[l.b]? = w.heap[l.b]?) (h:Free w l):Free w' l:=
 fun i hi=>by rw [iA6 (a:=⟨l.b,i,none⟩) hh];exact h i hi
theorem BR.heap {μ:Mu} {w w':World} {l:Loc} {b:Blk} (hh:w'.heap[l.b]? = w.heap[l.b]?) (h:BR μ w l b):BR μ w' l b:=by
 cases b with
 | row cs st=>
  cases st with
  | dead=>trivial
  | ro=>exact RowR.heap hh h
  | own=>exact ⟨RowR.heap hh h.1,h.2.1,h.2.2.1,h.2.2.2.1,Free.heap hh h.2.2.2.2⟩
  | grown=>exact ⟨RowR.heap hh h.1,h.2.1,Free.heap hh h.2.2⟩
  | ty t=>exact ⟨⟨RowR.heap hh h.1.1,h.1.2.1,h.1.2.2.1,h.1.2.2.2.1,Free.heap hh h.1.2.2.2.2⟩,by rw [iO hh];exact h.2⟩
  | bytes t=>exact ⟨⟨RowR.heap hh h.1.1,h.1.2.1,Free.heap hh h.1.2.2⟩,by rw [iO hh];exact h.2.1,h.2.2⟩
 | map es c=>obtain ⟨es',h1,h2⟩:=h;exact ⟨es',by rw [hh];exact h1,h2⟩
 | siter s p=>show _=_;rw [hh];exact h
theorem HR.draws {μ:Mu} {h:Heap} {w w':World} (hr:HR μ h w) (hh:w'.heap=w.heap):HR μ h w':=
 ⟨fun A l hA=>by rw [hh];exact hr.dom A l hA,hr.inj,fun A l b hA hb=>BR.heap (by rw [hh]) (hr.blk A l b hA hb),hr.pin⟩
theorem Ext.draws {μ:Mu} {h:Heap} {w w':World} (hh:w'.heap=w.heap) (ho:w'.os=w.os) (ht:w'.tape=w.tape) (hu:w'.output=w.output):Ext μ h w μ h w':=
 ⟨Mu.le_refl μ,Nat.le_refl _,fun _ _ h=>.inl h,fun _ _ h=>h,fun _ _ _=>by rw [hh],by grind,ho,ht,hu⟩
def Mu.add (μ:Mu) (A:Nat) (l:Loc):Mu:=fun B=>if B=A then some l else μ B
theorem Mu.le_add {μ:Mu} {A:Nat} {l:Loc} (h:μ A=none):μ.le (μ.add A l):=by
 intro B k hB
 grind [Mu.add]
theorem HR.isNone {μ:Mu} {h:Heap} {w:World} (hr:HR μ h w):μ h.next=none:=by
 cases e:μ h.next with
 | none=>rfl
 | some l=>exact absurd (hr.dom _ _ e).1 (Nat.lt_irrefl _)
theorem HR.push {μ:Mu} {h:Heap} {w:World} (hr:HR μ h w) (o:Obj) (b:Blk) (l:Loc) (hl:l.b=w.heap.size)
  (hb:BR (μ.add h.next l) (w.alloc o) l b) :
  HR (μ.add h.next l) (h.push b) (w.alloc o)/\Ext μ h w (μ.add h.next l) (h.push b) (w.alloc o):=by
 have hle:μ.le (μ.add h.next l):=Mu.le_add hr.isNone;have hold:∀ k,k<w.heap.size->(w.alloc o).heap[k]? = w.heap[k]?:=fun k hk=>by
  show (w.heap.push o)[k]? = _
  grind
 have hgo:∀ {A k b'},μ A=some k->(h.push b).t.get A=some b'->h.t.get A=some b':=by
  intro A k b' hA hg;rcases Tr.get_set hg with ⟨h1,_⟩ | ⟨_,h2⟩
  ·exact absurd (hr.dom A k hA).1 (by omega)
  ·exact h2
 have hadd:∀ {A k},μ.add h.next l A=some k->(A=h.next/\k=l)\/(A≠h.next/\μ A=some k):=by
  grind [Mu.add]
 have hgn:∀ {b'},(h.push b).t.get h.next=some b'->b'=b:=by
  intro b' hg;rcases Tr.get_set hg with ⟨_,h1⟩ | ⟨h1,_⟩
  ·exact h1
  ·exact absurd rfl h1
 refine ⟨⟨?_,?_,?_,fun x hx=>hle _ _ (hr.pin x hx)⟩,⟨hle,Nat.le_succ _,?_,?_,?_,by simp,rfl,rfl,rfl⟩⟩
 ·intro A k hA
  rcases hadd hA with ⟨rfl,rfl⟩ | ⟨_,h1⟩
  ·exact ⟨Nat.lt_succ_self _,by simp [hl]⟩
  ·exact ⟨Nat.lt_succ_of_lt (hr.dom A k h1).1,by simp;have:=(hr.dom A k h1).2;omega⟩
 ·intro A B la lb ba bb hA hB ga gb va vb hne heq
  rcases hadd hA with ⟨rfl,rfl⟩ | ⟨na,h1⟩
  ·rcases hadd hB with ⟨rfl,rfl⟩ | ⟨nb,h2⟩
   ·exact absurd rfl hne
   ·have:=(hr.dom B lb h2).2;omega
  ·rcases hadd hB with ⟨rfl,rfl⟩ | ⟨nb,h2⟩
   ·have:=(hr.dom A la h1).2;omega
   ·exact hr.inj A B la lb ba bb h1 h2 (hgo h1 ga) (hgo h2 gb) va vb hne heq
 ·intro A k b' hA hg
  rcases hadd hA with ⟨rfl,rfl⟩ | ⟨na,h1⟩
  ·rw [hgn hg];exact hb
  ·exact BR.mono hle (BR.heap (hold _ (hr.dom A k h1).2) (hr.blk A k b' h1 (hgo h1 hg)))
 ·grind
 ·rintro A hlt ⟨b',hg,hro'⟩
  rcases Tr.get_set hg with ⟨h1,_⟩ | ⟨_,h2⟩
  ·omega
  ·exact ⟨b',h2,hro'⟩
 grind
theorem HR.pushRow {μ:Mu} {h:Heap} {w:World} (hr:HR μ h w) (xs:List AV) (cs:Array Value) (e:TypeId) (hx:VRs μ xs cs.toList) :
  ∃ l,l.b=w.heap.size/\l.sh=0/\l.tot=xs.length/\l.ex=true/\HR (μ.add h.next l) (h.push (.row xs .own)) (w.alloc (.cells cs e))/\Ext μ h w (μ.add h.next l) (h.push (.row xs .own)) (w.alloc (.cells cs e)):=by
 have hlen:=hx.length;refine ⟨⟨w.heap.size,0,xs.length,true⟩,rfl,rfl,rfl,rfl,hr.push _ _ _ rfl ?_⟩;have hle:μ.le (μ.add h.next ⟨w.heap.size,0,xs.length,true⟩):=Mu.le_add hr.isNone;have hx':=VRs.mono hle _ _ hx;refine ⟨⟨⟨e,?_⟩,by simp,?_⟩,rfl,rfl,rfl,?_⟩
 ·have hg:(w.alloc (.cells cs e)).heap[w.heap.size]? = some (.cells cs e):=by show (w.heap.push _)[_]? = _;simp
  grind [World.shape?]
 ·intro i x hi
  obtain ⟨y,hy,hr'⟩:=hx'.get hi
  simp_all
 ·intro i _;simp_all
end Ai
namespace Ai
structure EnvOK (E:Env) (P:Program):Prop where
 info:∀ t i,E.info t=some i->P.info? t=some i
 fn:∀ f fn,E.fn f=some fn->P.funcs[f]? = some fn/\(fn.name == "runtime.NumGoroutine")=false
 cmp:∀ t,E.cmp t=true->P.stoodInHeld t=false/\P.eqGuardType P.depth t=false
 lies:∀ e off u,E.lies e off u=true->liesAt P P.depth e 1 off u 1=true
section
variable {E:Env} {P:Program} {μ:Mu} {h:Heap} {w:World}
theorem eB (ok:EnvOK E P) {t:TypeId} {d:TypeDesc} (hd:E.und t=some d):P.underlying t=some d:=by
 unfold Env.und at hd;unfold Program.underlying
 cases hi:E.info t with
 | none=>simp [hi] at hd
 | some i=>
  rw [ok.info t i hi];simp only [hi] at hd
  cases hdesc:i.desc with
  | named n u=>
   simp only [hdesc] at hd
   cases hj:E.info u with
   | none=>simp [hj] at hd
   | some j=>
    simp only [hj,Option.some.injEq] at hd;obtain ⟨desc,str,size,bytes,hp,al,fa,z,c,ms⟩:=i;simp only at hdesc;subst hdesc;simp [ok.info u j hj,hd]
  | _=>
   obtain ⟨desc,str,size,bytes,hp,al,fa,z,c,ms⟩:=i;simp only at hdesc;subst hdesc;simpa using hd
theorem pB {t:TypeId} {d:TypeDesc} (hd:P.underlying t=some d):(underlying t).run P w=.ok d w:=by
 simp [underlying,hd]
theorem cF {t:TypeId} {i:TypeInfo} (hd:P.info? t=some i):(typeInfo t).run P w=.ok i w:=by
 simp [typeInfo,hd]
theorem mAe {t:TypeId} {i:TypeInfo} (hd:P.info? t=some i):(sizeOf t).run P w=.ok i.size w:=by
 simp [sizeOf,cF hd]
theorem uAp {t:TypeId} {i:TypeInfo} {v:Value} (hd:P.info? t=some i) (hz:i.zero=some v):(zeroValue t).run P w=.ok v w:=by
 simp [zeroValue,cF hd,hz]
theorem aAk {t:TypeId} {d:TypeDesc} (hd:P.underlying t=some d):(isAgg t).run P w=.ok (cAt d) w:=by
 simp only [isAgg,Sem.run_bind,pB hd,Result.andThen_ok];cases d <;> rfl
theorem fC (ok:EnvOK E P) {t:TypeId} {n:Nat} (hn:E.size t=some n):(sizeOf t).run P w=.ok n w:=by
 unfold Env.size at hn
 cases hi:E.info t with
 | none=>simp [hi] at hn
 | some i=>simp [hi] at hn;rw [mAe (ok.info t i hi),hn]
theorem iK (ok:EnvOK E P) {t:TypeId} {b:Bool} (hn:E.isAgg t=some b):(isAgg t).run P w=.ok b w:=by
 unfold Env.isAgg at hn
 cases hi:E.und t with
 | none=>simp [hi] at hn
 | some i=>grind [aAk,eB]
theorem tE (ok:EnvOK E P) {t:TypeId} {z:AV} (hz:E.zero t=some z):∃ v,(∀ w,(zeroValue t).run P w=.ok v w)/\∀ μ,VR μ z v:=by
 unfold Env.zero at hz
 cases hi:E.info t with
 | none=>simp [hi] at hz
 | some i=>
  simp only [hi] at hz
  cases hv:i.zero with
  | none=>simp [hv] at hz
  | some v=>
   simp only [hv] at hz;exact ⟨v,fun w=>uAp (ok.info t i hi) hv,fun μ=>gA6 hz⟩
theorem qB0 {A:Nat} {cs:List AV} (hg:h.row A=some cs):∃ st,h.t.get A=some (.row cs st)/\st≠.dead:=by
 grind [Heap.row]
theorem lAv {A:Nat} {cs:List AV} {st:BState} (hg:h.rowW A=some (cs,st)):h.t.get A=some (.row cs st)/\(st=.own\/st=.grown\/(∃ t,st=.bytes t)\/∃ t,st=.ty t):=by
 unfold Heap.rowW at hg
 grind
theorem BR.row {l:Loc} {cs:List AV} {st:BState} (hb:BR μ w l (.row cs st)) (hd:st≠.dead):RowR μ w l cs:=by
 cases st with
 | dead=>exact absurd rfl hd
 | ro=>exact hb
 | own=>exact hb.1
 | grown=>exact hb.1
 | bytes t=>exact hb.1.1
 | ty t=>exact hb.1.1
theorem HR.row (hr:HR μ h w) {A:Nat} {l:Loc} {cs:List AV} (hA:μ A=some l) (hg:h.row A=some cs):RowR μ w l cs:=by
 obtain ⟨st,hb,hd⟩:=qB0 hg;exact (hr.blk A l _ hA hb).row hd
theorem RowR.read {l:Loc} {cs xs:List AV} {off n:Nat} (hr:RowR μ w l cs) (ht:takeN n (cs.drop off)=some xs) :
  ∃ ys:List Value,ys.length=n/\(∀ (j:Nat) (y:Value),ys[j]? = some y->w.cell? ⟨l.b,l.sh+off+j,none⟩=some y)/\VRs μ xs ys:=by
 obtain ⟨hx,hn⟩:=rH ht;have hlen:xs.length=n:=by grind
 have hcell:∀ (j:Nat) (x:AV),xs[j]? = some x->∃ y,w.cell? ⟨l.b,l.sh+off+j,none⟩=some y/\VR μ x y:=by
  intro j x hj;have hjn:j<n:=by
   grind
  have:cs[off+j]? = some x:=by
   grind
  obtain ⟨y,h1,h2⟩:=hr.cell (off+j) x this
  grind
 refine ⟨(List.range n).map fun j=>(w.cell? ⟨l.b,l.sh+off+j,none⟩).getD undef,by simp,?_,?_⟩
 ·intro j y hj
  have hjn:j<n:=by grind
  simp [hjn] at hj
  have:j<xs.length:=by omega
  obtain ⟨z,h1,_⟩:=hcell j xs[j] (by simp [this])
  grind
 grind [VRs.of,List.getElem?_eq_some_iff]
theorem HR.read (hr:HR μ h w) {A off n:Nat} {l:Loc} {xs:List AV} (hA:μ A=some l) (hg:h.read A off n=some xs) :
  ∃ ys:List Value,(loadCells ⟨l.b,l.sh+off,none⟩ n).run P w=.ok ys.toArray w/\ys.length=n/\VRs μ xs ys/\(∀ (j:Nat) (y:Value),ys[j]? = some y->w.cell? ⟨l.b,l.sh+off+j,none⟩=some y):=by
 unfold Heap.read at hg
 cases hc:h.row A with
 | none=>simp [hc] at hg
 | some cs=>
  simp only [hc] at hg;obtain ⟨ys,h1,h2,h3⟩:=(hr.row hA hc).read hg
  grind [run_loadCells]
theorem jK (ok:EnvOK E P) (hr:HR μ h w) {t:TypeId} {av x:AV} {v:Value} (hv:VR μ av v) (hx:nN E h t av=some x) :
  ∃ a y,v=.pointer (some a)/\(loadVar t a).run P w=.ok y w/\VR μ x y:=by
 unfold nN at hx
 split at hx
 ·rename_i A off
  simp only [VR] at hv;obtain ⟨l,hA,rfl⟩:=hv;refine ⟨⟨l.b,l.sh+off,none⟩,?_⟩
  cases hg:E.isAgg t with
  | none=>simp [hg] at hx
  | some b=>
   cases b with
   | true=>
    simp only [hg] at hx
    cases hs:E.size t with
    | none=>simp [hs] at hx
    | some n=>
     simp only [hs] at hx
     cases hrd:h.read A off n with
     | none=>simp [hrd] at hx
     | some xs=>
      simp [hrd] at hx;subst hx;obtain ⟨ys,h1,h2,h3,_⟩:=hr.read (P:=P) hA hrd;refine ⟨.agg ys.toArray,rfl,?_,?_⟩
      ·simp [loadVar,iK ok hg,fC ok hs,h1]
      ·simp only [VR];grind
   | false=>
    simp only [hg] at hx
    cases hrd:h.read A off 1 with
    | none=>simp [hrd] at hx
    | some xs=>
     obtain ⟨ys,h1,h2,h3,h4⟩:=hr.read (P:=P) hA hrd
     cases xs with
     | nil=>simp [hrd] at hx
     | cons z zs=>
      cases zs with
      | cons=>simp [hrd] at hx
      | nil=>
       simp [hrd] at hx;subst hx;simp only [VRs] at h3;obtain ⟨y,ys',rfl,h5,rfl⟩:=h3;refine ⟨y,rfl,?_,h5⟩
       have:=h4 0 y (by simp)
       simp only [Nat.add_zero] at this;simp [loadVar,iK ok hg,this]
 ·simp at hx
theorem jA6 (ok:EnvOK E P) (hr:HR μ h w) {t:TypeId} {av x:AV} {v:Value} (hv:VR μ av v) (hx:nN E h t av=some x) :
  ∃ y,(Instr.loadAt t v).run P w=.ok y w/\VR μ x y:=by
 obtain ⟨a,y,rfl,h1,h2⟩:=jK ok hr hv hx
 grind [Instr.loadAt,Instr.sureAddr]
theorem HR.write (hr:HR μ h w) {A off:Nat} {l:Loc} {cs vs cs':List AV} {us:List Value} {st:BState} (hA:μ A=some l) (hg:h.t.get A=some (.row cs st)) (hst:st=.own\/st=.grown\/(∃ t,st=.bytes t)\/∃ t,st=.ty t)
  (ho:over off cs vs=some cs') (hv:VRs μ vs us) :
  (∀ j,j<us.length->(w.cell? ⟨l.b,l.sh+off+j,none⟩).isSome)/\(∀ j,j<us.length->w.frozen? ⟨l.b,l.sh+off+j,none⟩=false)/\
  HR μ (h.put A (.row cs' st)) (tN w l.b (l.sh+off) us)/\Ext μ h w μ (h.put A (.row cs' st)) (tN w l.b (l.sh+off) us):=by
 have hlen:=hv.length;obtain ⟨o1,o2,o3,o4,o5⟩:=bP ho;have hB:=hr.blk A l _ hA hg;have hrow:RowR μ w l cs:=hB.row (by grind);have hfree:Free w l:=by rcases hst with rfl | rfl | ⟨_,rfl⟩ | ⟨_,rfl⟩;exact hB.2.2.2.2;exact hB.2.2;exact hB.1.2.2;exact hB.1.2.2.2.2
 have hin:∀ j,j<us.length->off+j<cs.length:=by
  grind
 have hex:∀ j,j<us.length->(w.cell? ⟨l.b,l.sh+off+j,none⟩).isSome:=by
  intro j hj;have h1:=hin j hj;obtain ⟨y,h2,_⟩:=hrow.cell (off+j) cs[off+j] (by simp [h1])
  grind
 have hgo:∀ {B:Nat} {b:Blk},(h.put A (.row cs' st)).t.get B=some b->(B=A/\b=.row cs' st)\/(B≠A/\h.t.get B=some b):=fun hb=>Tr.get_set hb;have hlive:∀ {B:Nat} {b:Blk},(h.put A (.row cs' st)).t.get B=some b->∃ b₀,h.t.get B=some b₀/\b₀.live=b.live/\b₀.isRo=b.isRo:=by
  intro B b hb;rcases hgo hb with ⟨rfl,rfl⟩ | ⟨_,h1⟩
  ·refine ⟨_,hg,?_⟩
   rcases hst with rfl | rfl | ⟨_,rfl⟩ | ⟨_,rfl⟩ <;> exact ⟨rfl,rfl⟩
  grind
 refine ⟨hex,?_,⟨?_,?_,?_,hr.pin⟩,⟨Mu.le_refl μ,Nat.le_refl _,fun _ _ h=>.inl h,?_,?_,?_,?_,?_,?_⟩⟩
 ·intro j hj
  have h1:=hin j hj
  have:=hrow.fits
  rw [show l.sh+off+j=l.sh+(off+j) from by omega];exact hfree _ (by omega)
 ·intro B k hB';have:=hr.dom B k hB';exact ⟨this.1,by rw [mF];exact this.2⟩
 ·intro B C lb lc bb bc hb hc gb gc vb vc hne heq
  obtain ⟨b₀,g0,v0,r0⟩:=hlive gb;obtain ⟨c₀,g1,v1,r1⟩:=hlive gc
  have:=hr.inj B C lb lc b₀ c₀ hb hc g0 g1 (v0.trans vb) (v1.trans vc) hne heq
  grind
 ·intro B k b hB' hb
  rcases hgo hb with ⟨rfl,rfl⟩ | ⟨hne,h1⟩
  ·have:k=l:=by grind
   subst this;have hrow':RowR μ (tN w k.b (k.sh+off) us) k cs':=by
    refine ⟨by rw [mG];exact hrow.shape,by rw [o1];exact hrow.fits,fun i x hi=>?_⟩;have hi':i<cs.length:=by grind
    by_cases c1:i<off
    ·rw [o3 i c1] at hi
     obtain ⟨y,h2,h3⟩:=hrow.cell i x hi
     grind [fE]
    ·by_cases c2:off+vs.length<=i
     ·rw [o5 i c2] at hi
      obtain ⟨y,h2,h3⟩:=hrow.cell i x hi
      grind [fE]
     ·obtain ⟨j,rfl⟩:∃ j,i=off+j:=⟨i-off,by omega⟩
      have hj:j<vs.length:=by omega
      rw [o4 j hj] at hi;obtain ⟨y,h2,h3⟩:=hv.get hi;refine ⟨y,?_,h3⟩;rw [show k.sh+(off+j)=k.sh+off+j from by omega];exact gH _ _ _ _ _ _ h2 (hex j (by omega))
   have hfree':Free (tN w k.b (k.sh+off) us) k:=fun i hi=>by rw [gK];exact hfree i hi
   rcases hst with rfl | rfl | ⟨_,rfl⟩ | ⟨_,rfl⟩
   ·exact ⟨hrow',hB.2.1,hB.2.2.1,by rw [o1];exact hB.2.2.2.1,hfree'⟩
   ·exact ⟨hrow',hB.2.1,hfree'⟩
   ·exact ⟨⟨hrow',hB.1.2.1,hfree'⟩,by rw [mG];exact hB.2.1,hB.2.2⟩
   ·exact ⟨⟨hrow',hB.1.2.1,hB.1.2.2.1,by rw [o1];exact hB.1.2.2.2.1,hfree'⟩,by rw [mG];exact hB.2⟩
  ·by_cases hd:b.live=true
   ·have hkb:k.b≠l.b:=by
     intro e
     have:=(hr.inj B A k l b _ hB' hA h1 hg hd (by rcases hst with rfl | rfl | ⟨_,rfl⟩ | ⟨_,rfl⟩ <;> rfl) hne e).2
     rcases hst with rfl | rfl | ⟨_,rfl⟩ | ⟨_,rfl⟩ <;> simp [Blk.isRo] at this
    exact BR.heap (cI _ hkb _ _ _) (hr.blk B k b hB' h1)
   ·cases b with
    | row cs'' st''=>cases st'' <;> simp [Blk.live] at hd;trivial
    | map=>simp [Blk.live] at hd
    | siter=>simp [Blk.live] at hd
 ·rintro B hlt ⟨b,hb,hro⟩
  obtain ⟨b₀,g0,_,r0⟩:=hlive hb;exact ⟨b₀,g0,r0.trans hro⟩
 ·intro k hk hm
  refine cI _ ?_ _ _ _;intro e;refine hm A l hA e.symm ⟨_,hg,?_⟩;rcases hst with rfl | rfl | ⟨_,rfl⟩ | ⟨_,rfl⟩ <;> rfl
 ·rw [mF];exact Nat.le_refl _
 ·exact (fJ _ _ _ _).1
 ·exact (fJ _ _ _ _).2.1
 ·exact (fJ _ _ _ _).2.2
theorem rA1 (ok:EnvOK E P) (hr:HR μ h w) {t:TypeId} {av x:AV} {v u:Value} {h':Heap} (hv:VR μ av v) (hu:VR μ x u) (hx:lZ E h t av x=some h') :
  ∃ w',(Instr.storeAt t v u).run P w=.ok () w'/\HR μ h' w'/\Ext μ h w μ h' w':=by
 unfold lZ at hx
 split at hx
 ·rename_i A off
  simp only [VR] at hv;obtain ⟨l,hA,rfl⟩:=hv
  cases hs:E.size t with
  | none=>simp [hs] at hx
  | some n=>
   simp only [hs] at hx
   split at hx
   ·rename_i hc
    simp only [Bool.and_eq_true,decide_eq_true_eq,List.all_eq_true] at hc
    cases hw:h.rowW A with
    | none=>simp [hw] at hx
    | some p=>
     obtain ⟨cs,st⟩:=p;simp only [hw] at hx
     cases ho:over off cs x.cells with
     | none=>simp [ho] at hx
     | some cs'=>
      simp [ho] at hx;subst hx;obtain ⟨hg,hst⟩:=lAv hw;have hcs:=hu.cells;obtain ⟨h1,h2,h3,h4⟩:=hr.write hA hg hst ho hcs;refine ⟨_,?_,h3,h4⟩;have hlen:u.cells.size=n:=by have:=hcs.length;simpa [hc.1] using this
      have hone:∀ z∈u.cells.toList,z.oneCell'=true:=by
       intro z hz;obtain ⟨i,hi,rfl⟩:=List.mem_iff_getElem.1 hz;have hi':i<x.cells.length:=by grind
       obtain ⟨y,h5,h6⟩:=hcs.get (i:=i) (x:=x.cells[i]) (by simp [hi'])
       have:y=u.cells.toList[i]:=by grind
       rw [<- this];exact h6.single (hc.2 _ (List.getElem_mem hi'))
      simp only [Instr.storeAt,Instr.sureAddr,Sem.run_bind,Sem.run_pure,Result.andThen_ok,storeVar,fC ok hs,hlen,ne_eq,not_true_eq_false,if_false]
      grind [gE]
   ·simp at hx
 ·simp at hx
end
end Ai
namespace Ai
theorem rB0 (k:IntKind):(2 ^ k.bits:Int)=(pw k:Int):=by cases k <;> rfl
theorem gAt (k:IntKind):0<pw k:=by cases k <;> decide
theorem mAv (k:IntKind):(2 ^ (k.bits-1):Int)=((pw k / 2:Nat):Int):=by cases k <;> rfl
theorem vA9 (k:IntKind) (n:Int):(n % (pw k:Int))=(dAt k n:Int):=by
 have hp:=gAt k
 cases n with
 | ofNat a=>simp [dAt]
 | negSucc a=>
  simp only [dAt];rw [Int.negSucc_emod _ (by omega)]
  have:a % pw k<pw k:=Nat.mod_lt _ hp
  omega
theorem vAp (k:IntKind) (m:Nat) (hm:m<pw k):wrapN k m=if k.signed&&decide ((m:Int)≥(2 ^ (k.bits-1):Int)) then (m:Int)-(2 ^ k.bits:Int) else m:=by
 rw [mAv,rB0];unfold wrapN;have hb:Nat.ble (pw k / 2) m=decide ((m:Int)≥((pw k / 2:Nat):Int)):=by
  rw [Bool.eq_iff_iff];simp;omega
 grind
theorem uM (k:IntKind) (n:Int):jB k n=k.wrap n:=by
 have e:jB k n=wrapN k (dAt k n):=by cases n <;> rfl
 have hlt:dAt k n<pw k:=by
  have:=Int.emod_lt_of_pos n (show (0:Int)<pw k by have:=gAt k;omega)
  rw [vA9] at this;omega
 grind [vAp,IntKind.wrap,vA9,rB0]
theorem wT (a b:Int):eA a b=(a == b):=by
 rw [Bool.eq_iff_iff,beq_iff_eq];cases a <;> cases b <;> simp [eA] <;> omega
theorem yT (a b:Int):ltInt a b=decide (a<b):=by
 unfold ltInt;rw [Bool.eq_iff_iff]
 split
 ·rename_i n hn
  have hn':b-a=(n:Int):=hn
  by_cases hz:n=0
  ·subst hz;simp;omega
  ·simp [bf hz];omega
 grind
theorem nAe (a b:Int):wB a b=decide (a<=b):=by
 unfold wB;rw [Bool.eq_iff_iff]
 split
 ·grind
 grind
theorem uE:∀ (x y:List UInt8),fB x y=(x == y)
 | [],[]=>rfl
 | [],_::_=>rfl
 | _::_,[]=>rfl
 | a::x,b::y=>by
  simp only [fB];rw [uE x y]
  have:Nat.beq a.toNat b.toNat=(a == b):=by
   rw [Bool.eq_iff_iff];simp [UInt8.toNat_inj]
  grind
theorem mZ:∀ (x y:List UInt8),qL x y=Op.bytesLess x y
 | _,[]=>by simp [qL,Op.bytesLess]
 | [],_::_=>rfl
 | a::x,b::y=>by
  simp only [qL,Op.bytesLess];rw [mZ x y];have h1:Nat.blt a.toNat b.toNat=decide (a<b):=by
   rw [Bool.eq_iff_iff];simp [UInt8.lt_iff_toNat_lt]
  have h2:Nat.beq a.toNat b.toNat=(a == b):=by
   rw [Bool.eq_iff_iff];simp [UInt8.toNat_inj]
  grind
theorem tL:∀ (x y:List UInt8),(!Op.bytesLess y x)=(Op.bytesLess x y||x == y)
 | [],[]=>rfl
 | [],_::_=>rfl
 | _::_,[]=>rfl
 | a::x,b::y=>by
  simp only [Op.bytesLess];have ih:=tL x y
  grind
section
variable {E:Env} {P:Program} {μ:Mu} {h:Heap} {w:World}
theorem aU (k:IntKind) (x:Int):(BitVec.ofInt k.bits x).toNat=dAt k x:=by
 rw [BitVec.toNat_ofInt];have h1:((2 ^ k.bits:Nat):Int)=(pw k:Int):=by cases k <;> rfl
 rw [h1,vA9];simp
theorem nZ {op:BinOp} {k:IntKind} {x y:Int} {v:AV} (hv:qA9 op k x y=some v):∃ u,(Op.intBits op k x y).run P w=.ok u w/\VR μ v u:=by
 unfold qA9 at hv;unfold Op.intBits;cases op <;> simp at hv <;> subst hv <;> simp only [VR,uM]
 ·exact ⟨_,rfl,by grind [BitVec.toNat_and,aU]⟩
 ·exact ⟨_,rfl,by grind [BitVec.toNat_or,aU]⟩
 ·exact ⟨_,rfl,by grind [BitVec.toNat_xor,aU]⟩
 ·refine ⟨_,rfl,?_⟩
  have e:(BitVec.ofInt k.bits x &&& ~~~BitVec.ofInt k.bits y)=BitVec.ofInt k.bits x ^^^ (BitVec.ofInt k.bits x &&& BitVec.ofInt k.bits y):=by
   grind
  grind [BitVec.toNat_xor,BitVec.toNat_and,aU]
theorem kA6 {op:BinOp} {k:IntKind} {x y:Int} {v:AV} (h1:op≠.shl) (h2:op≠.shr) (hv:aA6 op k x y=some v) (t:TypeId) :
  ∃ u,(binOp op t (.int k x) (.int k y)).run P w=.ok u w/\VR μ v u:=by
 cases op <;> simp only [aA6,wT,yT,nAe,uM,Option.some.injEq,reduceCtorEq] at hv
 case quo | rem=>
  cases hy:(y == 0) with
  | true=>simp [hy] at hv
  | false=>
   simp [hy] at hv
   have:y≠0:=by simpa using hy
   subst hv;simp [binOp,Op.intDiv,this,VR]
 case and | or | xor | andNot=>
  have:=nZ (P:=P) (w:=w) (μ:=μ) hv
  simpa [binOp] using this
 all_goals (first | exact absurd rfl h1 | exact absurd rfl h2 | (subst hv;simp [binOp,Op.intArith,Op.intCmp,VR,bne]))
theorem jV {op:BinOp} {k yk:IntKind} {x y:Int} {v:AV} (hv:iAe op k x y=some v):∃ u,(Op.shift op k x yk y).run P w=.ok u w/\VR μ v u:=by
 unfold iAe at hv
 cases y with
 | negSucc m=>simp at hv
 | ofNat m=>
  cases op <;> simp at hv <;> subst hv <;> simp [Op.shift,VR,uM] <;> (intro hlt;omega)
theorem lA6 {op:BinOp} {x y:List UInt8} {v:AV} (hv:rA op x y=some v):∃ u,(Op.stringOp op ⟨x.toArray⟩ ⟨y.toArray⟩).run P w=.ok u w/\VR μ v u:=by
 cases op <;> simp only [rA,uE,mZ,Option.some.injEq,reduceCtorEq] at hv
 case add=>
  cases hb:Nat.ble (x.length+y.length) 1099511627776 with
  | false=>simp [hb] at hv
  | true=>
   simp [hb] at hv;subst hv;have hb':x.length+y.length<=1099511627776:=by simpa using hb
   have hs:(⟨x.toArray⟩:ByteArray).size=x.length:=rfl;have hs':(⟨y.toArray⟩:ByteArray).size=y.length:=rfl;have hmax:IntKind.i64.max=9223372036854775807:=by decide
   have:¬ ((x.length+y.length:Nat):Int) > IntKind.i64.max:=by rw [hmax];omega
   refine ⟨.string (⟨x.toArray⟩++⟨y.toArray⟩),?_,?_⟩
   ·simp only [Op.stringOp,hs,hs']
    rw [if_neg this];rfl
   ·simp only [VR]
    congr 1
 all_goals (subst hv;simp only [Op.stringOp,VR,ByteArray.toList_mk,<- tL,Bool.not_not])
 all_goals exact ⟨_,rfl,rfl⟩
end
end Ai
namespace Ai
section
variable {E:Env} {P:Program} {μ:Mu} {h:Heap} {w:World}
theorem uH (ok:EnvOK E P) {t:TypeId} {cs:List AV} {cs':Array Value} {off:Nat} {x:AV} (hv:VRs μ cs cs'.toList) (hx:eO E t cs off=some x) :
  ∃ y,(part t cs' off).run P w=.ok y w/\VR μ x y:=by
 unfold eO at hx
 cases hg:E.isAgg t with
 | none=>simp [hg] at hx
 | some b=>
  cases b with
  | true=>
   simp only [hg] at hx
   cases hs:E.size t with
   | none=>simp [hs] at hx
   | some n=>
    simp only [hs] at hx
    cases ht:takeN n (cs.drop off) with
    | none=>simp [ht] at hx
    | some l=>
     simp [ht] at hx;subst hx;obtain ⟨rfl,_⟩:=rH ht;refine ⟨.agg (cs'.extract off (off+n)),?_,?_⟩
     ·simp [part,iK ok hg,fC ok hs]
     ·simp only [VR]
      refine ⟨_,rfl,?_⟩
      have:=VRs.take n (VRs.drop off hv)
      simpa using this
  | false=>
   simp only [hg] at hx
   cases hd:cs.drop off with
   | nil=>simp [hd] at hx
   | cons z zs=>
    simp [hd] at hx;subst hx;have hz:cs[off]? = some z:=by
     have:=List.getElem?_drop (xs:=cs) (i:=off) (j:=0)
     grind
    obtain ⟨y,h1,h2⟩:=hv.get hz;have h1':cs'[off]? = some y:=by simpa using h1
    exact ⟨y,by simp [part,iK ok hg,h1'],h2⟩
theorem bAk (t:TypeId) (cs:List AV) (k:Nat):eO E t (cs.drop k) 0=eO E t cs k:=by
 unfold eO;simp
theorem kV (ok:EnvOK E P) {t:TypeId} {n:Nat} (hn:E.size t=some n):∃ i,P.info? t=some i/\i.size=n/\P.cellsOf t=n:=by
 unfold Env.size at hn
 cases hi:E.info t with
 | none=>simp [hi] at hn
 | some i=>
  simp [hi] at hn
  have:=ok.info t i hi
  grind [Program.cellsOf]
theorem cAk (ok:EnvOK E P):∀ (d:Nat) (t:TypeId) (x y:AV) (v u:Value) (b:Bool),eqA E d t x y=some b->VR μ x v->VR μ y u->∀ D,d<=D->(Op.equalIn D t v u).run P w=.ok b w:=by
 intro d
 induction d with
 | zero=>intro t x y v u b hb;simp [eqA] at hb
 | succ d ih=>
  intro t x y v u b hb hx hy D hD;obtain ⟨D,rfl⟩:∃ D',D=D'+1:=⟨D-1,by omega⟩;have hD':d<=D:=by omega
  simp only [eqA] at hb
  split at hb
  case h_1 hu=>
   simp only [VR] at hx hy;subst hx hy;simp at hb;subst hb;rename_i a c
   have:=run_equalIn_bool' (P:=P) w D t a c (eB ok hu)
   rw [this];cases a <;> cases c <;> rfl
  case h_2 hu=>
   grind [VR,nJ,run_equalIn_int,eB,wT]
  case h_3 hu=>
   simp only [VR] at hx hy;subst hx hy;simp at hb;subst hb;rw [run_equalIn_string w D t _ _ (eB ok hu),uE];simp
  case h_4 e a c hu=>
   cases hs:E.size e with
   | none=>simp [hs] at hb
   | some n=>
    cases n with
    | zero=>simp [hs] at hb
    | succ n=>
     simp only [hs] at hb;have hsz:=fC (w:=w) ok hs
     cases a with
     | none=>
      simp only [VR] at hx;subst hx
      cases c with
      | none=>simp only [VR] at hy;subst hy;simp [mAh] at hb;subst hb;simp [Op.equalIn,pB (eB ok hu)]
      | some q=>obtain ⟨B,j⟩:=q;simp only [VR] at hy;obtain ⟨l,_,rfl⟩:=hy;simp [mAh] at hb;subst hb;simp [Op.equalIn,pB (eB ok hu)]
     | some p=>
      obtain ⟨A,i⟩:=p;simp only [VR] at hx;obtain ⟨l,hl,rfl⟩:=hx
      cases c with
      | none=>simp only [VR] at hy;subst hy;simp [mAh] at hb;subst hb;simp [Op.equalIn,pB (eB ok hu)]
      | some q=>
       obtain ⟨B,j⟩:=q;simp only [VR] at hy;obtain ⟨l',hl',rfl⟩:=hy;simp only [mAh] at hb
       cases hAB:Nat.beq A B with
       | false=>simp [hAB] at hb
       | true=>
        simp [hAB] at hb
        have:A=B:=Nat.eq_of_beq_eq_true hAB
        subst this
        have:l=l':=by grind
        subst this;subst hb;simp only [Op.equalIn,pB (eB ok hu),Sem.run_bind,Result.andThen_ok,hsz,ne_eq,Nat.succ_ne_zero,not_false_eq_true,if_true,sameAddr,beq_self_eq_true]
        have:((⟨l.b,l.sh+i,none⟩:Addr) == ⟨l.b,l.sh+j,none⟩)=Nat.beq i j:=by
         rw [Bool.eq_iff_iff];simp
        simp [this]
  case h_5 hu=>simp only [VR] at hx hy;subst hx hy;simp at hb;subst hb;simp [Op.equalIn,pB (eB ok hu)]
  case h_6 hu=>simp only [VR] at hx hy;subst hx;obtain ⟨_,rfl,_⟩:=hy;simp at hb;subst hb;simp [Op.equalIn,pB (eB ok hu)]
  case h_7 hu=>simp only [VR] at hx hy;subst hy;obtain ⟨_,rfl,_⟩:=hx;simp at hb;subst hb;simp [Op.equalIn,pB (eB ok hu)]
  case h_8 ms tx vx ty vy hu=>
   simp only [VR] at hx hy;obtain ⟨x',rfl,hx⟩:=hx;obtain ⟨y',rfl,hy⟩:=hy
   cases ht:Nat.beq tx ty with
   | false=>
    simp [ht] at hb;subst hb
    have:tx≠ty:=fun e=>by simp_all
    simp [Op.equalIn,pB (eB ok hu),this]
   | true=>
    simp only [ht,cond_true] at hb
    have:tx=ty:=Nat.eq_of_beq_eq_true ht
    subst this
    cases hi:E.info tx with
    | none=>simp [hi] at hb
    | some i=>
     simp only [hi] at hb
     cases hc:i.comparable with
     | false=>simp [hc] at hb
     | true=>
      simp only [hc,cond_true] at hb;simp only [Op.equalIn,pB (eB ok hu),Sem.run_bind,Result.andThen_ok,ne_eq,not_true_eq_false,if_false,cF (ok.info _ _ hi),hc,Bool.not_true,Bool.false_eq_true]
      grind
  case h_9 hu=>
   rename_i q _ _ _;simp only [VR] at hx;obtain ⟨rfl,_⟩:=hx;simp at hb;subst hb
   cases q with
   | none=>simp only [VR] at hy;obtain ⟨rfl,_⟩:=hy;simp [Op.equalIn,pB (eB ok hu)]
   | some p=>obtain ⟨A,off⟩:=p;simp only [VR] at hy;obtain ⟨_,_,_,_,rfl,_⟩:=hy;simp [Op.equalIn,pB (eB ok hu)]
  case h_10 hu=>
   rename_i p _ _ _ _ _ _;obtain ⟨A,off⟩:=p;simp only [VR] at hx hy;obtain ⟨rfl,_⟩:=hy;obtain ⟨_,_,_,_,rfl,_⟩:=hx;simp at hb;subst hb;simp [Op.equalIn,pB (eB ok hu)]
  case h_11 hu=>
   rename_i q;simp only [VR] at hx;subst hx;simp at hb;subst hb
   cases q with
   | none=>simp only [VR] at hy;subst hy;simp [Op.equalIn,pB (eB ok hu)]
   | some p=>simp only [VR] at hy;obtain ⟨_,_,rfl⟩:=hy;simp [Op.equalIn,pB (eB ok hu)]
  case h_12 hu=>
   simp only [VR] at hx hy;subst hy;obtain ⟨_,_,rfl⟩:=hx;simp at hb;subst hb;simp [Op.equalIn,pB (eB ok hu)]
  case h_13 hu=>simp only [VR] at hx hy;subst hx hy;simp at hb;subst hb;simp [Op.equalIn,pB (eB ok hu)]
  case h_14 hu=>simp only [VR] at hx hy;subst hx;obtain ⟨_,_,rfl,_⟩:=hy;simp at hb;subst hb;simp [Op.equalIn,pB (eB ok hu)]
  case h_15 hu=>simp only [VR] at hx hy;subst hy;obtain ⟨_,_,rfl,_⟩:=hx;simp at hb;subst hb;simp [Op.equalIn,pB (eB ok hu)]
  case h_16 len e xs ys hu=>
   simp only [VR] at hx hy;obtain ⟨xs',rfl,hx⟩:=hx;obtain ⟨ys',rfl,hy⟩:=hy
   cases hs:E.size e with
   | none=>simp [hs] at hb
   | some n=>
    simp only [hs] at hb;obtain ⟨i,hi,_,hc⟩:=kV ok hs;rw [run_equalIn_array w D xs' ys' (eB ok hu) hi,hc,List.range_eq_range'];have key:∀ (len k:Nat),oAj E (eqA E d e) e n len (xs.drop (k * n)) (ys.drop (k * n))=some b->(Op.eqItems D e n xs' ys' (List.range' k len)).run P w=.ok b w:=by
     intro len
     induction len with
     | zero=>intro k hk;simp [oAj] at hk;subst hk;simp [Op.eqItems]
     | succ len ihl=>
      intro k hk;simp only [oAj,bAk] at hk
      cases h1:eO E e xs (k * n) with
      | none=>simp [h1] at hk
      | some a=>
       cases h2:eO E e ys (k * n) with
       | none=>simp [h1,h2] at hk
       | some c=>
        simp only [h1,h2] at hk;obtain ⟨a',ha,hra⟩:=uH (w:=w) ok hx h1;obtain ⟨c',hc',hrc⟩:=uH (w:=w) ok hy h2
        cases h3:eqA E d e a c with
        | none=>simp [h3] at hk
        | some r=>
         have:=ih e a c a' c' r h3 hra hrc D hD'
         simp only [List.range'_succ,Op.eqItems,Sem.run_bind,ha,hc',this,Result.andThen_ok]
         cases r with
         | false=>simp_all
         | true=>
          simp only [h3,List.drop_drop] at hk
          grind
    grind
  case h_17 fs xs ys hu=>
   simp only [VR] at hx hy;obtain ⟨xs',rfl,hx⟩:=hx;obtain ⟨ys',rfl,hy⟩:=hy
   cases hc:E.cmp t with
   | false=>simp [hc] at hb
   | true=>
    simp only [hc,cond_true] at hb;have hfs:P.fieldsOf t=fs:=by grind [Program.fieldsOf,eB]
    rw [run_equalIn_struct w D t xs' ys' (by rw [hfs];exact eB ok hu) (ok.cmp t hc).1,hfs];generalize fs.toList=l at hb
    induction l with
    | nil=>simp [eqFields] at hb;subst hb;simp [Op.eqFields]
    | cons f l ihl=>
     simp only [eqFields] at hb
     split at hb
     ·simp at hb
     ·rename_i hname
      cases h1:eO E f.type xs f.offset with
      | none=>simp [h1] at hb
      | some a=>
       cases h2:eO E f.type ys f.offset with
       | none=>simp [h1,h2] at hb
       | some c=>
        simp only [h1,h2] at hb;obtain ⟨a',ha,hra⟩:=uH (w:=w) ok hx h1;obtain ⟨c',hc',hrc⟩:=uH (w:=w) ok hy h2
        cases h3:eqA E d f.type a c with
        | none=>simp [h3] at hb
        | some r=>
         have:=ih f.type a c a' c' r h3 hra hrc D hD'
         simp only [Op.eqFields,ne_eq,hname,not_false_eq_true,if_true,Sem.run_bind,ha,hc',this,Result.andThen_ok]
         cases r with
         | false=>simp_all
         | true=>grind
  case h_18=>simp at hb
end
end Ai
namespace Ai
section
variable {E:Env} {P:Program} {μ:Mu} {h:Heap} {w:World}
def PV (P:Program) (s:Sem Value) (w:World) (μ:Mu) (x:AV):Prop:=∃ u,s.run P w=.ok u w/\VR μ x u
theorem wAp {op:UnOp} {v x:AV} {u:Value} (hx:unA op v=some x) (hv:VR μ v u):PV P (Op.unary op u) w μ x:=by
 unfold unA at hx
 split at hx
 ·simp only [VR] at hv;subst hv;simp at hx;subst hx
  exact ⟨_,rfl,by simp only [VR,uM,Int.zero_sub]⟩
 ·simp only [VR] at hv;subst hv
  exact nZ (P:=P) (w:=w) hx
 ·simp only [VR] at hv;subst hv;simp at hx;subst hx
  exact ⟨_,rfl,by simp only [VR]⟩
 ·simp at hx
theorem oAh {op:BinOp} {t:TypeId} {xo yo:Operand} {k k':IntKind} {a b:Int} {x:AV} (hx:fAv op k k' a b=some x) :
  PV P (do eqGuard op t xo yo (.int k a) (.int k' b);binOp op t (.int k a) (.int k' b)) w μ x:=by
 have hg:(eqGuard op t xo yo (.int k a) (.int k' b)).run P w=.ok () w:=by cases op <;> rfl
 unfold fAv at hx
 split at hx
 ·obtain ⟨y,h1,h2⟩:=jV (P:=P) (w:=w) (μ:=μ) (yk:=k') hx
  exact ⟨y,by grind [Sem.run_bind,Result.andThen_ok,binOp],h2⟩
 ·obtain ⟨y,h1,h2⟩:=jV (P:=P) (w:=w) (μ:=μ) (yk:=k') hx
  exact ⟨y,by grind [Sem.run_bind,Result.andThen_ok,binOp],h2⟩
 ·rename_i op n1 n2
  cases hk:nJ k k' with
  | false=>simp [hk] at hx
  | true=>
   simp only [hk,cond_true] at hx
   have:k=k':=by simpa [nJ] using hk
   subst this;obtain ⟨y,h1,h2⟩:=kA6 (P:=P) (w:=w) (μ:=μ) (fun e=>n1 e) (fun e=>n2 e) hx t;exact ⟨y,by simp_all,h2⟩
theorem pAh {op:BinOp} {t:TypeId} {xo yo:Operand} {a b:List UInt8} {x:AV} (hx:rA op a b=some x) :
  PV P (do eqGuard op t xo yo (.string ⟨a.toArray⟩) (.string ⟨b.toArray⟩);binOp op t (.string ⟨a.toArray⟩) (.string ⟨b.toArray⟩)) w μ x:=by
 have hg:(eqGuard op t xo yo (.string ⟨a.toArray⟩) (.string ⟨b.toArray⟩)).run P w=.ok () w:=by cases op <;> rfl
 obtain ⟨y,h1,h2⟩:=lA6 (P:=P) (w:=w) (μ:=μ) hx;refine ⟨y,?_,h2⟩;simp only [Sem.run_bind,hg,Result.andThen_ok]
 have:∀ op (s s':ByteArray),op≠.shl->op≠.shr->binOp op t (.string s) (.string s')=Op.stringOp op s s':=by intro op s s' h1 h2;cases op <;> first | rfl | exact absurd rfl h1 | exact absurd rfl h2
 rw [this]
 ·exact h1
 ·rintro rfl;simp [rA] at hx
 ·rintro rfl;simp [rA] at hx
theorem VR.ptr_form {p:Option (Nat×Nat)} {v:Value} (hv:VR μ (.ptr p) v):∃ p',v=.pointer p':=by
 cases p with
 | none=>simp only [VR] at hv;exact ⟨_,hv⟩
 | some q=>obtain ⟨A,o⟩:=q;simp only [VR] at hv;grind
theorem VR.slice_form {p:Option (Nat×Nat)} {len cap sz:Nat} {v:Value} (hv:VR μ (.slice p len cap sz) v):∃ p' c,v=.slice p' len c:=by
 cases p with
 | none=>simp only [VR] at hv;grind
 | some q=>obtain ⟨A,o⟩:=q;simp only [VR] at hv;grind
theorem VR.map_form {p:Option Nat} {v:Value} (hv:VR μ (.map p) v):∃ p',v=.map p':=by
 cases p with
 | none=>simp only [VR] at hv;exact ⟨_,hv⟩
 | some q=>simp only [VR] at hv;grind
theorem mA6 (ok:EnvOK E P) {t:TypeId} {xo yo:Operand} {v u:AV} {a b:Value} {r:Bool} (hx:gAp E t xo yo v u=some r) (hv:VR μ v a) (hu:VR μ u b) :
  (eqGuard .eql t xo yo a b).run P w=.ok () w/\(eqGuard .neq t xo yo a b).run P w=.ok () w/\(binOp .eql t a b).run P w=.ok (.bool r) w/\(binOp .neq t a b).run P w=.ok (.bool (!r)) w:=by
 have eqs:∀ r,eqA E 9 t v u=some r->(Op.equal t a b).run P w=.ok r w:=fun r hr=>cAk ok 9 t v u a b r hr hv hu 10000 (by omega);unfold gAp at hx
 split at hx
 ·simp only [VR] at hv hu;subst hv hu
  cases hc:(pM xo||pM yo) with
  | false=>simp [hc] at hx
  | true=>
   simp only [hc,cond_true] at hx;have he:=eqs r hx;refine ⟨?_,?_,?_,?_⟩
   ·cases xo <;> cases yo <;> first | (simp [pM] at hc;done) | rfl
   ·cases xo <;> cases yo <;> first | (simp [pM] at hc;done) | rfl
   ·simp [binOp,he]
   ·simp [binOp,he]
 ·rename_i xs ys
  cases hc:E.cmp t with
  | false=>simp [hc] at hx
  | true=>
   simp only [hc,cond_true] at hx;have he:=eqs r hx;simp only [VR] at hv hu;obtain ⟨xs',rfl,_⟩:=hv;obtain ⟨ys',rfl,_⟩:=hu;exact ⟨run_eqGuard_agg w _ t xo yo xs' ys' (ok.cmp t hc).2,run_eqGuard_agg w _ t xo yo xs' ys' (ok.cmp t hc).2,by simp [binOp,he],by simp [binOp,he]⟩
 ·cases hp:pAj v u with
  | false=>simp [hp] at hx
  | true=>
   simp only [hp,cond_true] at hx;have he:=eqs r hx
   clear hx eqs
   cases v <;> cases u <;> simp [pAj] at hp
   case bool.bool=>simp only [VR] at hv hu;subst hv hu;exact ⟨rfl,rfl,by simp [binOp,he],by simp [binOp,he]⟩
   case ptr.ptr=>obtain ⟨p',rfl⟩:=hv.ptr_form;obtain ⟨q',rfl⟩:=hu.ptr_form;exact ⟨rfl,rfl,by simp [binOp,he],by simp [binOp,he]⟩
   case slice.slice=>obtain ⟨p',c,rfl⟩:=hv.slice_form;obtain ⟨q',c',rfl⟩:=hu.slice_form;exact ⟨rfl,rfl,by simp [binOp,he],by simp [binOp,he]⟩
   case map.map=>obtain ⟨p',rfl⟩:=hv.map_form;obtain ⟨q',rfl⟩:=hu.map_form;exact ⟨rfl,rfl,by simp [binOp,he],by simp [binOp,he]⟩
   case iface.iface=>simp only [VR] at hv hu;obtain ⟨_,rfl,_⟩:=hv;obtain ⟨_,rfl,_⟩:=hu;exact ⟨rfl,rfl,by simp [binOp,he],by simp [binOp,he]⟩
   case iface.nilIface=>simp only [VR] at hv hu;obtain ⟨_,rfl,_⟩:=hv;subst hu;exact ⟨rfl,rfl,by simp [binOp,he],by simp [binOp,he]⟩
   case nilIface.iface=>simp only [VR] at hv hu;obtain ⟨_,rfl,_⟩:=hu;subst hv;exact ⟨rfl,rfl,by simp [binOp,he],by simp [binOp,he]⟩
   case nilFunc.nilFunc=>simp only [VR] at hv hu;subst hv hu;exact ⟨rfl,rfl,by simp [binOp,he],by simp [binOp,he]⟩
   case nilFunc.func=>simp only [VR] at hv hu;obtain ⟨_,_,rfl,_⟩:=hu;subst hv;exact ⟨rfl,rfl,by simp [binOp,he],by simp [binOp,he]⟩
   case func.nilFunc=>simp only [VR] at hv hu;obtain ⟨_,_,rfl,_⟩:=hv;subst hu;exact ⟨rfl,rfl,by simp [binOp,he],by simp [binOp,he]⟩
theorem dAk (ok:EnvOK E P) {op:BinOp} {t:TypeId} {xo yo:Operand} {v u x:AV} {a b:Value} (hx:oA9 E op t xo yo v u=some x) (hv:VR μ v a) (hu:VR μ u b) :
  PV P (do eqGuard op t xo yo a b;binOp op t a b) w μ x:=by
 unfold oA9 at hx
 split at hx
 ·grind [VR,oAh]
 ·grind [VR,pAh]
 ·unfold kB0 at hx
  split at hx
  ·cases hc:gAp E t xo yo v u with
   | none=>simp [hc] at hx
   | some r=>
    simp [hc] at hx;subst hx;obtain ⟨h1,_,h3,_⟩:=mA6 (w:=w) ok hc hv hu;exact ⟨.bool r,by simp_all,by simp only [VR]⟩
  ·cases hc:gAp E t xo yo v u with
   | none=>simp [hc] at hx
   | some r=>
    simp [hc] at hx;subst hx;obtain ⟨_,h1,_,h3⟩:=mA6 (w:=w) ok hc hv hu;exact ⟨.bool (!r),by simp_all,by simp only [VR]⟩
  ·simp at hx
theorem cR {v:AV} {n:Nat} (h:lT v=some n):∃ k,v=.int k n:=by
 unfold lT at h
 split at h <;> simp at h
 simp_all
theorem eAk {v:Value} {k:IntKind} {n lim:Nat} (c:BoundsCode) (hv:v=.int k n) (hn:n<=lim):(Instr.sliceBound v lim c).run P w=.ok n w:=by
 subst hv;have h1:(0:Int)<=(n:Int)/\(n:Int)<=(lim:Int):=by omega
 simp [Instr.sliceBound,asIntOf,h1]
def OR (μ:Mu):Option AV->Option Value->Prop
 | none,none=>True
 | some v,some u=>VR μ v u
 | _,_=>False
theorem lV {x:Option AV} {x':Option Value} {lim lim' dflt n:Nat} (c:BoundsCode) (hr:OR μ x x') (hl:lim<=lim') (hb:yD x lim dflt=some n) :
  (∀ u,x'=some u->(Instr.sliceBound u lim' c).run P w=.ok n w)/\(x'=none->n=dflt)/\(x=none->n=dflt)/\(x≠none->n<=lim):=by
 cases x with
 | none=>
  cases x' with
  | none=>simp [yD] at hb;grind
  | some u=>exact hr.elim
 | some v=>
  cases x' with
  | none=>exact hr.elim
  | some u=>
   simp only [OR] at hr;simp only [yD] at hb
   cases hn:lT v with
   | none=>simp [hn] at hb
   | some m=>
    simp only [hn] at hb
    cases hbb:Nat.ble m lim with
    | false=>simp [hbb] at hb
    | true=>
     simp [hbb] at hb;subst hb;have hle:m<=lim:=by simpa using hbb
     obtain ⟨k,rfl⟩:=cR hn
     grind [VR,eAk]
theorem rI {isS:Bool} {lo hi:Option AV} {lo' hi':Option Value} {len cap cap' hN lN:Nat} (hlo:OR μ lo lo') (hhi:OR μ hi hi')
  (hcap:cap<=cap') (hlen:len<=cap) (h1:yD hi cap len=some hN) (h2:yD lo hN 0=some lN) :
  (Instr.sliceBounds isS len cap' lo' hi' none).run P w=.ok (lN,hN,cap') w/\hN<=cap/\lN<=hN:=by
 obtain ⟨a1,a0,a2,a3⟩:=lV (P:=P) (w:=w) (if isS then BoundsCode.sliceAcap else .sliceAlen) hhi hcap h1;obtain ⟨b1,b0,b2,b3⟩:=lV (P:=P) (w:=w) BoundsCode.sliceB hlo (Nat.le_refl hN) h2;have hh:hN<=cap:=by
  grind
 have hl:lN<=hN:=by
  grind
 refine ⟨?_,hh,hl⟩;unfold Instr.sliceBounds
 cases hi' with
 | none=>
  have e:=a0 rfl;subst e
  cases lo' with
  | none=>simp_all
  | some v=>simp [b1 v rfl]
 | some u=>
  cases lo' with
  | none=>simp_all
  | some v=>simp_all
end
end Ai
namespace Ai
section
variable {E:Env} {P:Program} {μ:Mu} {h:Heap} {w:World}
theorem dS (s:List UInt8) (l n:Nat):(⟨s.toArray⟩:ByteArray).extract l n=⟨((s.take n).drop l).toArray⟩:=by
 apply ByteArray.ext
 grind [ByteArray.data_extract,List.drop_take]
theorem uN (ok:EnvOK E P) (hr:HR μ h w) {n A off:Nat} {e:TypeId} {lo hi:Option AV} {lo' hi':Option Value} {l:Loc} {x:AV} (hA:μ A=some l) (hlo:OR μ lo lo') (hhi:OR μ hi hi')
  (hx:vT E h n e A off lo hi=some x) :
  ∃ lN hN sz,(Instr.sliceBounds false n n lo' hi' none).run P w=.ok (lN,hN,n) w/\(sizeOf e).run P w=.ok sz w/\
   VR μ x (.slice (some (if n=lN then ⟨l.b,l.sh+off,none⟩ else (⟨l.b,l.sh+off,none⟩:Addr).add (lN * sz))) (hN-lN) (n-lN)):=by
 unfold vT at hx
 cases hs:E.size e with
 | none=>simp [hs] at hx
 | some sz=>
  simp only [hs] at hx
  cases hrow:h.row A with
  | none=>simp [hrow] at hx
  | some cs=>
   simp only [hrow] at hx
   cases hb:Nat.ble (off+n * sz) cs.length with
   | false=>simp [hb] at hx
   | true=>
    simp only [hb,cond_true] at hx;have hb':off+n * sz<=cs.length:=by simpa using hb
    have hfit:=(hr.row hA hrow).fits
    cases h1:yD hi n n with
    | none=>simp [h1] at hx
    | some hN=>
     simp only [h1] at hx
     cases h2:yD lo hN 0 with
     | none=>simp [h2] at hx
     | some lN=>
      simp only [h2,Option.some.injEq] at hx;subst hx;obtain ⟨b1,b2,b3⟩:=rI (P:=P) (w:=w) (isS:=false) hlo hhi (Nat.le_refl n) (Nat.le_refl n) h1 h2;refine ⟨lN,hN,sz,b1,fC ok hs,?_⟩;simp only [VR];refine ⟨l,_,_,hA,rfl,by omega,?_⟩
      by_cases hn:n=lN
      ·grind
      ·right
       rw [if_neg hn,kF];refine ⟨by rw [Nat.add_assoc],Nat.le_refl _,?_,fun _=>rfl⟩
       have:lN * sz+(n-lN) * sz=n * sz:=by rw [<- Nat.add_mul];congr 1;omega
       omega
theorem wA9 (ok:EnvOK E P) (hr:HR μ h w) {t:TypeId} {v x:AV} {u:Value} {lo hi:Option AV} {lo' hi':Option Value} (hlo:OR μ lo lo') (hhi:OR μ hi hi') (hv:VR μ v u)
  (hx:nE E h t v lo hi=some x):PV P (Instr.sliceAt t u lo' hi' none) w μ x:=by
 unfold nE at hx
 split at hx
 ·rename_i s hu
  simp only [VR] at hv;subst hv
  cases h1:yD hi s.length s.length with
  | none=>simp [h1] at hx
  | some hN=>
   simp only [h1] at hx
   cases h2:yD lo hN 0 with
   | none=>simp [h2] at hx
   | some lN=>
    simp only [h2,Option.some.injEq] at hx;subst hx;obtain ⟨b1,b2,b3⟩:=rI (P:=P) (w:=w) (isS:=false) hlo hhi (Nat.le_refl s.length) (Nat.le_refl s.length) h1 h2;have hsz:(⟨s.toArray⟩:ByteArray).size=s.length:=rfl;refine ⟨.string ((⟨s.toArray⟩:ByteArray).extract lN hN),?_,?_⟩
    ·simp only [Instr.sliceAt,Sem.run_bind,pB (eB ok hu),Result.andThen_ok,Instr.slice,Option.isSome_none,Bool.false_eq_true,if_false,hsz,b1]
     rfl
    ·simp only [VR];rw [dS]
 ·rename_i e len cap sz hu
  simp only [VR] at hv;obtain ⟨rfl,rfl,rfl⟩:=hv
  cases hs:E.size e with
  | none=>simp [hs] at hx
  | some n=>
   simp only [hs] at hx
   cases h1:yD hi 0 0 with
   | none=>simp [h1] at hx
   | some hN=>
    simp only [h1] at hx
    cases h2:yD lo hN 0 with
    | none=>simp [h2] at hx
    | some lN=>
     simp only [h2,Option.some.injEq] at hx;subst hx;obtain ⟨b1,b2,b3⟩:=rI (P:=P) (w:=w) (isS:=true) hlo hhi (Nat.le_refl 0) (Nat.le_refl 0) h1 h2;have e1:hN=0:=by omega
     have e2:lN=0:=by omega
     subst e1 e2;refine ⟨.slice none 0 0,?_,by simp [VR]⟩;simp only [Instr.sliceAt,Sem.run_bind,pB (eB ok hu),Result.andThen_ok,Instr.slice,b1,fC ok hs];rfl
 ·rename_i e A off len cap sz hu
  cases hs:E.size e with
  | none=>simp [hs] at hx
  | some n=>
   simp only [hs] at hx
   cases hn:Nat.beq n sz with
   | false=>simp [hn] at hx
   | true=>
    simp only [hn,cond_true] at hx
    have:n=sz:=Nat.eq_of_beq_eq_true hn
    subst this;simp only [VR] at hv;obtain ⟨l,a',cap',hA,rfl,hlc,hd⟩:=hv;have hcc:cap<=cap':=by grind
    cases h1:yD hi cap len with
    | none=>simp [h1] at hx
    | some hN=>
     simp only [h1] at hx
     cases h2:yD lo hN 0 with
     | none=>simp [h2] at hx
     | some lN=>
      simp only [h2,Option.some.injEq] at hx;subst hx;obtain ⟨b1,b2,b3⟩:=rI (P:=P) (w:=w) (isS:=true) hlo hhi hcc hlc h1 h2;refine ⟨.slice (if cap'=lN then some a' else (some a').map (·.add (lN * n))) (hN-lN) (cap'-lN),?_,?_⟩
      ·simp only [Instr.sliceAt,Sem.run_bind,pB (eB ok hu),Result.andThen_ok,Instr.slice,b1,fC ok hs]
       rfl
      ·simp only [VR]
       by_cases hm:cap'=lN
       ·subst hm
        grind
       ·rcases hd with ⟨h3,h4⟩ | ⟨rfl,h3,h4,h5⟩
        ·omega
        ·refine ⟨l,_,_,hA,by rw [if_neg hm];rfl,by omega,.inr ⟨?_,by omega,?_,?_⟩⟩
         ·grind [Addr.add,kF,Nat.add_assoc]
         ·have:lN * n+(cap'-lN) * n=cap' * n:=by rw [<- Nat.add_mul];congr 1;omega
          omega
         grind
 ·rename_i n e A off hu
  simp only [VR] at hv;obtain ⟨l,hA,rfl⟩:=hv;obtain ⟨lN,hN,sz,b1,b2,b3⟩:=uN ok hr hA hlo hhi hx;exact ⟨_,by simp only [Instr.sliceAt,Sem.run_bind,pB (eB ok hu),Result.andThen_ok,Instr.sureAddr,Sem.run_pure,b1,b2],b3⟩
 ·rename_i arr A off hu
  simp only [VR] at hv;obtain ⟨l,hA,rfl⟩:=hv
  cases hu2:E.und arr with
  | none=>simp [hu2] at hx
  | some d=>
   cases d <;> simp only [hu2,reduceCtorEq] at hx;rename_i n e;obtain ⟨lN,hN,sz,b1,b2,b3⟩:=uN ok hr hA hlo hhi hx;exact ⟨_,by simp only [Instr.sliceAt,Sem.run_bind,pB (eB ok hu),Result.andThen_ok,Instr.slice,asAddr,Sem.run_pure,pB (eB ok hu2),b1,b2],b3⟩
 ·simp at hx
theorem gZ {v x:AV} {u:Value} (hx:pJ v=some x) (hv:VR μ v u) (ρ:Operand->Value) (o:Oper) (y:Operand) (ho:o.op=.nilCheck y) (hy:ρ y=u):(execOp ρ o).run P w=.ok (.value u) w/\VR μ x u:=by
 have hg:x=v:=by
  unfold pJ at hx
  grind
 subst hg;refine ⟨?_,hv⟩;simp only [execOp,ho,hy];unfold pJ at hx
 split at hx
 ·simp at hx
 ·simp at hx
 ·simp at hx
 ·simp at hx
 ·rename_i n1 n2 n3 n4
  cases x with
  | ptr p=>
   cases p with
   | none=>exact absurd rfl n1
   | some q=>obtain ⟨A,o⟩:=q;simp only [VR] at hv;obtain ⟨_,_,rfl⟩:=hv;rfl
  | nilIface=>exact absurd rfl n2
  | nilFunc=>exact absurd rfl n3
  | func fn a b=>
   simp only [VR] at hv;obtain ⟨_,_,rfl,_⟩:=hv
   simp_all
  | bool=>simp only [VR] at hv;subst hv;rfl
  | int=>simp only [VR] at hv;subst hv;rfl
  | str=>simp only [VR] at hv;subst hv;rfl
  | slice p=>obtain ⟨_,_,rfl⟩:=hv.slice_form;rfl
  | map p=>obtain ⟨_,rfl⟩:=hv.map_form;rfl
  | iface=>simp only [VR] at hv;obtain ⟨_,rfl,_⟩:=hv;rfl
  | agg=>simp only [VR] at hv;obtain ⟨_,rfl,_⟩:=hv;rfl
  | tuple=>simp only [VR] at hv;obtain ⟨_,rfl,_⟩:=hv;rfl
theorem dP (ok:EnvOK E P) {t:TypeId} {f:Nat} {fd:Field} (hf:E.fieldAt t f=some fd):∃ fs:Array Field,P.underlying t=some (.struct fs)/\fs[f]? = some fd:=by
 grind [Env.fieldAt,eB]
theorem mV (ok:EnvOK E P) {s:TypeId} {v x:AV} {u:Value} {f:Nat} (hv:VR μ v u) (hx:qM E s v f=some x):PV P (Instr.fieldAt s u f) w μ x:=by
 unfold qM at hx
 split at hx
 ·rename_i A off
  simp only [VR] at hv;obtain ⟨l,hA,rfl⟩:=hv
  cases hf:E.fieldAt s f with
  | none=>simp [hf] at hx
  | some fd=>
   simp only [hf] at hx;obtain ⟨fs,hu,hfs⟩:=dP ok hf
   cases hs:E.size fd.type with
   | none=>simp [hs] at hx
   | some n=>
    cases n with
    | zero=>simp [hs] at hx
    | succ n=>
     simp only [hs,Option.some.injEq] at hx;subst hx;refine ⟨.pointer (some ⟨l.b,l.sh+off+fd.offset,none⟩),?_,?_⟩
     ·simp [Instr.fieldAt,pB hu,hfs,Instr.sureAddr,fieldPlace,fC ok hs,kF]
     grind [VR,Nat.add_assoc]
 ·simp at hx
theorem yA9 (ok:EnvOK E P) {t:TypeId} {v x:AV} {u:Value} {f:Nat} (hv:VR μ v u) (hx:jAe E t v f=some x):PV P (Instr.field t u f) w μ x:=by
 unfold jAe at hx
 split at hx
 ·simp only [VR] at hv
  obtain ⟨cs',rfl,hv⟩:=hv
  cases hf:E.fieldAt t f with
  | none=>simp [hf] at hx
  | some fd=>
   simp only [hf] at hx;obtain ⟨fs,hu,hfs⟩:=dP ok hf;obtain ⟨y,h1,h2⟩:=uH (w:=w) ok hv hx;exact ⟨y,by simp [Instr.field,pB hu,hfs,asAgg,h1],h2⟩
 ·simp at hx
theorem nV (ok:EnvOK E P) {t:TypeId} {v ix x:AV} {u iu:Value} (hv:VR μ v u) (hi:VR μ ix iu) (hx:oJ E t v ix=some x):PV P (Instr.indexAt t u iu) w μ x:=by
 unfold oJ at hx
 cases hn:lT ix with
 | none=>simp [hn] at hx
 | some i=>
  simp only [hn] at hx;obtain ⟨k,rfl⟩:=cR hn;simp only [VR] at hi;subst hi
  split at hx
  ·rename_i len e A off hu
   simp only [VR] at hv;obtain ⟨l,hA,rfl⟩:=hv
   cases hs:E.size e with
   | none=>simp [hs] at hx
   | some n=>
    simp only [hs] at hx
    cases hb:Nat.blt i len with
    | false=>simp [hb] at hx
    | true=>
     simp [hb] at hx;subst hx;have hlt:i<len:=by simp_all
     have hcond:(0:Int)<=(i:Int)/\(i:Int)<(len:Int):=by omega
     refine ⟨.pointer (some ⟨l.b,l.sh+off+i * n,none⟩),?_,?_⟩
     ·simp [Instr.indexAt,asIntOf,pB (eB ok hu),Instr.sureAddr,hcond,hlt,fC ok hs,kF]
     grind [VR,Nat.add_assoc]
  ·rename_i e A off len cap sz hu
   simp only [VR] at hv;obtain ⟨l,a',cap',hA,rfl,hlc,hd⟩:=hv
   cases hs:E.size e with
   | none=>simp [hs] at hx
   | some n=>
    simp only [hs] at hx
    cases hb:Nat.blt i len with
    | false=>simp [hb] at hx
    | true=>
     simp [hb] at hx;subst hx;have hlt:i<len:=by simp_all
     have hcond:(0:Int)<=(i:Int)/\(i:Int)<(len:Int):=by omega
     rcases hd with ⟨h1,h2⟩ | ⟨rfl,_⟩
     ·omega
     ·refine ⟨.pointer (some ⟨l.b,l.sh+off+i * n,none⟩),?_,?_⟩
      ·simp [Instr.indexAt,asIntOf,pB (eB ok hu),hcond,hlt,fC ok hs,kF]
      grind [VR,Nat.add_assoc]
  ·simp at hx
theorem aAa (ok:EnvOK E P) {t:TypeId} {v ix x:AV} {u iu:Value} (hv:VR μ v u) (hi:VR μ ix iu) (hx:bA6 E t v ix=some x):PV P (Instr.index t u iu) w μ x:=by
 unfold bA6 at hx
 cases hn:lT ix with
 | none=>simp [hn] at hx
 | some i=>
  simp only [hn] at hx;obtain ⟨k,rfl⟩:=cR hn;simp only [VR] at hi;subst hi
  split at hx
  ·rename_i len e cs hu
   simp only [VR] at hv;obtain ⟨cs',rfl,hv⟩:=hv
   cases hs:E.size e with
   | none=>simp [hs] at hx
   | some n=>
    simp only [hs] at hx
    cases hb:Nat.blt i len with
    | false=>simp [hb] at hx
    | true=>
     simp only [hb,cond_true] at hx;have hlt:i<len:=by simp_all
     have hcond:(0:Int)<=(i:Int)/\(i:Int)<(len:Int):=by omega
     obtain ⟨y,h1,h2⟩:=uH (w:=w) ok hv hx;exact ⟨y,by simp [Instr.index,asIntOf,pB (eB ok hu),hcond,hlt,fC ok hs,h1],h2⟩
  ·rename_i s hu
   simp only [VR] at hv;subst hv
   cases hg:s[i]? with
   | none=>simp [hg] at hx
   | some b=>
    simp [hg] at hx;subst hx;refine ⟨.int .u8 b.toNat,?_,by simp only [VR]⟩;have hg':(⟨s.toArray⟩:ByteArray)[i]? = some b:=by
     obtain ⟨hlt,hb⟩:=List.getElem?_eq_some_iff.1 hg;rw [getElem?_pos (⟨s.toArray⟩:ByteArray) i (by show i<s.toArray.size;simpa using hlt)]
     congr 1
    simp [Instr.index,asIntOf,pB (eB ok hu),hg']
  ·simp at hx
end
end Ai
namespace Ai
section
variable {E:Env} {P:Program} {μ:Mu} {h:Heap} {w:World}
theorem yAp (off:Nat):∀ (l:List Value) (k:Nat) (cs:Array Value),
  ((l.zipIdx k).foldl (fun (cs:Array Value) (p:Value×Nat)=>cs.setIfInBounds (off+p.2) p.1) cs).size=cs.size/\
  ∀ i,((l.zipIdx k).foldl (fun (cs:Array Value) (p:Value×Nat)=>cs.setIfInBounds (off+p.2) p.1) cs)[i]? = if off+k<=i/\i<off+k+l.length/\i<cs.size then l[i-(off+k)]? else cs[i]?:=by
 intro l
 induction l with
 | nil=>intro k cs;refine ⟨rfl,fun i=>?_⟩;rw [if_neg (by simp;omega)];rfl
 | cons v l ih=>
  intro k cs;simp only [List.zipIdx_cons,List.foldl_cons]
  grind
theorem VRs.toArray_iff {cs:List AV} {cs':Array Value}:VRs μ cs cs'.toList↔cs'.size=cs.length/\∀ (i:Nat) (x:AV),cs[i]? = some x->∃ y,cs'[i]? = some y/\VR μ x y:=by
 constructor
 ·intro h
  exact ⟨by simpa using h.length,fun i x hx=>by obtain ⟨y,h1,h2⟩:=h.get hx;grind⟩
 grind [VRs.of]
def PR (μ:Mu):List (Nat×AV)->List (Nat×Value)->Prop
 | [],l=>l=[]
 | (i,x)::r,l=>∃ y r',l=(i,y)::r'/\VR μ x y/\PR μ r r'
theorem rJ {place:Nat->Option (Nat×Nat)}:∀ {parts:List (Nat×AV)} {parts':List (Nat×Value)} {cs xs:List AV} {cs':Array Value},PR μ parts parts'->VRs μ cs cs'.toList->cV place cs parts=some xs->
  ∃ xs',Instr.fill place cs' parts'=some xs'/\VRs μ xs xs'.toList/\xs.length=cs.length
 | [],parts',cs,xs,cs',hp,hc,hx=>by
  simp only [PR] at hp;subst hp;simp [cV] at hx;subst hx;exact ⟨cs',rfl,hc,rfl⟩
 | (i,v)::r,parts',cs,xs,cs',hp,hc,hx=>by
  simp only [PR] at hp;obtain ⟨u,r',rfl,hv,hr⟩:=hp;simp only [cV] at hx
  cases hpl:place i with
  | none=>simp [hpl] at hx
  | some q=>
   obtain ⟨off,size⟩:=q;simp only [hpl] at hx
   cases hb:(Nat.beq v.cells.length size&&Nat.ble (off+size) cs.length) with
   | false=>simp [hb] at hx
   | true=>
    simp only [hb,cond_true] at hx;simp only [Bool.and_eq_true] at hb;have hb1:v.cells.length=size:=Nat.eq_of_beq_eq_true hb.1;have hb2:off+size<=cs.length:=by simpa using hb.2
    cases ho:over off cs v.cells with
    | none=>simp [ho] at hx
    | some cs2=>
     simp only [ho] at hx;obtain ⟨o1,o2,o3,o4,o5⟩:=bP ho;have hvc:=hv.cells;have hul:u.cells.size=size:=by have:=hvc.length;simpa [hb1] using this
     have hcs:cs'.size=cs.length:=by simpa using hc.length
     have hcond:¬ (u.cells.size≠size\/off+u.cells.size > cs'.size):=by omega
     have hfold:=yAp off u.cells.toList 0 cs';have heq:(u.cells.zipIdx.foldl (fun (cs:Array Value) (p:Value×Nat)=>cs.setIfInBounds (off+p.2) p.1) cs')=((u.cells.toList.zipIdx 0).foldl (fun (cs:Array Value) (p:Value×Nat)=>cs.setIfInBounds (off+p.2) p.1) cs'):=by
      rw [<- Array.foldl_toList];simp
     have hc2:VRs μ cs2 (u.cells.zipIdx.foldl (fun (cs:Array Value) (p:Value×Nat)=>cs.setIfInBounds (off+p.2) p.1) cs').toList:=by
      rw [heq];rw [VRs.toArray_iff];refine ⟨by rw [hfold.1,o1,hcs],fun j x hj=>?_⟩;rw [hfold.2];have hjl:j<cs2.length:=(List.getElem?_eq_some_iff.1 hj).1;have hlen:u.cells.toList.length=size:=by simpa using hul
      by_cases c1:j<off
      ·rw [if_neg (by omega)];grind [VRs.toArray_iff]
      ·by_cases c2:off+v.cells.length<=j
       ·rw [if_neg (by omega)];grind [VRs.toArray_iff]
       ·rw [if_pos (by omega)]
        obtain ⟨m,rfl⟩:∃ m,j=off+m:=⟨j-off,by omega⟩;rw [o4 m (by omega)] at hj;obtain ⟨y,h1,h2⟩:=hvc.get hj
        grind
     obtain ⟨xs',h1,h2,h3⟩:=rJ hr hc2 hx;refine ⟨xs',?_,h2,by rw [h3,o1]⟩;simp only [Instr.fill,hpl]
     grind
theorem eS (ok:EnvOK E P):∀ {fs:List Field} {l:List (Nat×Nat)},dO E fs=some l->
  (fs.mapM (fun f=>do pure (f.offset,<- sizeOf f.type):Field->Sem (Nat×Nat))).run P w=.ok l w
 | [],l,h=>by simp [dO] at h;subst h;rfl
 | f::r,l,h=>by
  simp only [dO] at h
  cases hs:E.size f.type with
  | none=>simp [hs] at h
  | some n=>
   simp only [hs] at h
   cases hp:dO E r with
   | none=>simp [hp] at h
   | some l'=>
    simp [hp] at h;subst h
    have:=eS ok hp
    simp only [List.mapM_cons,Sem.run_bind,fC ok hs,Result.andThen_ok,Sem.run_pure,this]
theorem bAa (ok:EnvOK E P) {t:TypeId} {parts:List (Nat×AV)} {parts':Array (Nat×Value)} {x:AV} (hp:PR μ parts parts'.toList) (hx:mAj E t parts=some x):PV P (Instr.build t parts') w μ x:=by
 unfold mAj at hx
 cases hz:E.zero t with
 | none=>simp [hz] at hx
 | some z=>
  simp only [hz] at hx;obtain ⟨zv,hzr,hzv⟩:=tE ok hz;have hzc:=(hzv μ).cells
  split at hx
  ·rename_i fs hu
   cases hl:dO E fs.toList with
   | none=>simp [hl] at hx
   | some l=>
    simp only [hl] at hx
    cases hf:cV (fun i=>l[i]?) z.cells parts with
    | none=>simp [hf] at hx
    | some cs=>
     simp [hf] at hx;subst hx;obtain ⟨xs',h1,h2,_⟩:=rJ hp hzc hf;refine ⟨.agg xs',?_,by simp only [VR];grind⟩;have hm:(fs.mapM (fun f=>do pure (f.offset,<- sizeOf f.type):Field->Sem (Nat×Nat))).run P w=.ok l.toArray w:=by
      rw [Array.mapM_eq_mapM_toList];simp only [Sem.run_map]
      have:=eS (w:=w) ok hl
      rw [this];rfl
     have h1':Instr.fill (fun i=>l.toArray[i]?) zv.cells parts'.toList=some xs':=by
      simp_all
     simp only [Instr.build,Sem.run_bind,hzr,Result.andThen_ok,pB (eB ok hu),hm,h1'];rfl
  ·rename_i n e hu
   cases hs:E.size e with
   | none=>simp [hs] at hx
   | some n=>
    simp only [hs] at hx
    cases hf:cV (fun i=>some (i * n,n)) z.cells parts with
    | none=>simp [hf] at hx
    | some cs=>
     simp [hf] at hx;subst hx;obtain ⟨xs',h1,h2,_⟩:=rJ hp hzc hf;refine ⟨.agg xs',?_,by simp only [VR];grind⟩;simp only [Instr.build,Sem.run_bind,hzr,Result.andThen_ok,pB (eB ok hu),fC ok hs,h1];rfl
  ·simp at hx
theorem kK:∀ (n:Nat) (l:List AV),(nAj n l).length=n * l.length
 | 0,l=>by simp [nAj]
 | n+1,l=>by simp [nAj,kK n l,Nat.succ_mul,Nat.add_comm]
theorem oAe:∀ (n:Nat) (l:List AV) (i:Nat),i<n * l.length->(nAj n l)[i]? = l[i % l.length]?
 | 0,l,i,h=>by simp at h
 | n+1,l,i,h=>by
  simp only [nAj]
  by_cases c:i<l.length
  ·rw [List.getElem?_append_left c,Nat.mod_eq_of_lt c]
  ·rw [List.getElem?_append_right (by omega),oAe n l _ (by grind)]
   grind [Nat.mod_eq_sub_mod]
theorem pV {z:AV} {zv:Value} {n:Nat} (hz:VR μ z zv) :
  VRs μ (nAj n z.cells) ((Array.range (n * z.cells.length)).map (fun i=>zv.cells[i % zv.cells.size]!)).toList:=by
 have hc:=hz.cells
 grind [VRs.toArray_iff,kK,List.getElem?_eq_some_iff,oAe,getElem!_def]
theorem VR.slice_own {A off len cap sz:Nat} {l:Loc} (hA:μ A=some l) (h1:len<=cap) (h2:l.sh+off+cap * sz<=l.tot):VR μ (.slice (some (A,off)) len cap sz) (.slice (some ⟨l.b,l.sh+off,none⟩) len cap):=by
 simp only [VR]
 grind
theorem jE (μ:Mu) (A:Nat) (l:Loc):(μ.add A l) A=some l:=by simp [Mu.add]
def DV (P:Program) (s:Sem Value) (μ:Mu) (h:Heap) (w:World) (x:AV) (h':Heap):Prop:=∃ μ' u w',s.run P w=.ok u w'/\VR μ' x u/\HR μ' h' w'/\Ext μ h w μ' h' w'
theorem PV.dv {s:Sem Value} {x:AV} (hp:PV P s w μ x) (hr:HR μ h w):DV P s μ h w x h:=by
 obtain ⟨u,h1,h2⟩:=hp;exact ⟨μ,u,w,h1,h2,hr,Ext.refl μ h w⟩
theorem fS (hr:HR μ h w) {xs:List AV} {cs:Array Value} {e:TypeId} (hx:VRs μ xs cs.toList):DV P (do pure (.pointer (some (<- newRow e cs)))) μ h w (cO h xs).1 (cO h xs).2:=by
 obtain ⟨l,l1,l2,l3,l4,h1,h2⟩:=hr.pushRow xs cs e hx;refine ⟨_,.pointer (some ⟨w.heap.size,0,none⟩),_,?_,?_,h1,h2⟩
 ·simp only [newRow,Sem.run_bind,run_newObj,Result.andThen_ok,Sem.run_pure];rfl
 grind [cO,VR,jE]
theorem cAa (ok:EnvOK E P) (hr:HR μ h w) {e:TypeId} {z:AV} (hz:E.zero e=some z):DV P (Instr.alloc e true (.tuple #[])) μ h w (cO h z.cells).1 (cO h z.cells).2:=by
 obtain ⟨zv,hzr,hzv⟩:=tE ok hz;obtain ⟨μ',u,w',h1,h2⟩:=fS (P:=P) (e:=e) hr (hzv μ).cells;refine ⟨μ',u,w',?_,h2⟩
 grind [Instr.alloc,Sem.run_bind,Result.andThen_ok,newVar]
theorem nA6 (ok:EnvOK E P) (hr:HR μ h w) {e:TypeId} {z:AV} (hz:E.zero e=some z):DV P (Instr.alloc e true (.tuple #[])) μ h w (.ptr (some (h.next,0))) (h.push (.row z.cells (.ty e))):=by
 obtain ⟨zv,hzr,hzv⟩:=tE ok hz;have hx:=(hzv μ).cells;have hlen:=hx.length;have hle:μ.le (μ.add h.next ⟨w.heap.size,0,z.cells.length,true⟩):=Mu.le_add hr.isNone;have hx':=VRs.mono hle _ _ hx;have hg:(w.alloc (.cells zv.cells e)).heap[w.heap.size]? = some (.cells zv.cells e):=by show (w.heap.push _)[_]? = _;simp
 have hsh:(w.alloc (.cells zv.cells e)).shape? w.heap.size=some (e,z.cells.length):=by
  grind [World.shape?]
 have hp:=hr.push (.cells zv.cells e) (.row z.cells (.ty e)) ⟨w.heap.size,0,z.cells.length,true⟩ rfl
  ⟨⟨⟨⟨e,hsh⟩,by simp,fun i x hi=>by
   obtain ⟨y,hy,hr'⟩:=hx'.get hi
   simp_all⟩,rfl,rfl,rfl,fun i _=>World.frozen?_alloc_new w zv.cells e i⟩,hsh⟩
 refine ⟨_,.pointer (some ⟨w.heap.size,0,none⟩),w.alloc (.cells zv.cells e),?_,?_,hp.1,hp.2⟩
 ·simp [Instr.alloc,Sem.run_bind,hzr,Result.andThen_ok,newVar,newRow]
 ·simp only [VR];exact ⟨_,jE _ _ _,rfl⟩
theorem qAh (hr:HR μ h w) {e:TypeId} {v:AV} {u:Value} (hv:VR μ v u):DV P (Instr.box e u) μ h w (.ptr (some (h.next,0))) (h.push (.row v.cells (.ty e))):=by
 have hx:=hv.cells;have hlen:=hx.length;have hle:μ.le (μ.add h.next ⟨w.heap.size,0,v.cells.length,true⟩):=Mu.le_add hr.isNone;have hx':=VRs.mono hle _ _ hx;have hg:(w.alloc (.cells u.cells e)).heap[w.heap.size]? = some (.cells u.cells e):=by show (w.heap.push _)[_]? = _;simp
 have hsh:(w.alloc (.cells u.cells e)).shape? w.heap.size=some (e,v.cells.length):=by
  grind [World.shape?]
 have hp:=hr.push (.cells u.cells e) (.row v.cells (.ty e)) ⟨w.heap.size,0,v.cells.length,true⟩ rfl
  ⟨⟨⟨⟨e,hsh⟩,by simp,fun i x hi=>by
   obtain ⟨y,hy,hr'⟩:=hx'.get hi
   simp_all⟩,rfl,rfl,rfl,fun i _=>World.frozen?_alloc_new w u.cells e i⟩,hsh⟩
 refine ⟨_,.pointer (some ⟨w.heap.size,0,none⟩),w.alloc (.cells u.cells e),?_,?_,hp.1,hp.2⟩
 ·simp [Instr.box,Result.andThen_ok,newVar,newRow]
 ·simp only [VR];exact ⟨_,jE _ _ _,rfl⟩
theorem fAk (hr:HR μ h w) {e:TypeId} {v:AV} {u:Value} (hv:VR μ v u):DV P (Instr.box e u) μ h w (cO h v.cells).1 (cO h v.cells).2:=by
 obtain ⟨μ',u',w',h1,h2⟩:=fS (P:=P) (e:=e) hr hv.cells;refine ⟨μ',u',w',?_,h2⟩
 grind [Instr.box,newVar]
end
end Ai
namespace Ai
section
variable {E:Env} {P:Program} {μ:Mu} {h:Heap} {w:World}
theorem nT (ok:EnvOK E P) (hr:HR μ h w) {t:TypeId} {len:Nat} {parts:List (Nat×AV)} {parts':Array (Nat×Value)} {x:AV} {h':Heap} (hp:PR μ parts parts'.toList)
  (hx:kG E h t len parts=some (x,h')):DV P (Instr.buildSlice t len parts') μ h w x h':=by
 unfold kG at hx
 split at hx
 ·rename_i e hu
  cases hs:E.size e with
  | none=>simp [hs] at hx
  | some n=>
   simp only [hs] at hx
   cases hz:E.zero e with
   | none=>simp [hz] at hx
   | some z=>
    simp only [hz] at hx;obtain ⟨zv,hzr,hzv⟩:=tE ok hz
    cases hb:(Nat.beq z.cells.length n&&Nat.ble (len * n) 16777216) with
    | false=>simp [hb] at hx
    | true=>
     simp only [hb,cond_true] at hx;simp only [Bool.and_eq_true] at hb;have hb1:z.cells.length=n:=Nat.eq_of_beq_eq_true hb.1;have hb2:len * n<=16777216:=by simpa using hb.2
     subst hb1
     cases hf:cV (fun i=>some (i * z.cells.length,z.cells.length)) (nAj len z.cells) parts with
     | none=>simp [hf] at hx
     | some cs=>
      simp only [hf,Option.some.injEq,Prod.mk.injEq] at hx;obtain ⟨rfl,rfl⟩:=hx;obtain ⟨xs',h1,h2,h3⟩:=rJ hp (pV (n:=len) (hzv μ)) hf;obtain ⟨l,l1,l2,l3,l4,h5,h6⟩:=hr.pushRow cs xs' e h2;have hlim:¬ (len * z.cells.length > 2 ^ 24):=by
       grind
      refine ⟨_,.slice (some ⟨w.heap.size,0,none⟩) len len,_,?_,?_,h5,h6⟩
      ·by_cases h0:len * z.cells.length=0
       ·have hl0:¬ ((0:Nat) > 2 ^ 24):=by decide
        have h1':Instr.fill (fun i=>some (i * z.cells.length,z.cells.length)) #[] parts'.toList=some xs':=by
         grind
        simp only [Instr.buildSlice,Sem.run_bind,pB (eB ok hu),Result.andThen_ok,fC ok hs,h0,hl0,if_false,if_true,Sem.run_pure,show Array.range 0 = #[] from rfl,Array.map_empty,h1',newRow,run_newObj];rfl
       ·simp only [Instr.buildSlice,Sem.run_bind,pB (eB ok hu),Result.andThen_ok,fC ok hs,if_neg hlim,h0,if_false,hzr,Sem.run_pure,h1,newRow,run_newObj]
        rfl
      ·have:=VR.slice_own (μ:=μ.add h.next l) (A:=h.next) (off:=0) (len:=len) (cap:=len) (sz:=z.cells.length) (jE _ _ _) (Nat.le_refl _) (by rw [l2,l3,h3,kK];omega)
       grind
 ·simp at hx
theorem jO:∀ (s:List UInt8),VRs μ (ofBytes s) (s.map fun b=>Value.int .u8 b.toNat)
 | []=>by simp [ofBytes,VRs]
 | b::r=>by simp only [ofBytes,List.map_cons];exact VRs.cons (by simp only [VR]) (jO r)
theorem yE:∀ (s:List UInt8),(ofBytes s).length=s.length
 | []=>rfl
 | b::r=>by simp [ofBytes,yE r]
theorem lK:∀ {l:List AV} {s:List UInt8} {ys:List Value},bJ l=some s->VRs μ l ys->∃ ns:List Int,ys=ns.map (Value.int .u8)/\s=ns.map fun n=>UInt8.ofNat n.toNat
 | [],s,ys,h,hv=>by simp [bJ] at h;subst h;simp only [VRs] at hv;simp_all
 | x::r,s,ys,h,hv=>by
  simp only [VRs] at hv;obtain ⟨y,zs,rfl,hx,hr⟩:=hv;unfold bJ at h
  split at h
  ·simp at *
  ·rename_i n r' he
   cases he
   cases ht:bJ r with
   | none=>simp [ht] at h
   | some s'=>
    simp [ht] at h;subst h;obtain ⟨ns,rfl,rfl⟩:=lK ht hr;simp only [VR] at hx;subst hx;exact ⟨n::ns,rfl,rfl⟩
  ·simp at h
theorem oZ:∀ (ns:List Int) (s:List UInt8),ns.foldl (fun (r:ByteArray) n=>r.push (UInt8.ofNat n.toNat)) ⟨s.toArray⟩=⟨(s++ns.map fun n=>UInt8.ofNat n.toNat).toArray⟩
 | [],s=>by simp
 | n::ns,s=>by
  simp only [List.foldl_cons,List.map_cons]
  have:(⟨s.toArray⟩:ByteArray).push (UInt8.ofNat n.toNat)=⟨(s++[UInt8.ofNat n.toNat]).toArray⟩:=by
   grind [ByteArray.ext,ByteArray.push]
  rw [this,oZ ns];simp
theorem HR.pushGrown (hr:HR μ h w) (xs:List AV) (ys rest:List Value) (e:TypeId) (hx:VRs μ xs ys) :
  ∃ l:Loc,l.b=w.heap.size/\l.sh=0/\l.tot=ys.length+rest.length/\l.ex=false/\
   HR (μ.add h.next l) (h.push (.row xs .grown)) (w.alloc (.cells (ys++rest).toArray e))/\Ext μ h w (μ.add h.next l) (h.push (.row xs .grown)) (w.alloc (.cells (ys++rest).toArray e)):=by
 have hlen:=hx.length;refine ⟨⟨w.heap.size,0,ys.length+rest.length,false⟩,rfl,rfl,rfl,rfl,hr.push _ _ _ rfl ?_⟩;have hle:μ.le (μ.add h.next ⟨w.heap.size,0,ys.length+rest.length,false⟩):=Mu.le_add hr.isNone;have hx':=VRs.mono hle _ _ hx;refine ⟨⟨⟨e,?_⟩,by simp;omega,?_⟩,rfl,?_⟩
 ·have hg:(w.alloc (.cells (ys++rest).toArray e)).heap[w.heap.size]? = some (.cells (ys++rest).toArray e):=by show (w.heap.push _)[_]? = _;simp
  simp only [World.shape?,hg];simp
 ·intro i x hi
  obtain ⟨y,hy,hr'⟩:=hx'.get hi
  grind [World.cell?_alloc_new,List.getElem?_eq_some_iff,List.getElem?_append_left]
 ·intro i _;simp_all
theorem HR.pushBytes (hr:HR μ h w) (xs:List AV) (ys rest:List Value) (e:TypeId) (hx:VRs μ xs ys) :
  ∃ l:Loc,l.b=w.heap.size/\l.sh=0/\l.tot=ys.length+rest.length/\l.ex=false/\
   HR (μ.add h.next l) (h.push (.row xs (.bytes e))) (w.alloc (.cells (ys++rest).toArray e))/\Ext μ h w (μ.add h.next l) (h.push (.row xs (.bytes e))) (w.alloc (.cells (ys++rest).toArray e)):=by
 have hlen:=hx.length;refine ⟨⟨w.heap.size,0,ys.length+rest.length,false⟩,rfl,rfl,rfl,rfl,hr.push _ _ _ rfl ?_⟩;have hle:μ.le (μ.add h.next ⟨w.heap.size,0,ys.length+rest.length,false⟩):=Mu.le_add hr.isNone;have hx':=VRs.mono hle _ _ hx;have hsh:(w.alloc (.cells (ys++rest).toArray e)).shape? w.heap.size=some (e,ys.length+rest.length):=by
  have hg:(w.alloc (.cells (ys++rest).toArray e)).heap[w.heap.size]? = some (.cells (ys++rest).toArray e):=by show (w.heap.push _)[_]? = _;simp
  simp only [World.shape?,hg];simp
 refine ⟨⟨⟨⟨e,?_⟩,by simp;omega,?_⟩,rfl,?_⟩,hsh,rfl⟩
 ·grind
 ·intro i x hi
  obtain ⟨y,hy,hr'⟩:=hx'.get hi
  grind [World.cell?_alloc_new,List.getElem?_eq_some_iff,List.getElem?_append_left]
 ·intro i _;simp_all
theorem eP {b i n:Nat} {e:TypeId} (h:w.shape? b=some (e,n)) (hi:i<n):(w.cell? ⟨b,i,none⟩).isSome:=by
 unfold World.shape? at h;unfold World.cell?
 grind
end
end Ai
namespace Ai
section
variable {E:Env} {P:Program} {μ:Mu} {h:Heap} {w:World}
theorem pZ (bB cap:Nat) (h:cap<bB):Builtin.nextslicecap bB cap<=3 * bB+2000:=by
 grind [Builtin.nextslicecap,Builtin.growBy]
theorem dAa (hr:HR μ h w) {size n:Nat} {x:AV} {u:Value} {new:List AV} (hv:VR μ x u) (hn:jL x=some n) (m:Nat) (hm:m<=n) (hx:wC h size m x=some new) :
  ∃ ys:List Value,(∀ w':World,w'.heap=w.heap->(Builtin.firstCells size m u).run P w'=.ok ys.toArray w')/\VRs μ new ys/\(Builtin.lenOf u).run P w=.ok n w:=by
 unfold wC at hx
 split at hx
 ·rename_i A off len cap sz
  simp [jL] at hn;subst hn;simp only [VR] at hv;obtain ⟨l,a',cap',hA,rfl,hlc,hd⟩:=hv;obtain ⟨ys,h1,h2,h3,h4⟩:=hr.read (P:=P) hA hx;rcases hd with ⟨c1,c2⟩ | ⟨rfl,_⟩
  ·have:m=0:=by omega
   subst this;have hy:ys=[]:=List.eq_nil_of_length_eq_zero (by simpa using h2);subst hy;exact ⟨[],fun w' _=>by simp [Builtin.firstCells,loadCells,loadCellsFrom],h3,by simp [Builtin.lenOf]⟩
  ·exact ⟨ys,fun w' hw=>by grind [Builtin.firstCells,run_loadCells,tH],h3,by simp [Builtin.lenOf]⟩
 ·rename_i len cap sz
  simp [jL] at hn;subst hn;simp only [VR] at hv;obtain ⟨rfl,rfl,rfl⟩:=hv;simp at hx;subst hx;exact ⟨[],fun w' _=>by simp [Builtin.firstCells],by simp [VRs],by simp [Builtin.lenOf]⟩
 ·rename_i s
  simp [jL] at hn;subst hn;simp only [VR] at hv;subst hv;simp at hx;subst hx;refine ⟨(s.take m).map fun b=>Value.int .u8 b.toNat,?_,jO _,by simp [Builtin.lenOf];rfl⟩
  grind [Builtin.firstCells,Sem.run_pure,dS]
 ·simp at hx
theorem HR.inPlace (hr:HR μ h w) {A off:Nat} {l:Loc} {cs old new:List AV} {us:List Value} (hA:μ A=some l) {st:BState} (hg:h.t.get A=some (.row cs st)) (hst:st=.grown\/∃ t,st=.bytes t) (ho:takeN old.length (cs.drop off)=some old) (hv:VRs μ new us)
  (hfit:l.sh+off+old.length+new.length<=l.tot) :
  (∀ j,j<us.length->(w.cell? ⟨l.b,l.sh+off+old.length+j,none⟩).isSome)/\(∀ j,j<us.length->w.frozen? ⟨l.b,l.sh+off+old.length+j,none⟩=false)/\
  HR (μ.add h.next ⟨l.b,l.sh+off,l.tot,false⟩) ((h.put A (.row cs .dead)).push (.row (old++new) .grown)) (tN w l.b (l.sh+off+old.length) us)/\
  Ext μ h w (μ.add h.next ⟨l.b,l.sh+off,l.tot,false⟩) ((h.put A (.row cs .dead)).push (.row (old++new) .grown)) (tN w l.b (l.sh+off+old.length) us):=by
 have hlen:=hv.length;obtain ⟨hrow,hex,hfree⟩:RowR μ w l cs/\l.ex=false/\Free w l:=by
  rcases hst with rfl | ⟨t,rfl⟩
  ·exact hr.blk A l _ hA hg
  ·exact (hr.blk A l _ hA hg).1
 have hroQ:(Blk.row cs st).isRo=false:=by rcases hst with rfl | ⟨_,rfl⟩ <;> rfl
 have hlv:(Blk.row cs st).live=true:=by rcases hst with rfl | ⟨_,rfl⟩ <;> rfl
 obtain ⟨e,hshape⟩:=hrow.shape;obtain ⟨hold,holdlen⟩:=rH ho;have hcell:∀ i,i<l.tot->(w.cell? ⟨l.b,i,none⟩).isSome:=fun i hi=>eP hshape hi;have hAn:A≠h.next:=fun e=>by have:=(hr.dom A l hA).1;omega
 have hle:μ.le (μ.add h.next ⟨l.b,l.sh+off,l.tot,false⟩):=Mu.le_add hr.isNone;have hadd:∀ {B k},μ.add h.next ⟨l.b,l.sh+off,l.tot,false⟩ B=some k->(B=h.next/\k=⟨l.b,l.sh+off,l.tot,false⟩)\/(B≠h.next/\μ B=some k):=by
  grind [Mu.add]
 have hgo:∀ {B:Nat} {b:Blk},((h.put A (.row cs .dead)).push (.row (old++new) .grown)).t.get B=some b->(B=h.next/\b=.row (old++new) .grown)\/(B≠h.next/\B=A/\b=.row cs .dead)\/(B≠h.next/\B≠A/\h.t.get B=some b):=by
  intro B b hb;rcases Tr.get_set hb with h1 | ⟨h1,h2⟩
  ·exact .inl h1
  ·rcases Tr.get_set h2 with h3 | ⟨h3,h4⟩
   ·grind
   ·exact .inr (.inr ⟨h1,h3,h4⟩)
 have hother:∀ {B k b},B≠A->μ B=some k->h.t.get B=some b->b.live=true->k.b≠l.b:=by
  intro B k b hne hB hgB hlive e
  have:=(hr.inj B A k l b _ hB hA hgB hg hlive hlv hne e).2
  grind
 have holdc:∀ (i:Nat) (x:AV),old[i]? = some x->i<old.length/\∃ y,w.cell? ⟨l.b,l.sh+off+i,none⟩=some y/\VR μ x y:=by
  intro i x hi;have hil:i<old.length:=(List.getElem?_eq_some_iff.1 hi).1;refine ⟨hil,?_⟩
  have:cs[off+i]? = some x:=by
   grind
  obtain ⟨y,h1,h2⟩:=hrow.cell (off+i) x this
  grind
 refine ⟨fun j hj=>hcell _ (by omega),fun j hj=>hfree _ (by omega),⟨?_,?_,?_,fun x hx=>hle _ _ (hr.pin x hx)⟩,⟨hle,Nat.le_succ _,?_,?_,?_,?_,?_,?_,?_⟩⟩
 ·intro B k hB
  rcases hadd hB with ⟨rfl,rfl⟩ | ⟨_,h1⟩
  ·exact ⟨Nat.lt_succ_self _,by rw [mF];exact (hr.dom A l hA).2⟩
  ·exact ⟨Nat.lt_succ_of_lt (hr.dom B k h1).1,by rw [mF];exact (hr.dom B k h1).2⟩
 ·intro B C lb lc bb bc hB hC gB gC vB vC hne heq
  rcases hgo gB with ⟨rfl,rfl⟩ | ⟨n1,rfl,rfl⟩ | ⟨n1,n2,g1⟩
  ·rcases hgo gC with ⟨rfl,rfl⟩ | ⟨n3,rfl,rfl⟩ | ⟨n3,n4,g2⟩
   ·exact absurd rfl hne
   ·simp [Blk.live] at vC
   grind
  ·simp [Blk.live] at vB
  ·rcases hgo gC with ⟨rfl,rfl⟩ | ⟨n3,rfl,rfl⟩ | ⟨n3,n4,g2⟩
   ·grind
   ·simp [Blk.live] at vC
   ·rcases hadd hB with ⟨n6,_⟩ | ⟨_,h2⟩
    ·exact absurd n6 n1
    ·rcases hadd hC with ⟨n6,_⟩ | ⟨_,h3⟩
     ·exact absurd n6 n3
     ·exact hr.inj B C lb lc bb bc h2 h3 g1 g2 vB vC hne heq
 ·intro B k b hB gB
  rcases hgo gB with ⟨rfl,rfl⟩ | ⟨n1,rfl,rfl⟩ | ⟨n1,n2,g1⟩
  ·rcases hadd hB with ⟨_,rfl⟩ | ⟨n5,_⟩
   ·refine ⟨⟨⟨e,by rw [mG];exact hshape⟩,by simp;omega,fun i x hi=>?_⟩,rfl,fun i hi=>by rw [gK];exact hfree i hi⟩
    by_cases c:i<old.length
    ·grind [List.getElem?_append_left,fE,VR.mono]
    ·rw [List.getElem?_append_right (by omega)] at hi
     obtain ⟨y,h1,h2⟩:=hv.get hi;have hj:i-old.length<us.length:=(List.getElem?_eq_some_iff.1 h1).1;refine ⟨y,?_,VR.mono hle _ _ h2⟩;show World.cell? _ ⟨l.b,l.sh+off+i,none⟩=_;rw [show l.sh+off+i=l.sh+off+old.length+(i-old.length) from by omega]
     grind [gH]
   ·exact absurd rfl n5
  ·trivial
  ·rcases hadd hB with ⟨n6,_⟩ | ⟨_,h2⟩
   ·exact absurd n6 n1
   ·by_cases hd:b.live=true
    ·exact BR.mono hle (BR.heap (cI _ (hother n2 h2 g1 hd) _ _ _) (hr.blk B k b h2 g1))
    ·cases b with
     | row cs'' st''=>cases st'' <;> simp [Blk.live] at hd;trivial
     | map=>simp [Blk.live] at hd
     | siter=>simp [Blk.live] at hd
 ·intro B k hB
  rcases hadd hB with ⟨rfl,rfl⟩ | ⟨_,h1⟩
  ·exact .inr ⟨Nat.le_refl _,.inr ⟨A,l,hA,rfl,_,hg,hroQ⟩⟩
  ·exact .inl h1
 ·rintro B hlt ⟨b,hb,hro⟩
  rcases hgo hb with ⟨rfl,rfl⟩ | ⟨n1,rfl,rfl⟩ | ⟨n1,n2,g1⟩
  ·omega
  ·exact ⟨_,hg,hroQ⟩
  ·exact ⟨b,g1,hro⟩
 ·intro k hk hm
  refine cI _ ?_ _ _ _;intro e;exact hm A l hA e.symm ⟨_,hg,hroQ⟩
 ·rw [mF];exact Nat.le_refl _
 ·exact (fJ _ _ _ _).1
 ·exact (fJ _ _ _ _).2.1
 ·exact (fJ _ _ _ _).2.2
theorem HR.inPlaceB (hr:HR μ h w) {A off t:Nat} {l:Loc} {cs old new:List AV} {us:List Value} (hA:μ A=some l) {st:BState} (hg:h.t.get A=some (.row cs st)) (hst:st=.bytes t) (hoff:off=0) (ho:takeN old.length (cs.drop off)=some old) (hv:VRs μ new us)
  (hfit:l.sh+off+old.length+new.length<=l.tot) :
  (∀ j,j<us.length->(w.cell? ⟨l.b,l.sh+off+old.length+j,none⟩).isSome)/\(∀ j,j<us.length->w.frozen? ⟨l.b,l.sh+off+old.length+j,none⟩=false)/\
  HR (μ.add h.next ⟨l.b,l.sh+off,l.tot,false⟩) ((h.put A (.row cs .dead)).push (.row (old++new) (.bytes t))) (tN w l.b (l.sh+off+old.length) us)/\
  Ext μ h w (μ.add h.next ⟨l.b,l.sh+off,l.tot,false⟩) ((h.put A (.row cs .dead)).push (.row (old++new) (.bytes t))) (tN w l.b (l.sh+off+old.length) us):=by
 have hlen:=hv.length;subst hst;obtain ⟨⟨hrow,hex,hfree⟩,hty,hsh0⟩:=hr.blk A l _ hA hg;have hroQ:(Blk.row cs (.bytes t)).isRo=false:=rfl;have hlv:(Blk.row cs (.bytes t)).live=true:=rfl;obtain ⟨e,hshape⟩:=hrow.shape;obtain ⟨hold,holdlen⟩:=rH ho;have hcell:∀ i,i<l.tot->(w.cell? ⟨l.b,i,none⟩).isSome:=fun i hi=>eP hshape hi;have hAn:A≠h.next:=fun e=>by have:=(hr.dom A l hA).1;omega
 have hle:μ.le (μ.add h.next ⟨l.b,l.sh+off,l.tot,false⟩):=Mu.le_add hr.isNone;have hadd:∀ {B k},μ.add h.next ⟨l.b,l.sh+off,l.tot,false⟩ B=some k->(B=h.next/\k=⟨l.b,l.sh+off,l.tot,false⟩)\/(B≠h.next/\μ B=some k):=by
  grind [Mu.add]
 have hgo:∀ {B:Nat} {b:Blk},((h.put A (.row cs .dead)).push (.row (old++new) (.bytes t))).t.get B=some b->(B=h.next/\b=.row (old++new) (.bytes t))\/(B≠h.next/\B=A/\b=.row cs .dead)\/(B≠h.next/\B≠A/\h.t.get B=some b):=by
  intro B b hb;rcases Tr.get_set hb with h1 | ⟨h1,h2⟩
  ·exact .inl h1
  ·rcases Tr.get_set h2 with h3 | ⟨h3,h4⟩
   ·grind
   ·exact .inr (.inr ⟨h1,h3,h4⟩)
 have hother:∀ {B k b},B≠A->μ B=some k->h.t.get B=some b->b.live=true->k.b≠l.b:=by
  intro B k b hne hB hgB hlive e
  have:=(hr.inj B A k l b _ hB hA hgB hg hlive hlv hne e).2
  grind
 have holdc:∀ (i:Nat) (x:AV),old[i]? = some x->i<old.length/\∃ y,w.cell? ⟨l.b,l.sh+off+i,none⟩=some y/\VR μ x y:=by
  intro i x hi;have hil:i<old.length:=(List.getElem?_eq_some_iff.1 hi).1;refine ⟨hil,?_⟩
  have:cs[off+i]? = some x:=by
   grind
  obtain ⟨y,h1,h2⟩:=hrow.cell (off+i) x this
  grind
 refine ⟨fun j hj=>hcell _ (by omega),fun j hj=>hfree _ (by omega),⟨?_,?_,?_,fun x hx=>hle _ _ (hr.pin x hx)⟩,⟨hle,Nat.le_succ _,?_,?_,?_,?_,?_,?_,?_⟩⟩
 ·intro B k hB
  rcases hadd hB with ⟨rfl,rfl⟩ | ⟨_,h1⟩
  ·exact ⟨Nat.lt_succ_self _,by rw [mF];exact (hr.dom A l hA).2⟩
  ·exact ⟨Nat.lt_succ_of_lt (hr.dom B k h1).1,by rw [mF];exact (hr.dom B k h1).2⟩
 ·intro B C lb lc bb bc hB hC gB gC vB vC hne heq
  rcases hgo gB with ⟨rfl,rfl⟩ | ⟨n1,rfl,rfl⟩ | ⟨n1,n2,g1⟩
  ·rcases hgo gC with ⟨rfl,rfl⟩ | ⟨n3,rfl,rfl⟩ | ⟨n3,n4,g2⟩
   ·exact absurd rfl hne
   ·simp [Blk.live] at vC
   grind
  ·simp [Blk.live] at vB
  ·rcases hgo gC with ⟨rfl,rfl⟩ | ⟨n3,rfl,rfl⟩ | ⟨n3,n4,g2⟩
   ·grind
   ·simp [Blk.live] at vC
   ·rcases hadd hB with ⟨n6,_⟩ | ⟨_,h2⟩
    ·exact absurd n6 n1
    ·rcases hadd hC with ⟨n6,_⟩ | ⟨_,h3⟩
     ·exact absurd n6 n3
     ·exact hr.inj B C lb lc bb bc h2 h3 g1 g2 vB vC hne heq
 ·intro B k b hB gB
  rcases hgo gB with ⟨rfl,rfl⟩ | ⟨n1,rfl,rfl⟩ | ⟨n1,n2,g1⟩
  ·rcases hadd hB with ⟨_,rfl⟩ | ⟨n5,_⟩
   ·refine ⟨⟨⟨⟨e,by rw [mG];exact hshape⟩,by simp;omega,fun i x hi=>?_⟩,rfl,fun i hi=>by rw [gK];exact hfree i hi⟩,by rw [mG];exact hty,by simp [hsh0,hoff]⟩
    by_cases c:i<old.length
    ·grind [List.getElem?_append_left,fE,VR.mono]
    ·rw [List.getElem?_append_right (by omega)] at hi
     obtain ⟨y,h1,h2⟩:=hv.get hi;have hj:i-old.length<us.length:=(List.getElem?_eq_some_iff.1 h1).1;refine ⟨y,?_,VR.mono hle _ _ h2⟩;show World.cell? _ ⟨l.b,l.sh+off+i,none⟩=_;rw [show l.sh+off+i=l.sh+off+old.length+(i-old.length) from by omega]
     grind [gH]
   ·exact absurd rfl n5
  ·trivial
  ·rcases hadd hB with ⟨n6,_⟩ | ⟨_,h2⟩
   ·exact absurd n6 n1
   ·by_cases hd:b.live=true
    ·exact BR.mono hle (BR.heap (cI _ (hother n2 h2 g1 hd) _ _ _) (hr.blk B k b h2 g1))
    ·cases b with
     | row cs'' st''=>cases st'' <;> simp [Blk.live] at hd;trivial
     | map=>simp [Blk.live] at hd
     | siter=>simp [Blk.live] at hd
 ·intro B k hB
  rcases hadd hB with ⟨rfl,rfl⟩ | ⟨_,h1⟩
  ·exact .inr ⟨Nat.le_refl _,.inr ⟨A,l,hA,rfl,_,hg,hroQ⟩⟩
  ·exact .inl h1
 ·rintro B hlt ⟨b,hb,hro⟩
  rcases hgo hb with ⟨rfl,rfl⟩ | ⟨n1,rfl,rfl⟩ | ⟨n1,n2,g1⟩
  ·omega
  ·exact ⟨_,hg,hroQ⟩
  ·exact ⟨b,g1,hro⟩
 ·intro k hk hm
  refine cI _ ?_ _ _ _;intro e;exact hm A l hA e.symm ⟨_,hg,hroQ⟩
 ·rw [mF];exact Nat.le_refl _
 ·exact (fJ _ _ _ _).1
 ·exact (fJ _ _ _ _).2.1
 ·exact (fJ _ _ _ _).2.2
theorem HR.grow (hr:HR μ h w) (xs:List AV) (ys rest:List Value) (e:TypeId) (hx:VRs μ xs ys) {len cap cap' sz:Nat} (h1:len<=cap) (h2:cap<=cap') (h3:cap' * sz<=ys.length+rest.length) :
  ∃ μ',VR μ' (.slice (some (h.next,0)) len cap sz) (.slice (some ⟨w.heap.size,0,none⟩) len cap')/\HR μ' (h.push (.row xs .grown)) (w.drew.alloc (.cells (ys++rest).toArray e))/\
   Ext μ h w μ' (h.push (.row xs .grown)) (w.drew.alloc (.cells (ys++rest).toArray e)):=by
 have hr':HR μ h w.drew:=hr.draws rfl;have hext:Ext μ h w μ h w.drew:=Ext.draws rfl rfl rfl rfl;obtain ⟨l,l1,l2,l3,l4,h5,h6⟩:=hr'.pushGrown xs ys rest e hx;refine ⟨_,?_,h5,Ext.trans hr hext h6⟩;simp only [VR];refine ⟨l,_,cap',jE _ _ _,rfl,h1,.inr ⟨?_,h2,?_,fun hc=>by rw [l4] at hc;cases hc⟩⟩
 ·rw [l1,l2];rfl
 grind
theorem HR.growB (hr:HR μ h w) (xs:List AV) (ys rest:List Value) (e:TypeId) (hx:VRs μ xs ys) {len cap cap' sz:Nat} (h1:len<=cap) (h2:cap<=cap') (h3:cap' * sz<=ys.length+rest.length) :
  ∃ μ',VR μ' (.slice (some (h.next,0)) len cap sz) (.slice (some ⟨w.heap.size,0,none⟩) len cap')/\HR μ' (h.push (.row xs (.bytes e))) (w.drew.alloc (.cells (ys++rest).toArray e))/\
   Ext μ h w μ' (h.push (.row xs (.bytes e))) (w.drew.alloc (.cells (ys++rest).toArray e)):=by
 have hr':HR μ h w.drew:=hr.draws rfl;have hext:Ext μ h w μ h w.drew:=Ext.draws rfl rfl rfl rfl;obtain ⟨l,l1,l2,l3,l4,h5,h6⟩:=hr'.pushBytes xs ys rest e hx;refine ⟨_,?_,h5,Ext.trans hr hext h6⟩;simp only [VR];refine ⟨l,_,cap',jE _ _ _,rfl,h1,.inr ⟨?_,h2,?_,fun hc=>by rw [l4] at hc;cases hc⟩⟩
 ·rw [l1,l2];rfl
 grind
theorem HR.kill (hr:HR μ h w) {A:Nat} {cs:List AV} {st:BState} (hg:h.t.get A=some (.row cs st)) (hst:st=.grown\/∃ t,st=.bytes t):HR μ (h.put A (.row cs .dead)) w/\Ext μ h w μ (h.put A (.row cs .dead)) w:=by
 have hroQ:(Blk.row cs st).isRo=false:=by rcases hst with rfl | ⟨_,rfl⟩ <;> rfl
 have hgo:∀ {B:Nat} {b:Blk},(h.put A (.row cs .dead)).t.get B=some b->(B=A/\b=.row cs .dead)\/(B≠A/\h.t.get B=some b):=fun hb=>Tr.get_set hb;refine ⟨⟨hr.dom,?_,?_,hr.pin⟩,⟨Mu.le_refl μ,Nat.le_refl _,fun _ _ h=>.inl h,?_,fun _ _ _=>rfl,Nat.le_refl _,rfl,rfl,rfl⟩⟩
 ·intro B C lb lc bb bc hB hC gB gC vB vC hne heq
  rcases hgo gB with ⟨rfl,rfl⟩ | ⟨_,g1⟩
  ·simp [Blk.live] at vB
  ·rcases hgo gC with ⟨rfl,rfl⟩ | ⟨_,g2⟩
   ·simp [Blk.live] at vC
   ·exact hr.inj B C lb lc bb bc hB hC g1 g2 vB vC hne heq
 ·intro B k b hB gB
  rcases hgo gB with ⟨rfl,rfl⟩ | ⟨_,g1⟩
  ·trivial
  ·exact hr.blk B k b hB g1
 ·rintro B _ ⟨b,gB,hro⟩
  rcases hgo gB with ⟨rfl,rfl⟩ | ⟨_,g1⟩
  ·exact ⟨_,hg,hroQ⟩
  ·exact ⟨b,g1,hro⟩
end
end Ai
namespace Ai
theorem qA {P:Program} {α β:Type} {x:Sem α} {f:α->Sem β} {w w':World} {a:α} (h:x.run P w=.ok a w'):(x >>= f).run P w=(f a).run P w':=by
 simp_all
theorem eAa (P:Program) (st xt ty:TypeId) (e:TypeId) (base':Option Addr) (len cap' n:Nat) (xu:Value) (w:World) (d:TypeDesc) (i:TypeInfo) (h1:P.underlying st=some (.slice e)) (h2:P.underlying xt=some d) (hd:yO d=false) (hinfo:P.info? e=some i) (hl:(Builtin.lenOf xu).run P w=.ok n w) :
  (Builtin.append_ #[st,xt] ty #[.slice base' len cap',xu]).run P w=(if len+n<=cap' then (do
    let new <- Builtin.firstCells i.size n xu
    match base' with
    | some a=>storeCells (a.add (len * i.size)) new.toList
    | none=>pure ()
    pure (.slice base' (len+n) cap'))
   else (do
    if ((len+n:Nat):Int) > IntKind.i64.max/\(false=true\/(<- typeInfo e).bytes=0) then runtimePanic (.error "growslice: len out of range")
    if Builtin.nextslicecap (len+n) cap' * (<- typeInfo e).bytes > 2 ^ 48 then (if false=true then runtimePanic (.error "growslice: len out of range") else do
     if !(<- Builtin.mayShare i.size len n base' xu) then mark .noRoom
     unsupported (.resourceLimit "append: a slice or a string whose bytes no memory bears"))
    let newCap <- choose (.appendCap (len+n) cap' e)
    askRoom (newCap * (<- typeInfo e).bytes)
    let old <- Builtin.firstCells i.size len (.slice base' len cap')
    let new <- Builtin.firstCells i.size n xu
    let rest:=Builtin.zeroCells (<- zeroValue e).cells (newCap-(len+n))
    pure (.slice (some (<- newRow e (old++new++rest))) (len+n) newCap)):Sem Value).run P w:=by
 refine (qA (P:=P) (pB h1)).trans ?_;refine (qA (P:=P) (mAe hinfo)).trans ?_;refine (qA (P:=P) (pB h2)).trans ?_;cases d <;> first
  | (simp [yO] at hd;done)
  | (refine (qA (P:=P) (a:=n) (w':=w) hl).trans ?_
     cases base' <;> rfl)
section
variable {E:Env} {P:Program} {μ:Mu} {h:Heap} {w:World}
theorem kL (z:Array Value) (n:Nat):(Builtin.zeroCells z n).size=n * z.size:=by simp [Builtin.zeroCells]
theorem eR (ok:EnvOK E P) (hr:HR μ h w) {e:TypeId} {i:TypeInfo} {base':Option Addr} {len cap' n:Nat} {xu:Value} {old new:List AV} {yo yn:List Value} {z:AV}
  (hi:E.info e=some i) (hz:E.zero e=some z) (hzl:z.cells.length=i.size) (hroom:(len+n) * (i.bytes+i.size+1)<=1073741824) (hc:¬ (len+n<=cap'))
  (ho:∀ w':World,w'.heap=w.heap->(Builtin.firstCells i.size len (.slice base' len cap')).run P w'=.ok yo.toArray w') (hyo:VRs μ old yo) (holen:yo.length=len * i.size)
  (hn:∀ w':World,w'.heap=w.heap->(Builtin.firstCells i.size n xu).run P w'=.ok yn.toArray w') (hyn:VRs μ new yn) (hnlen:yn.length=n * i.size) :
  ∃ μ' u w',(do
    if ((len+n:Nat):Int) > IntKind.i64.max/\(false=true\/(<- typeInfo e).bytes=0) then runtimePanic (.error "growslice: len out of range")
    if Builtin.nextslicecap (len+n) cap' * (<- typeInfo e).bytes > 2 ^ 48 then (if false=true then runtimePanic (.error "growslice: len out of range") else do
     if !(<- Builtin.mayShare i.size len n base' xu) then mark .noRoom
     unsupported (.resourceLimit "append: a slice or a string whose bytes no memory bears"))
    let newCap <- choose (.appendCap (len+n) cap' e)
    askRoom (newCap * (<- typeInfo e).bytes)
    let old <- Builtin.firstCells i.size len (.slice base' len cap')
    let new <- Builtin.firstCells i.size n xu
    let rest:=Builtin.zeroCells (<- zeroValue e).cells (newCap-(len+n))
    pure (.slice (some (<- newRow e (old++new++rest))) (len+n) newCap):Sem Value).run P w=.ok u w'/\
   VR μ' (.slice (some (h.next,0)) (len+n) (len+n) i.size) u/\HR μ' (h.push (.row (old++new) .grown)) w'/\Ext μ h w μ' (h.push (.row (old++new) .grown)) w':=by
 have hinfo:=ok.info e i hi;obtain ⟨zv,hzr,hzv⟩:=tE ok hz;have hzs:zv.cells.size=i.size:=by have:=(hzv μ).cells.length;simpa [hzl] using this
 have hlim:len+n<=1073741824:=Nat.le_trans (Nat.le_mul_of_pos_right _ (by omega)) hroom;have hmax:IntKind.i64.max=9223372036854775807:=by decide
 have hbytes:(len+n) * i.bytes<=1073741824:=Nat.le_trans (Nat.mul_le_mul_left _ (by omega)) hroom;have hbb:i.bytes<=1073741824:=by
  have h1:1<=len+n:=by omega
  exact Nat.le_trans (by have:=Nat.mul_le_mul_right i.bytes h1;omega) hbytes
 have hnext:Builtin.nextslicecap (len+n) cap' * i.bytes<=281474976710656:=by
  have:=pZ (len+n) cap' (by omega)
  calc Builtin.nextslicecap (len+n) cap' * i.bytes<=(3 * (len+n)+2000) * i.bytes:=Nat.mul_le_mul_right _ this
   _=3 * ((len+n) * i.bytes)+2000 * i.bytes:=by grind
   _<=281474976710656:=by omega
 have c1:¬ (((len+n:Nat):Int) > IntKind.i64.max/\(false=true\/i.bytes=0)):=by grind
 have e48:(2:Nat) ^ 48=281474976710656:=by decide
 have c2:¬ (Builtin.nextslicecap (len+n) cap' * i.bytes > 2 ^ 48):=by rw [e48];omega
 obtain ⟨k,hk⟩:∃ k,Question.cut (.appendCap (len+n) cap' e) (w.tape w.drawn (.appendCap (len+n) cap' e))=len+n+k:=⟨_,rfl⟩;have hrest:k * i.size=(Builtin.zeroCells zv.cells k).toList.length:=by
  rw [Array.length_toList,kL,hzs]
 obtain ⟨μ',g1,g2,g3⟩:=hr.grow (old++new) (yo++yn) (Builtin.zeroCells zv.cells k).toList e (VRs.append hyo hyn) (len:=len+n) (cap:=len+n) (cap':=len+n+k) (sz:=i.size) (Nat.le_refl _) (by omega)
  (by grind)
 refine ⟨μ',_,_,?_,g1,g2,g3⟩;refine (qA (P:=P) (cF hinfo)).trans ?_;rw [if_neg c1];refine (qA (P:=P) (cF hinfo)).trans ?_;rw [if_neg c2];refine (qA (P:=P) (a:=len+n+k) (w':=w.drew) ?_).trans ?_
 ·rw [run_choose]
  show (if Question.forced _=true then _ else _)=_;rw [if_neg (by simp [Question.forced]),hk];rfl
 refine (qA (P:=P) (cF hinfo)).trans ?_;refine (qA (P:=P) (run_askRoom _ _ _)).trans ?_;refine (qA (P:=P) (ho w.drew rfl)).trans ?_;refine (qA (P:=P) (hn w.drew rfl)).trans ?_;refine (qA (P:=P) (hzr _)).trans ?_;show Sem.run P (newRow e _ >>= _) _=_;have e1:len+n+k-(len+n)=k:=by omega
 simp only [Sem.run_bind,newRow,run_newObj,Result.andThen_ok,Sem.run_pure,e1];have e2:(yo.toArray++yn.toArray++Builtin.zeroCells zv.cells k)=(yo++yn++(Builtin.zeroCells zv.cells k).toList).toArray:=by
  apply Array.ext';simp
 rw [e2];rfl
theorem qV (ok:EnvOK E P) (hr:HR μ h w) {e:TypeId} {i:TypeInfo} {base':Option Addr} {len cap' n:Nat} {xu:Value} {old new:List AV} {yo yn:List Value} {z:AV}
  (hi:E.info e=some i) (hz:E.zero e=some z) (hzl:z.cells.length=i.size) (hroom:(len+n) * (i.bytes+i.size+1)<=1073741824) (hc:¬ (len+n<=cap'))
  (ho:∀ w':World,w'.heap=w.heap->(Builtin.firstCells i.size len (.slice base' len cap')).run P w'=.ok yo.toArray w') (hyo:VRs μ old yo) (holen:yo.length=len * i.size)
  (hn:∀ w':World,w'.heap=w.heap->(Builtin.firstCells i.size n xu).run P w'=.ok yn.toArray w') (hyn:VRs μ new yn) (hnlen:yn.length=n * i.size) :
  ∃ μ' u w',(do
    if ((len+n:Nat):Int) > IntKind.i64.max/\(false=true\/(<- typeInfo e).bytes=0) then runtimePanic (.error "growslice: len out of range")
    if Builtin.nextslicecap (len+n) cap' * (<- typeInfo e).bytes > 2 ^ 48 then (if false=true then runtimePanic (.error "growslice: len out of range") else do
     if !(<- Builtin.mayShare i.size len n base' xu) then mark .noRoom
     unsupported (.resourceLimit "append: a slice or a string whose bytes no memory bears"))
    let newCap <- choose (.appendCap (len+n) cap' e)
    askRoom (newCap * (<- typeInfo e).bytes)
    let old <- Builtin.firstCells i.size len (.slice base' len cap')
    let new <- Builtin.firstCells i.size n xu
    let rest:=Builtin.zeroCells (<- zeroValue e).cells (newCap-(len+n))
    pure (.slice (some (<- newRow e (old++new++rest))) (len+n) newCap):Sem Value).run P w=.ok u w'/\
   VR μ' (.slice (some (h.next,0)) (len+n) (len+n) i.size) u/\HR μ' (h.push (.row (old++new) (.bytes e))) w'/\Ext μ h w μ' (h.push (.row (old++new) (.bytes e))) w':=by
 have hinfo:=ok.info e i hi;obtain ⟨zv,hzr,hzv⟩:=tE ok hz;have hzs:zv.cells.size=i.size:=by have:=(hzv μ).cells.length;simpa [hzl] using this
 have hlim:len+n<=1073741824:=Nat.le_trans (Nat.le_mul_of_pos_right _ (by omega)) hroom;have hmax:IntKind.i64.max=9223372036854775807:=by decide
 have hbytes:(len+n) * i.bytes<=1073741824:=Nat.le_trans (Nat.mul_le_mul_left _ (by omega)) hroom;have hbb:i.bytes<=1073741824:=by
  have h1:1<=len+n:=by omega
  exact Nat.le_trans (by have:=Nat.mul_le_mul_right i.bytes h1;omega) hbytes
 have hnext:Builtin.nextslicecap (len+n) cap' * i.bytes<=281474976710656:=by
  have:=pZ (len+n) cap' (by omega)
  calc Builtin.nextslicecap (len+n) cap' * i.bytes<=(3 * (len+n)+2000) * i.bytes:=Nat.mul_le_mul_right _ this
   _=3 * ((len+n) * i.bytes)+2000 * i.bytes:=by grind
   _<=281474976710656:=by omega
 have c1:¬ (((len+n:Nat):Int) > IntKind.i64.max/\(false=true\/i.bytes=0)):=by grind
 have e48:(2:Nat) ^ 48=281474976710656:=by decide
 have c2:¬ (Builtin.nextslicecap (len+n) cap' * i.bytes > 2 ^ 48):=by rw [e48];omega
 obtain ⟨k,hk⟩:∃ k,Question.cut (.appendCap (len+n) cap' e) (w.tape w.drawn (.appendCap (len+n) cap' e))=len+n+k:=⟨_,rfl⟩;have hrest:k * i.size=(Builtin.zeroCells zv.cells k).toList.length:=by
  rw [Array.length_toList,kL,hzs]
 obtain ⟨μ',g1,g2,g3⟩:=hr.growB (old++new) (yo++yn) (Builtin.zeroCells zv.cells k).toList e (VRs.append hyo hyn) (len:=len+n) (cap:=len+n) (cap':=len+n+k) (sz:=i.size) (Nat.le_refl _) (by omega)
  (by grind)
 refine ⟨μ',_,_,?_,g1,g2,g3⟩;refine (qA (P:=P) (cF hinfo)).trans ?_;rw [if_neg c1];refine (qA (P:=P) (cF hinfo)).trans ?_;rw [if_neg c2];refine (qA (P:=P) (a:=len+n+k) (w':=w.drew) ?_).trans ?_
 ·rw [run_choose]
  show (if Question.forced _=true then _ else _)=_;rw [if_neg (by simp [Question.forced]),hk];rfl
 refine (qA (P:=P) (cF hinfo)).trans ?_;refine (qA (P:=P) (run_askRoom _ _ _)).trans ?_;refine (qA (P:=P) (ho w.drew rfl)).trans ?_;refine (qA (P:=P) (hn w.drew rfl)).trans ?_;refine (qA (P:=P) (hzr _)).trans ?_;show Sem.run P (newRow e _ >>= _) _=_;have e1:len+n+k-(len+n)=k:=by omega
 simp only [Sem.run_bind,newRow,run_newObj,Result.andThen_ok,Sem.run_pure,e1];have e2:(yo.toArray++yn.toArray++Builtin.zeroCells zv.cells k)=(yo++yn++(Builtin.zeroCells zv.cells k).toList).toArray:=by
  apply Array.ext';simp
 rw [e2];rfl
theorem oA6 (ok:EnvOK E P) (hr:HR μ h w) {st xt ty:TypeId} {s x y:AV} {su xu:Value} {h':Heap} (hs:VR μ s su) (hxv:VR μ x xu) (hx:dD E st xt s x h=some (y,h')) :
  DV P (Builtin.append_ #[st,xt] ty #[su,xu]) μ h w y h':=by
 unfold dD at hx
 cases hxt:E.und xt with
 | none=>simp [hxt] at hx
 | some d=>
  simp only [hxt] at hx
  cases hd:yO d with
  | true=>simp only [hd,cond_true] at hx;cases hx
  | false=>
   simp only [hd,cond_false] at hx
   split at hx
   ·rename_i e base len cap sz hst
    cases hi:E.info e with
    | none=>simp [hi] at hx
    | some i=>
     cases hz:E.zero e with
     | none=>simp [hi,hz] at hx
     | some z=>
      simp only [hi,hz] at hx
      cases hn:jL x with
      | none=>simp [hn] at hx
      | some n=>
       simp only [hn] at hx
       cases hf:wC h i.size n x with
       | none=>simp [hf] at hx
       | some new=>
        simp only [hf] at hx;have hinfo:=ok.info e i hi;obtain ⟨ys,hfr,hys,hlr⟩:=dAa (P:=P) hr hxv hn n (Nat.le_refl n) hf;obtain ⟨base',cap',rfl⟩:=hs.slice_form;have hhead:=eAa P st xt ty e base' len cap' n xu w d i (eB ok hst) (eB ok hxt) hd hinfo hlr
        cases hn0:Nat.beq n 0 with
        | true=>
         simp only [hn0,cond_true,Option.some.injEq,Prod.mk.injEq] at hx;obtain ⟨rfl,rfl⟩:=hx;have hn':n=0:=Nat.eq_of_beq_eq_true hn0;subst hn';have hle:len+0<=cap':=by
          cases base with
          | none=>simp only [VR] at hs;grind
          | some q=>
           obtain ⟨A,off⟩:=q;simp only [VR] at hs
           grind
         have hys0:ys=[]:=by
          have h1:=hys.length
          have:new.length=0:=by
           unfold wC at hf
           split at hf
           ·obtain ⟨cs',e1⟩:∃ cs',takeN (0 * i.size) cs'=some new:=by
             grind [Heap.read]
            rw [Nat.zero_mul] at e1;simp [takeN] at e1;subst e1;rfl
           ·grind
           ·simp [ofBytes] at hf;subst hf;rfl
           ·simp at hf
          grind
         subst hys0;refine ⟨μ,.slice base' len cap',w,?_,hs,hr,Ext.refl μ h w⟩;rw [hhead,if_pos hle];refine (qA (P:=P) (hfr w rfl)).trans ?_;cases base' <;> rfl
        | false=>
         simp only [hn0,cond_false] at hx;have hnpos:0<n:=by
          rcases Nat.eq_zero_or_pos n with h0 | h0
          ·subst h0;cases hn0
          ·exact h0
         cases hb:(Nat.ble ((len+n) * (i.bytes+i.size+1)) oA1&&Nat.beq z.cells.length i.size&&(Nat.beq sz i.size||base.isNone)&&Nat.beq new.length (n * i.size)&&new.all AV.single) with
         | false=>simp [hb] at hx
         | true=>
          simp only [hb,cond_true] at hx;simp only [Bool.and_eq_true] at hb;have hroom:(len+n) * (i.bytes+i.size+1)<=1073741824:=Nat.le_of_ble_eq_true hb.1.1.1.1;have hzl:z.cells.length=i.size:=Nat.eq_of_beq_eq_true hb.1.1.1.2;have hnl:ys.length=n * i.size:=by rw [hys.length];exact Nat.eq_of_beq_eq_true hb.1.2
          have hone:∀ v∈ys,v.oneCell'=true:=by
           intro v hv;obtain ⟨j,hj,rfl⟩:=List.mem_iff_getElem.1 hv;have hj':j<new.length:=by rw [<- hys.length];exact hj
           obtain ⟨y',h5,h6⟩:=hys.get (i:=j) (x:=new[j]) (by simp [hj']);rw [List.getElem?_eq_getElem hj] at h5;rw [Option.some.inj h5];exact h6.single (List.all_eq_true.1 hb.2 _ (List.getElem_mem hj'))
          have fresh:∀ {old:List AV} {yo:List Value},¬ (len+n<=cap')->(∀ w':World,w'.heap=w.heap->(Builtin.firstCells i.size len (.slice base' len cap')).run P w'=.ok yo.toArray w')->
            VRs μ old yo->yo.length=len * i.size->DV P (Builtin.append_ #[st,xt] ty #[.slice base' len cap',xu]) μ h w (.slice (some (h.next,0)) (len+n) (len+n) i.size) (h.push (.row (old++new) .grown)):=by
           intro old yo hc ho hyo hol;obtain ⟨μ',u,w',g1,g2,g3,g4⟩:=eR ok hr hi hz hzl hroom hc ho hyo hol hfr hys hnl;exact ⟨μ',u,w',by grind,g2,g3,g4⟩
          have viaA:fO h base len cap i.size n new=some (y,h')->DV P (Builtin.append_ #[st,xt] ty #[.slice base' len cap',xu]) μ h w y h':=by
           clear hx
           intro hx;unfold fO at hx
           split at hx
           ·
            simp only [Option.some.injEq,Prod.mk.injEq] at hx;obtain ⟨rfl,rfl⟩:=hx;simp only [VR] at hs;obtain ⟨h1,rfl,rfl⟩:=hs;simp only [Value.slice.injEq] at h1;obtain ⟨rfl,_,rfl⟩:=h1
            have:=fresh (old:=[]) (yo:=[]) (by omega) (fun w' _=>by simp [Builtin.firstCells]) VRs.nil (by simp)
            simpa using this
           ·rename_i A off
            have hszi:sz=i.size:=by
             have:=hb.1.1.2
             simpa using this
            subst hszi;simp only [VR] at hs;obtain ⟨l,a',c',hA,h1,hlc,hdis⟩:=hs;simp only [Value.slice.injEq] at h1;obtain ⟨rfl,_,rfl⟩:=h1
            split at hx
            ·rename_i cs hg
             cases hto:takeN (len * i.size) (cs.drop off) with
             | none=>simp [hto] at hx
             | some old=>
              simp only [hto] at hx;have hB:=hr.blk A l _ hA hg;obtain ⟨yo,r1,r2,r3⟩:=hB.1.read hto;have hrd:∀ w':World,w'.heap=w.heap->(Builtin.firstCells i.size len (.slice (some a') len cap')).run P w'=.ok yo.toArray w':=by
               intro w' hw;rcases hdis with ⟨d1,d2⟩ | ⟨rfl,_⟩
               ·have:len=0:=by omega
                subst this
                have:yo=[]:=List.eq_nil_of_length_eq_zero (by simpa using r1)
                subst this;simp [Builtin.firstCells,loadCells,loadCellsFrom]
               grind [Builtin.firstCells,run_loadCells,tH]
              cases hle:Nat.ble (len+n) cap with
              | true=>
               simp only [hle,cond_true] at hx;have hle':len+n<=cap:=by simpa using hle
               cases hov:over (off+len * i.size) cs new with
               | none=>simp [hov] at hx
               | some cs'=>
                simp only [hov,Option.some.injEq,Prod.mk.injEq] at hx;obtain ⟨rfl,rfl⟩:=hx;rcases hdis with ⟨d1,d2⟩ | ⟨rfl,d1,d2,d3⟩
                ·omega
                ·obtain ⟨k1,k2,k3,k4⟩:=hr.write hA hg (.inl rfl) hov hys
                 refine ⟨μ,.slice (some ⟨l.b,l.sh+off,none⟩) (len+n) cap',_,?_,?_,k3,k4⟩
                 ·rw [hhead,if_pos (by omega)]
                  refine (qA (P:=P) (hfr w rfl)).trans ?_;have hst:=gE (P:=P) l.b (l.sh+off+len * i.size) ys 0 w hone (by grind) (by grind);have hst':(storeCells ((⟨l.b,l.sh+off,none⟩:Addr).add (len * i.size)) ys).run P w=.ok () (tN w l.b (l.sh+(off+len * i.size)) ys):=by
                   rw [kF,hst,Nat.add_zero,Nat.add_assoc]
                  exact (qA (P:=P) hst').trans rfl
                 ·simp only [VR];grind
              | false=>
               simp only [hle,cond_false,Option.some.injEq,Prod.mk.injEq] at hx;obtain ⟨rfl,rfl⟩:=hx;have hle':¬ (len+n<=cap):=fun hh=>by rw [show Nat.ble (len+n) cap=true from by simpa using hh] at hle;cases hle
               refine fresh ?_ hrd r3 r1;rcases hdis with ⟨d1,d2⟩ | ⟨_,d1,d2,d3⟩
               ·omega
               ·have:=d3 hB.2.1;omega
            ·rename_i cs hg
             cases hto:takeN (len * i.size) (cs.drop off) with
             | none=>simp [hto] at hx
             | some old=>
              simp only [hto,Option.some.injEq,Prod.mk.injEq] at hx;obtain ⟨rfl,rfl⟩:=hx;have hB:=hr.blk A l _ hA hg;obtain ⟨yo,r1,r2,r3⟩:=hB.1.read hto;have hol:old.length=len * i.size:=by rw [<- r3.length];exact r1
              by_cases hle':len+n<=cap'
              ·rcases hdis with ⟨d1,d2⟩ | ⟨rfl,d1,d2,d3⟩
               ·omega
               ·have hcn:(len+n) * i.size<=cap' * i.size:=Nat.mul_le_mul_right _ hle'
                rw [Nat.add_mul] at hcn;obtain ⟨k1,k2,k3,k4⟩:=hr.inPlace hA hg (.inl rfl) (by rw [hol];exact hto) hys (by rw [hol,<- hys.length,hnl];omega);refine ⟨_,.slice (some ⟨l.b,l.sh+off,none⟩) (len+n) cap',_,?_,?_,k3,k4⟩
                ·rw [hhead,if_pos hle']
                 refine (qA (P:=P) (hfr w rfl)).trans ?_;rw [hol] at k1 k2;have hst:=gE (P:=P) l.b (l.sh+off+len * i.size) ys 0 w hone (by grind) (by grind);have hst':(storeCells ((⟨l.b,l.sh+off,none⟩:Addr).add (len * i.size)) ys).run P w=.ok () (tN w l.b (l.sh+off+old.length) ys):=by
                  rw [kF,hst,Nat.add_zero,hol]
                 simp_all
                ·simp only [VR]
                 refine ⟨_,_,cap',jE _ _ _,rfl,Nat.le_refl _,.inr ⟨rfl,hle',?_,fun hh=>by cases hh⟩⟩;simpa using d2
              ·
               obtain ⟨q1,q2⟩:=hr.kill hg (.inl rfl);have hrd:∀ w':World,w'.heap=w.heap->(Builtin.firstCells i.size len (.slice (some a') len cap')).run P w'=.ok yo.toArray w':=by
                intro w' hw;rcases hdis with ⟨d1,d2⟩ | ⟨rfl,_⟩
                ·have:len=0:=by omega
                 subst this
                 have:yo=[]:=List.eq_nil_of_length_eq_zero (by simpa using r1)
                 subst this;simp [Builtin.firstCells,loadCells,loadCellsFrom]
                grind [Builtin.firstCells,run_loadCells,tH]
               obtain ⟨μ',u,w',g1,g2,g3,g4⟩:=eR ok q1 hi hz hzl hroom hle' hrd r3 r1 hfr hys hnl;exact ⟨μ',u,w',by grind,g2,g3,Ext.trans hr q2 g4⟩
            ·rename_i cs t hg
             cases hto:takeN (len * i.size) (cs.drop off) with
             | none=>simp [hto] at hx
             | some old=>
              simp only [hto,Option.some.injEq,Prod.mk.injEq] at hx;obtain ⟨rfl,rfl⟩:=hx;have hB:=hr.blk A l _ hA hg;obtain ⟨yo,r1,r2,r3⟩:=hB.1.1.read hto;have hol:old.length=len * i.size:=by rw [<- r3.length];exact r1
              by_cases hle':len+n<=cap'
              ·rcases hdis with ⟨d1,d2⟩ | ⟨rfl,d1,d2,d3⟩
               ·omega
               ·have hcn:(len+n) * i.size<=cap' * i.size:=Nat.mul_le_mul_right _ hle'
                rw [Nat.add_mul] at hcn;obtain ⟨k1,k2,k3,k4⟩:=hr.inPlace hA hg (.inr ⟨_,rfl⟩) (by rw [hol];exact hto) hys (by rw [hol,<- hys.length,hnl];omega);refine ⟨_,.slice (some ⟨l.b,l.sh+off,none⟩) (len+n) cap',_,?_,?_,k3,k4⟩
                ·rw [hhead,if_pos hle']
                 refine (qA (P:=P) (hfr w rfl)).trans ?_;rw [hol] at k1 k2;have hst:=gE (P:=P) l.b (l.sh+off+len * i.size) ys 0 w hone (by grind) (by grind);have hst':(storeCells ((⟨l.b,l.sh+off,none⟩:Addr).add (len * i.size)) ys).run P w=.ok () (tN w l.b (l.sh+off+old.length) ys):=by
                  rw [kF,hst,Nat.add_zero,hol]
                 simp_all
                ·simp only [VR]
                 refine ⟨_,_,cap',jE _ _ _,rfl,Nat.le_refl _,.inr ⟨rfl,hle',?_,fun hh=>by cases hh⟩⟩;simpa using d2
              ·
               obtain ⟨q1,q2⟩:=hr.kill hg (.inr ⟨_,rfl⟩);have hrd:∀ w':World,w'.heap=w.heap->(Builtin.firstCells i.size len (.slice (some a') len cap')).run P w'=.ok yo.toArray w':=by
                intro w' hw;rcases hdis with ⟨d1,d2⟩ | ⟨rfl,_⟩
                ·have:len=0:=by omega
                 subst this
                 have:yo=[]:=List.eq_nil_of_length_eq_zero (by simpa using r1)
                 subst this;simp [Builtin.firstCells,loadCells,loadCellsFrom]
                grind [Builtin.firstCells,run_loadCells,tH]
               obtain ⟨μ',u,w',g1,g2,g3,g4⟩:=eR ok q1 hi hz hzl hroom hle' hrd r3 r1 hfr hys hnl;exact ⟨μ',u,w',by grind,g2,g3,Ext.trans hr q2 g4⟩
            ·simp at hx
          cases hstr:dV d with
          | false=>grind
          | true=>
           simp only [hstr,cond_true] at hx;have freshB:∀ {old:List AV} {yo:List Value},¬ (len+n<=cap')->(∀ w':World,w'.heap=w.heap->(Builtin.firstCells i.size len (.slice base' len cap')).run P w'=.ok yo.toArray w')->
             VRs μ old yo->yo.length=len * i.size->DV P (Builtin.append_ #[st,xt] ty #[.slice base' len cap',xu]) μ h w (.slice (some (h.next,0)) (len+n) (len+n) i.size) (h.push (.row (old++new) (.bytes e))):=by
            intro old yo hc ho hyo hol;obtain ⟨μ',u,w',g1,g2,g3,g4⟩:=qV ok hr hi hz hzl hroom hc ho hyo hol hfr hys hnl;exact ⟨μ',u,w',by grind,g2,g3,g4⟩
           unfold growB at hx
           split at hx
           ·
            simp only [Option.some.injEq,Prod.mk.injEq] at hx;obtain ⟨rfl,rfl⟩:=hx;simp only [VR] at hs;obtain ⟨h1,rfl,rfl⟩:=hs;simp only [Value.slice.injEq] at h1;obtain ⟨rfl,_,rfl⟩:=h1
            have:=freshB (old:=[]) (yo:=[]) (by omega) (fun w' _=>by simp [Builtin.firstCells]) VRs.nil (by simp)
            simpa using this
           ·rename_i A off
            split at hx
            ·rename_i cs t hg
             cases hte:Nat.beq t e&&Nat.beq off 0 with
             | false=>grind
             | true=>
              simp only [hte,cond_true] at hx;simp only [Bool.and_eq_true] at hte;have ht:t=e:=Nat.eq_of_beq_eq_true hte.1;have hoff:off=0:=Nat.eq_of_beq_eq_true hte.2;subst ht;have hszi:sz=i.size:=by
               have:=hb.1.1.2
               simpa using this
              subst hszi;simp only [VR] at hs;obtain ⟨l,a',c',hA,h1,hlc,hdis⟩:=hs;simp only [Value.slice.injEq] at h1;obtain ⟨rfl,_,rfl⟩:=h1
              cases hto:takeN (len * i.size) (cs.drop off) with
              | none=>simp [hto] at hx
              | some old=>
               simp only [hto,Option.some.injEq,Prod.mk.injEq] at hx;obtain ⟨rfl,rfl⟩:=hx;have hB:=hr.blk A l _ hA hg;obtain ⟨yo,r1,r2,r3⟩:=hB.1.1.read hto;have hol:old.length=len * i.size:=by rw [<- r3.length];exact r1
               by_cases hle':len+n<=cap'
               ·rcases hdis with ⟨d1,d2⟩ | ⟨rfl,d1,d2,d3⟩
                ·omega
                ·have hcn:(len+n) * i.size<=cap' * i.size:=Nat.mul_le_mul_right _ hle'
                 rw [Nat.add_mul] at hcn;obtain ⟨k1,k2,k3,k4⟩:=hr.inPlaceB hA hg rfl hoff (by rw [hol];exact hto) hys (by rw [hol,<- hys.length,hnl];omega);refine ⟨_,.slice (some ⟨l.b,l.sh+off,none⟩) (len+n) cap',_,?_,?_,k3,k4⟩
                 ·rw [hhead,if_pos hle']
                  refine (qA (P:=P) (hfr w rfl)).trans ?_;rw [hol] at k1 k2;have hst:=gE (P:=P) l.b (l.sh+off+len * i.size) ys 0 w hone (by grind) (by grind);have hst':(storeCells ((⟨l.b,l.sh+off,none⟩:Addr).add (len * i.size)) ys).run P w=.ok () (tN w l.b (l.sh+off+old.length) ys):=by
                   rw [kF,hst,Nat.add_zero,hol]
                  simp_all
                 ·simp only [VR]
                  refine ⟨_,_,cap',jE _ _ _,rfl,Nat.le_refl _,.inr ⟨rfl,hle',?_,fun hh=>by cases hh⟩⟩;simpa using d2
               ·
                obtain ⟨q1,q2⟩:=hr.kill hg (.inr ⟨_,rfl⟩);have hrd:∀ w':World,w'.heap=w.heap->(Builtin.firstCells i.size len (.slice (some a') len cap')).run P w'=.ok yo.toArray w':=by
                 intro w' hw;rcases hdis with ⟨d1,d2⟩ | ⟨rfl,_⟩
                 ·have:len=0:=by omega
                  subst this
                  have:yo=[]:=List.eq_nil_of_length_eq_zero (by simpa using r1)
                  subst this;simp [Builtin.firstCells,loadCells,loadCellsFrom]
                 ·simp only [Builtin.firstCells]
                  grind [run_loadCells,tH]
                obtain ⟨μ',u,w',g1,g2,g3,g4⟩:=qV ok q1 hi hz hzl hroom hle' hrd r3 r1 hfr hys hnl;exact ⟨μ',u,w',by grind,g2,g3,Ext.trans hr q2 g4⟩
            ·exact viaA hx
   ·simp at hx
end
end Ai
namespace Ai
section
variable {E:Env} {P:Program} {μ:Mu} {h:Heap} {w:World}
theorem tA1 (w:World) (b n:Nat) (c:Array Value) (e:TypeId) (hg:w.heap[b]? = some (.cells c e (0,0))) (k:Nat) (hn:k<n):(w.freeze ⟨b,n,none⟩ 1).frozen? ⟨b,k,none⟩=false:=by
 unfold World.freeze World.frozen?
 grind
theorem fAa (w:World) (b n k:Nat) (h:k≠b):(w.freeze ⟨b,n,none⟩ 1).heap[k]? = w.heap[k]?:=by
 unfold World.freeze
 grind
theorem gAa (w:World) (b n:Nat) (p:Addr):(w.freeze ⟨b,n,none⟩ 1).cell? p=w.cell? p:=by
 unfold World.freeze World.cell?
 grind
theorem pA6 (w:World) (b n r:Nat):(w.freeze ⟨b,n,none⟩ 1).shape? r=w.shape? r:=by
 unfold World.freeze World.shape?
 grind
theorem iAa (hr:HR μ h w) (e:TypeId) (s:List UInt8):DV P (Conv.stringToBytes e ⟨s.toArray⟩) μ h w (.slice (some (h.next,0)) s.length s.length 1) (h.push (.row (ofBytes s) .grown)):=by
 have hsz:(⟨s.toArray⟩:ByteArray).size=s.length:=rfl;obtain ⟨k,hk⟩:∃ k,Question.cut (.appendCap s.length 0 e) (w.tape w.drawn (.appendCap s.length 0 e))=s.length+k:=⟨_,rfl⟩
 let ys:List Value:=s.map fun b=>Value.int .u8 b.toNat
 let rest:List Value:=List.replicate k (.int .u8 0)
 have hys:VRs μ (ofBytes s) ys:=jO s;have hyl:ys.length=s.length:=by simp [ys]
 have hrl:rest.length=k:=by simp [rest]
 have hr':HR μ h w.drew:=hr.draws rfl;obtain ⟨l,l1,l2,l3,l4,h5,h6⟩:=hr'.pushGrown (ofBytes s) ys rest e hys
 let w1:World:=w.drew.alloc (.cells (ys++rest).toArray e)
 have hg1:w1.heap[w.heap.size]? = some (.cells (ys++rest).toArray e):=by show (w.heap.push _)[_]? = _;simp
 have hn:(ys++rest).length=s.length+k:=by simp [hyl,hrl]
 let w2:World:=w1.freeze ⟨w.heap.size,s.length+k,none⟩ 1
 have hsize2:w2.heap.size=w1.heap.size:=by simp [w2,World.freeze]
 have hh:∀ j,j≠w.heap.size->w2.heap[j]? = w1.heap[j]?:=fun j hj=>fAa w1 _ _ _ hj;refine ⟨_,.slice (some ⟨w.heap.size,0,none⟩) s.length (s.length+k),w2,?_,?_,⟨?_,h5.inj,?_,h5.pin⟩,?_⟩
 ·unfold Conv.stringToBytes
  refine (qA (P:=P) (a:=s.length+k) (w':=w.drew) ?_).trans ?_
  ·rw [run_choose]
   show (if Question.forced _=true then _ else _)=_;rw [if_neg (by simp [Question.forced]),hsz,hk];rfl
  have he:((⟨s.toArray⟩:ByteArray).data.map (fun b=>Value.int .u8 (b.toNat:Int))++Array.replicate (s.length+k-(⟨s.toArray⟩:ByteArray).size) (Value.int .u8 0))=(ys++rest).toArray:=by
   grind
  simp only [he];refine (qA (P:=P) (a:=(⟨w.heap.size,0,none⟩:Addr)) (w':=w1) rfl).trans ?_;have hshape:w1.shape? w.heap.size=some (e,s.length+k):=by
   grind [World.shape?]
  refine (qA (P:=P) (a:=()) (w':=w2) ?_).trans rfl;unfold markStringish;refine (qA (P:=P) (a:=some (e,s.length+k)) (w':=w1) ?_).trans rfl;rw [run_shape,hshape]
 ·simp only [VR]
  refine ⟨l,_,s.length+k,jE _ _ _,rfl,Nat.le_refl _,.inr ⟨?_,by omega,?_,fun hc=>by rw [l4] at hc;cases hc⟩⟩
  ·rw [l1,l2];rfl
  ·rw [l2,l3];omega
 ·intro A m hA;rw [hsize2];exact h5.dom A m hA
 ·intro A m b hA hb
  by_cases hm:m.b=w.heap.size
  ·have hA':A=h.next:=by
    unfold Mu.add at hA
    split at hA
    ·rename_i e;exact e
    ·have:=(hr.dom A m hA).2;omega
   subst hA';have hml:m=l:=by rw [jE] at hA;cases hA;rfl
   subst hml;have hb':b=.row (ofBytes s) .grown:=by
    rcases Tr.get_set hb with ⟨_,h1⟩ | ⟨h1,_⟩
    ·exact h1
    ·exact absurd rfl h1
   subst hb';obtain ⟨q1,q2,q3⟩:=h5.blk _ _ _ hA hb;refine ⟨⟨?_,q1.fits,?_⟩,q2,?_⟩
   ·obtain ⟨e',he'⟩:=q1.shape
    grind [pA6]
   ·intro i x hi
    obtain ⟨y,h7,h8⟩:=q1.cell i x hi
    grind [gAa]
   ·intro i hi
    grind [tA1]
  ·exact BR.heap (hh _ hm) (h5.blk A m b hA hb)
 ·have hx:Ext μ h w (μ.add h.next l) (h.push (.row (ofBytes s) .grown)) w1:=Ext.trans hr (Ext.draws (w':=w.drew) rfl rfl rfl rfl) h6
  exact ⟨hx.mono,hx.next,hx.fresh,hx.wr,fun b hb hm=>by rw [hh b (by omega)];exact hx.frame b hb hm,by grind,hx.os,hx.tape,hx.output⟩
theorem rAh (ok:EnvOK E P) (hr:HR μ h w) {src dst:TypeId} {x y:AV} {u:Value} {h':Heap} (hv:VR μ x u) (hx:nA1 E src dst x h=some (y,h')):DV P (convert src dst u) μ h w y h':=by
 unfold nA1 at hx
 split at hx
 ·rename_i d1 k k' n hu1 hu2
  simp only [Option.some.injEq,Prod.mk.injEq] at hx;obtain ⟨rfl,rfl⟩:=hx;simp only [VR] at hv;subst hv;refine ⟨μ,.int k (k.wrap n),w,?_,by simp only [VR,uM],hr,Ext.refl μ h w⟩;unfold convert;refine (qA (P:=P) (pB (eB ok hu1))).trans ?_;refine (qA (P:=P) (pB (eB ok hu2))).trans ?_;cases d1 <;> rfl
 ·rename_i d1 s hu1 hu2
  simp only [Option.some.injEq,Prod.mk.injEq] at hx;obtain ⟨rfl,rfl⟩:=hx;simp only [VR] at hv;subst hv;refine ⟨μ,.string ⟨s.toArray⟩,w,?_,by simp only [VR],hr,Ext.refl μ h w⟩;unfold convert;refine (qA (P:=P) (pB (eB ok hu1))).trans ?_;refine (qA (P:=P) (pB (eB ok hu2))).trans ?_;cases d1 <;> rfl
 ·rename_i d1 k n hu1 hu2
  simp only [Option.some.injEq,Prod.mk.injEq] at hx;obtain ⟨rfl,rfl⟩:=hx;simp only [VR] at hv;subst hv;refine ⟨μ,.string (Utf8.encode n),w,?_,by simp only [VR],hr,Ext.refl μ h w⟩;unfold convert;refine (qA (P:=P) (pB (eB ok hu1))).trans ?_;refine (qA (P:=P) (pB (eB ok hu2))).trans ?_;cases d1 <;> rfl
 ·rename_i d1 e s hu1 hu2
  split at hx
  ·rename_i hu3
   simp only [Option.some.injEq,Prod.mk.injEq] at hx;obtain ⟨rfl,rfl⟩:=hx;simp only [VR] at hv;subst hv;obtain ⟨μ',u',w',g1,g2⟩:=iAa (P:=P) hr e s;refine ⟨μ',u',w',?_,g2⟩;rw [<- g1];unfold convert;refine (qA (P:=P) (pB (eB ok hu1))).trans ?_;refine (qA (P:=P) (pB (eB ok hu2))).trans ?_;cases d1 <;> exact (qA (P:=P) (pB (eB ok hu3))).trans rfl
  ·simp at hx
 ·rename_i e a len cap sz hu1 hu2
  split at hx
  ·rename_i hu3
   obtain ⟨a',c',rfl⟩:=hv.slice_form;have hc:(convert src dst (.slice a' len c')).run P w=(Conv.bytesToString (.slice a' len c')).run P w:=by
    unfold convert;refine (qA (P:=P) (pB (eB ok hu1))).trans ?_;refine (qA (P:=P) (pB (eB ok hu2))).trans ?_;exact (qA (P:=P) (pB (eB ok hu3))).trans rfl
   cases a with
   | none=>
    simp only [Option.some.injEq,Prod.mk.injEq] at hx;obtain ⟨rfl,rfl⟩:=hx;simp only [VR,Value.slice.injEq] at hv;obtain ⟨⟨rfl,_⟩,_⟩:=hv;exact ⟨μ,.string .empty,w,by rw [hc];rfl,by simp only [VR];rfl,hr,Ext.refl μ h w⟩
   | some q=>
    obtain ⟨A,off⟩:=q;simp only at hx
    cases hrd:h.read A off len with
    | none=>simp [hrd] at hx
    | some xs=>
     simp only [hrd] at hx
     cases htb:bJ xs with
     | none=>simp [htb] at hx
     | some s=>
      simp only [htb,Option.some.injEq,Prod.mk.injEq] at hx;obtain ⟨rfl,rfl⟩:=hx;simp only [VR] at hv;obtain ⟨l,p',c2,hA,h1,hlc,hdis⟩:=hv;simp only [Value.slice.injEq] at h1;obtain ⟨rfl,_,rfl⟩:=h1;obtain ⟨ys,g1,g2,g3,_⟩:=hr.read (P:=P) hA hrd;obtain ⟨ns,rfl,rfl⟩:=lK htb g3;have hl:(loadCells p' len).run P w=.ok (ns.map (Value.int .u8)).toArray w:=by
       rcases hdis with ⟨d1,d2⟩ | ⟨rfl,_⟩
       ·have h0:len=0:=by omega
        grind [List.eq_nil_of_length_eq_zero,loadCells,loadCellsFrom]
       ·exact g1
      refine ⟨μ,_,w,by rw [hc,run_bytesToString w p' len c' ns hl],?_,hr,Ext.refl μ h w⟩;simp only [VR]
      congr 1
      have:=oZ ns []
      rw [List.nil_append] at this;exact this
  ·simp at hx
 ·rename_i t A off hu1 hu2
  split at hx
  ·rename_i cs n hrow hsz
   cases hlt:Nat.blt off cs.length with
   | false=>simp [hlt] at hx
   | true=>
    simp only [hlt,cond_true,Option.some.injEq,Prod.mk.injEq] at hx;obtain ⟨rfl,rfl⟩:=hx;simp only [VR] at hv;obtain ⟨l,hA,rfl⟩:=hv;have hrw:=hr.row hA hrow;obtain ⟨e,hsh⟩:=hrw.shape;have hlt':off<cs.length:=by simp_all
    have hin:¬ (l.tot<=l.sh+off):=by have:=hrw.fits;omega
    refine ⟨μ,.pointer (some ⟨l.b,l.sh+off,none⟩),w,?_,by simp only [VR];exact ⟨l,hA,rfl⟩,hr,Ext.refl μ h w⟩;have hc:(convert src dst (.pointer (some ⟨l.b,l.sh+off,none⟩))).run P w=(Conv.unsafePointer src dst (.pointer (some ⟨l.b,l.sh+off,none⟩))).run P w:=by
     unfold convert;refine (qA (P:=P) (pB (eB ok hu1))).trans ?_;refine (qA (P:=P) (pB (eB ok hu2))).trans ?_;rfl
    rw [hc];unfold Conv.unsafePointer;refine (qA (P:=P) (pB (eB ok hu1))).trans ?_;refine (qA (P:=P) (pB (eB ok hu2))).trans ?_;simp [Conv.seenAt,viewAt,cellsIn,hsh,fC (w:=w) ok hsz,hin]
  ·simp at hx
 ·rename_i u A off hu1 hu2
  split at hx
  ·rename_i cs e hg
   split at hx
   ·rename_i n m hse hsu
    cases hb:Nat.beq cs.length (n+1)&&E.lies e off u with
    | false=>simp [hb] at hx
    | true=>
     simp only [hb,cond_true,Option.some.injEq,Prod.mk.injEq] at hx;obtain ⟨rfl,rfl⟩:=hx;simp only [Bool.and_eq_true] at hb;have hlen:cs.length=n+1:=Nat.eq_of_beq_eq_true hb.1;simp only [VR] at hv;obtain ⟨l,hA,rfl⟩:=hv;obtain ⟨⟨hrw,_,hsh0,htot,_⟩,hsh⟩:=hr.blk A l _ hA hg;obtain ⟨i,hi,hi1,hi2⟩:=kV ok hse;have hl:=ok.lies e off u hb.2;refine ⟨μ,.pointer (some ⟨l.b,l.sh+off,none⟩),w,?_,by simp only [VR];exact ⟨l,hA,rfl⟩,hr,Ext.refl μ h w⟩;have hc:(convert src dst (.pointer (some ⟨l.b,l.sh+off,none⟩))).run P w=(Conv.unsafePointer src dst (.pointer (some ⟨l.b,l.sh+off,none⟩))).run P w:=by
      unfold convert;refine (qA (P:=P) (pB (eB ok hu1))).trans ?_;refine (qA (P:=P) (pB (eB ok hu2))).trans ?_;rfl
     rw [hc];unfold Conv.unsafePointer;refine (qA (P:=P) (pB (eB ok hu1))).trans ?_;refine (qA (P:=P) (pB (eB ok hu2))).trans ?_;have hdiv:l.tot / P.cellsOf e=1:=by simp_all
     simp [Conv.seenAt,viewAt,variablesAt,hsh,fC (w:=w) ok hsu,hdiv,hsh0,hl]
   ·simp at hx
  ·simp at hx
 ·simp at hx
end
end Ai
namespace Ai
mutual
theorem qA6:∀ (x y:AV),eqV x y=true->x=y
 | .bool a,y,h=>by cases y <;> simp [eqV] at h;cases a <;> simp_all
 | .int k a,y,h=>by cases y <;> simp [eqV,nJ,wT] at h;grind
 | .str a,y,h=>by cases y <;> simp [eqV,uE] at h;rw [h]
 | .ptr none,y,h=>by
  grind [eqV]
 | .ptr (some (A,i)),y,h=>by
  cases y <;> (try (simp [eqV] at h;done))
  rename_i p
  cases p with
  | none=>simp [eqV] at h
  | some q=>obtain ⟨B,j⟩:=q;simp only [eqV,Bool.and_eq_true] at h;simp_all
 | .slice none l c s,y,h=>by
  cases y <;> (try (simp [eqV] at h;done))
  rename_i p _ _ _
  cases p with
  | none=>simp only [eqV,Bool.and_eq_true] at h;simp_all
  | some q=>simp [eqV] at h
 | .slice (some (A,i)) l c s,y,h=>by
  cases y <;> (try (simp [eqV] at h;done))
  rename_i p _ _ _
  cases p with
  | none=>simp [eqV] at h
  | some q=>obtain ⟨B,j⟩:=q;simp only [eqV,Bool.and_eq_true] at h;simp_all
 | .map none,y,h=>by
  grind [eqV]
 | .map (some A),y,h=>by
  cases y <;> (try (simp [eqV] at h;done))
  rename_i p
  cases p with
  | none=>simp [eqV] at h
  | some q=>grind [eqV,Nat.eq_of_beq_eq_true]
 | .func f a b,y,h=>by
  cases y <;> simp only [eqV,Bool.and_eq_true,decide_eq_true_eq,Bool.false_eq_true] at h;rw [h.1.1,fR _ _ h.1.2,fR _ _ h.2]
 | .nilFunc,y,h=>by cases y <;> simp [eqV] at h;rfl
 | .iface t v,y,h=>by
  cases y <;> simp only [eqV,Bool.and_eq_true,Bool.false_eq_true] at h;rw [Nat.eq_of_beq_eq_true h.1,qA6 _ _ h.2]
 | .nilIface,y,h=>by cases y <;> simp [eqV] at h;rfl
 | .agg a,y,h=>by cases y <;> simp only [eqV,Bool.false_eq_true] at h;rw [fR _ _ h]
 | .tuple a,y,h=>by cases y <;> simp only [eqV,Bool.false_eq_true] at h;rw [fR _ _ h]
theorem fR:∀ (x y:List AV),kAe x y=true->x=y
 | [],y,h=>by cases y <;> simp [kAe] at h;rfl
 | a::x,y,h=>by
  cases y with
  | nil=>simp [kAe] at h
  | cons b y=>simp only [kAe,Bool.and_eq_true] at h;rw [qA6 _ _ h.1,fR _ _ h.2]
end
section
variable {E:Env} {P:Program} {μ:Mu} {h:Heap} {w:World}
theorem fP:∀ {s:List UInt8} {ys:List Value},VRs μ (ofBytes s) ys->ys=s.map fun b=>Value.int .u8 b.toNat
 | [],ys,h=>by simpa [ofBytes,VRs] using h
 | b::r,ys,h=>by
  simp only [ofBytes,VRs,VR] at h;obtain ⟨y,zs,rfl,rfl,h2⟩:=h;rw [fP h2];rfl
theorem vN (w:World) (a:Addr) (n:Nat) {k:Nat} (hk:k≠a.block):(w.freeze a n).heap[k]? = w.heap[k]?:=by
 unfold World.freeze
 grind
theorem rV (w:World) (a:Addr) (n:Nat):(w.freeze a n).heap.size=w.heap.size:=by
 unfold World.freeze;split <;> simp
theorem gAk (w:World) (a:Addr) (n:Nat) {c:Array Value} {e:TypeId} {fz:Nat×Nat} (hb:w.heap[a.block]? = some (.cells c e fz)):∃ fz',(w.freeze a n).heap[a.block]? = some (.cells c e fz'):=by
 unfold World.freeze
 grind
theorem uV (w:World) (a:Addr) (n:Nat):(w.freeze a n).os=w.os/\(w.freeze a n).tape=w.tape/\(w.freeze a n).output=w.output:=by
 unfold World.freeze;grind
theorem HR.freeze (hr:HR μ h w) {A:Nat} {l:Loc} {cs:List AV} {t:Nat} (hA:μ A=some l) (hg:h.t.get A=some (.row cs (.bytes t))) (n:Nat) :
  HR μ (h.put A (.row cs .ro)) (w.freeze ⟨l.b,0,none⟩ n)/\Ext μ h w μ (h.put A (.row cs .ro)) (w.freeze ⟨l.b,0,none⟩ n):=by
 obtain ⟨⟨hrow,hex,hfree⟩,hty,hsh0⟩:=hr.blk A l _ hA hg;have hgo:∀ {B:Nat} {b:Blk},(h.put A (.row cs .ro)).t.get B=some b->(B=A/\b=.row cs .ro)\/(B≠A/\h.t.get B=some b):=fun hb=>Tr.get_set hb;have hlive:∀ {B:Nat} {b:Blk},(h.put A (.row cs .ro)).t.get B=some b->∃ b₀,h.t.get B=some b₀/\b₀.live=b.live/\(b.isRo=false->b₀.isRo=false)/\(b₀.isRo=true->b.isRo=true):=by
  intro B b hb;rcases hgo hb with ⟨rfl,rfl⟩ | ⟨_,h1⟩
  ·exact ⟨_,hg,rfl,fun h=>by simp [Blk.isRo] at h,fun h=>rfl⟩
  grind
 obtain ⟨c,e,fz,hb⟩:∃ c e fz,w.heap[l.b]? = some (.cells c e fz):=by
  grind [World.shape?]
 obtain ⟨fz',hb'⟩:=gAk w ⟨l.b,0,none⟩ n hb;refine ⟨⟨?_,?_,?_,hr.pin⟩,⟨Mu.le_refl μ,Nat.le_refl _,fun _ _ h=>.inl h,?_,?_,?_,(uV _ _ _).1,(uV _ _ _).2.1,(uV _ _ _).2.2⟩⟩
 ·intro B k hB';have:=hr.dom B k hB';exact ⟨this.1,by rw [rV];exact this.2⟩
 ·intro B C lb lc bb bc hb hc gb gc vb vc hne heq
  obtain ⟨b₀,g0,v0,_,r0⟩:=hlive gb;obtain ⟨c₀,g1,v1,_,r1⟩:=hlive gc
  have:=hr.inj B C lb lc b₀ c₀ hb hc g0 g1 (v0.trans vb) (v1.trans vc) hne heq
  grind
 ·intro B k b hB' hb2
  rcases hgo hb2 with ⟨rfl,rfl⟩ | ⟨hne,h1⟩
  ·have:k=l:=by grind
   subst this;have hs:(w.freeze ⟨k.b,0,none⟩ n).shape? k.b=w.shape? k.b:=by
    simp only [World.shape?,hb',hb]
   refine ⟨by grind,hrow.fits,fun i x hi=>?_⟩;obtain ⟨y,h2,h3⟩:=hrow.cell i x hi
   grind [World.cell?]
  ·by_cases hd:b.live=true
   ·have hkb:k.b≠l.b:=by
     intro e
     have:=(hr.inj B A k l b _ hB' hA h1 hg hd rfl hne e).2
     simp [Blk.isRo] at this
    exact BR.heap (vN _ _ _ hkb) (hr.blk B k b hB' h1)
   ·cases b with
    | row cs'' st''=>cases st'' <;> simp [Blk.live] at hd;trivial
    | map=>simp [Blk.live] at hd
    | siter=>simp [Blk.live] at hd
 ·rintro B hlt ⟨b,hb2,hro⟩
  obtain ⟨b₀,g0,_,r0,_⟩:=hlive hb2;exact ⟨b₀,g0,r0 hro⟩
 ·intro k hk hm
  refine vN _ _ _ ?_;intro e;exact hm A l hA e.symm ⟨_,hg,rfl⟩
 ·rw [rV];exact Nat.le_refl _
theorem vV (ok:EnvOK E P) (hr:HR μ h w) {pt it ty:TypeId} {A:Nat} {n:Int} {pv:Value} {y:AV} {h':Heap} (hv:VR μ (.ptr (some (A,0))) pv) (hx:qJ E pt A n h=some (y,h')) :
  DV P (Builtin.unsafeString_ #[pt,it] ty #[pv,.int .i64 n]) μ h w y h':=by
 unfold qJ at hx
 split at hx
 ·rename_i e cs t k hpt hg
  cases hte:Nat.beq t e with
  | false=>simp [hte] at hx
  | true=>
   simp only [hte,cond_true] at hx
   have:t=e:=Nat.eq_of_beq_eq_true hte
   subst this
   split at hx
   ·rename_i l1 hs hl
    split at hx
    ·rename_i s hb
     cases hk:Nat.ble (k+1) 1073741824&&kAe l1 (ofBytes s) with
     | false=>simp [hk] at hx
     | true=>
      simp only [hk,cond_true,Option.some.injEq,Prod.mk.injEq] at hx;obtain ⟨rfl,rfl⟩:=hx;simp only [Bool.and_eq_true] at hk;have hk':k+1<=1073741824:=Nat.le_of_ble_eq_true hk.1;have hl1:=fR _ _ hk.2;subst hl1;simp only [VR] at hv;obtain ⟨l,hA,rfl⟩:=hv;obtain ⟨⟨hrow,hex,hfree⟩,hty,hsh0⟩:=hr.blk A l _ hA hg;obtain ⟨ys,r1,r2,r3⟩:=hrow.read (off:=0) (n:=k+1) (by simpa using hl);obtain ⟨ns,hns,hs2⟩:=lK hb r3;obtain ⟨i,hi,_,hc⟩:=kV ok hs;have hsl:s.length=k+1:=by grind
      have hin:(ofBytes s).length=k+1:=by rw [<- r3.length,r1]
      have hfit:k+1<=l.tot:=by
       have h1:=hrow.fits;have h2:(ofBytes s).length<=cs.length:=by
        have:=(rH hl).1;grind
       omega
      have hs0:s≠[]:=by grind
      have hys:ys=s.map fun b=>Value.int .u8 b.toNat:=fP r3;obtain ⟨h1,h2⟩:=hr.freeze hA hg s.length;have hrun:=Lib.run_unsafeString_row (P:=P) w pt it ty t (eB ok hpt) hc l.b l.tot hty s hs0 (by omega) (by omega) (fun j x hj=>by
       have h5:ys[j]? = some (.int .u8 x.toNat):=by grind
       grind [Addr.add])
      refine ⟨μ,.string ⟨s.toArray⟩,_,?_,by simp only [VR],h1,h2⟩
      grind
    ·simp at hx
   ·simp at hx
 ·simp at hx
end
end Ai
namespace Ai
section
variable {E:Env} {P:Program} {μ:Mu} {h:Heap} {w:World} {nt:Nat} {fr:Fr} {a:Act}
theorem uL {f:AV->AV->Option AV} {g:Value->Value->Sem Value} (hfg:∀ x y z u v,f x y=some z->VR μ x u->VR μ y v->PV P (g u v) w μ z) :
  ∀ {r:List AV} {r':List Value} {x z:AV} {u:Value},VR μ x u->VRs μ r r'->nAh f x r=some z->PV P (r'.foldlM g u) w μ z
 | [],r',x,z,u,hx,hr,h=>by
  simp only [VRs] at hr;subst hr;simp [nAh] at h;subst h;exact ⟨u,rfl,hx⟩
 | y::r,r',x,z,u,hx,hr,h=>by
  simp only [VRs] at hr;obtain ⟨v,rs,rfl,hy,hrs⟩:=hr;simp only [nAh] at h
  cases hf:f x y with
  | none=>simp [hf] at h
  | some m=>
   simp only [hf] at h;obtain ⟨um,h1,h2⟩:=hfg x y m u v hf hx hy;obtain ⟨uz,h3,h4⟩:=uL hfg h2 hrs h;exact ⟨uz,by simp_all,h4⟩
theorem iAk (x y z:AV) (u v:Value) (h:gB8 x y=some z) (hx:VR μ x u) (hy:VR μ y v):PV P (Builtin.min2 u v) w μ z:=by
 unfold gB8 at h
 split at h
 ·simp at h;subst h
  simp only [VR] at hx hy;subst hx hy;refine ⟨_,rfl,?_⟩
  grind [VR,yT]
 ·simp at h
theorem jAk (x y z:AV) (u v:Value) (h:iB8 x y=some z) (hx:VR μ x u) (hy:VR μ y v):PV P (Builtin.max2 u v) w μ z:=by
 unfold iB8 at h
 split at h
 ·simp at h;subst h
  simp only [VR] at hx hy;subst hx hy;refine ⟨_,rfl,?_⟩
  grind [VR,yT]
 ·simp at h
theorem kAk (ok:EnvOK E P) {t ty:TypeId} {x z:AV} {u:Value} {ts:Array TypeId} (hts:ts[0]? = some t) (hx:VR μ x u) (hl:lB0 E t x=some z):PV P (Builtin.len_ ts ty #[u]) w μ z:=by
 have hhead:∀ (k:Sem Value),True:=fun _=>trivial;unfold lB0 at hl
 split at hl
 ·rename_i s hu
  simp at hl;subst hl;simp only [VR] at hx;subst hx;refine ⟨.int .i64 s.length,?_,by simp only [VR]⟩;unfold Builtin.len_;rw [hts];exact (qA (P:=P) (pB (eB ok hu))).trans rfl
 ·rename_i n e hu
  simp at hl;subst hl;refine ⟨.int .i64 n,?_,by simp only [VR]⟩;unfold Builtin.len_;rw [hts];exact (qA (P:=P) (pB (eB ok hu))).trans (by cases u <;> rfl)
 ·rename_i e p n cap sz hu
  simp at hl;subst hl;obtain ⟨p',c,rfl⟩:=hx.slice_form;refine ⟨.int .i64 n,?_,by simp only [VR]⟩;unfold Builtin.len_;rw [hts];exact (qA (P:=P) (pB (eB ok hu))).trans rfl
 ·simp at hl
theorem mK (ok:EnvOK E P) {t:TypeId} {b:Bool} {x:AV} (hx:yR E t b=some x):b=true/\∃ z zv,x=.tuple [z,.bool false]/\(∀ w,(zeroValue t).run P w=.ok zv w)/\∀ μ,VR μ x (.tuple #[zv,.bool false]):=by
 unfold yR at hx
 cases b with
 | false=>simp at hx
 | true=>
  simp only [cond_true] at hx
  cases hz:E.zero t with
  | none=>simp [hz] at hx
  | some z=>
   simp [hz] at hx;subst hx;obtain ⟨zv,h1,h2⟩:=tE ok hz;exact ⟨rfl,z,zv,rfl,h1,fun μ=>by simp only [VR];exact ⟨_,rfl,VRs.cons (h2 μ) (VRs.cons (by simp only [VR]) VRs.nil)⟩⟩
theorem rA6 {b:Bool} {v:AV} {u:Value} (hv:VR μ v u):VR μ (cA6 b v) (if b then .tuple #[u,.bool true] else u):=by
 cases b with
 | false=>exact hv
 | true=>simp only [cA6,cond_true,if_true,VR];exact ⟨_,rfl,VRs.cons hv (VRs.cons (by simp only [VR]) VRs.nil)⟩
theorem tA6 (ok:EnvOK E P) {x y:AV} {u:Value} {xt t:TypeId} {b:Bool} (hv:VR μ x u) (hx:cJ E x t b=some y):PV P (Instr.typeAssert u xt t b) w μ y:=by
 unfold cJ at hx
 cases hu:E.und t with
 | none=>simp [hu] at hx
 | some d=>
  simp only [hu] at hx;have hund:=eB ok hu
  cases hd:rM d with
  | some want=>
   simp only [hd] at hx;have hd':d=.interface want:=by cases d <;> simp [rM] at hd;rw [hd]
   subst hd'
   split at hx
   ·simp only [VR] at hv;subst hv
    obtain ⟨rfl,z,zv,rfl,h1,h2⟩:=mK ok hx;refine ⟨_,?_,h2 μ⟩;unfold Instr.typeAssert;refine (qA (P:=P) (pB hund)).trans ?_
    simp_all
   ·rename_i t' v
    have hv':=hv;simp only [VR] at hv;obtain ⟨u',rfl,hv⟩:=hv
    cases hi:E.info t' with
    | none=>simp [hi] at hx
    | some i=>
     simp only [hi] at hx
     cases hm:Instr.missingMethod want i.methods with
     | none=>
      simp [hm] at hx;subst hx;refine ⟨_,?_,rA6 hv'⟩;unfold Instr.typeAssert;refine (qA (P:=P) (pB hund)).trans ?_;refine (qA (P:=P) (cF (ok.info _ _ hi))).trans ?_;rw [hm];rfl
     | some m=>
      simp only [hm] at hx;obtain ⟨rfl,z,zv,rfl,h1,h2⟩:=mK ok hx;refine ⟨_,?_,h2 μ⟩;unfold Instr.typeAssert;refine (qA (P:=P) (pB hund)).trans ?_;refine (qA (P:=P) (cF (ok.info _ _ hi))).trans ?_
      simp_all
   ·simp at hx
  | none=>
   simp only [hd] at hx
   split at hx
   ·simp only [VR] at hv;subst hv
    obtain ⟨rfl,z,zv,rfl,h1,h2⟩:=mK ok hx;refine ⟨_,?_,h2 μ⟩;unfold Instr.typeAssert;refine (qA (P:=P) (pB hund)).trans ?_;cases d <;> first | (simp [rM] at hd;done) | exact (qA (P:=P) (h1 w)).trans rfl
   ·rename_i t' v
    simp only [VR] at hv;obtain ⟨u',rfl,hv⟩:=hv
    cases ht:Nat.beq t' t with
    | true=>
     simp [ht] at hx;subst hx
     have:t'=t:=Nat.eq_of_beq_eq_true ht
     subst this;refine ⟨_,?_,rA6 hv⟩;unfold Instr.typeAssert;refine (qA (P:=P) (pB hund)).trans ?_;cases d <;> first | (simp [rM] at hd;done) | (show Sem.run P (if t'=t' then _ else _) w=_;rw [if_pos rfl];rfl)
    | false=>
     simp only [ht,cond_false] at hx;obtain ⟨rfl,z,zv,rfl,h1,h2⟩:=mK ok hx;have hne:¬ (t'=t):=fun e=>by simp_all
     refine ⟨_,?_,h2 μ⟩;unfold Instr.typeAssert;refine (qA (P:=P) (pB hund)).trans ?_;cases d <;> first | (simp [rM] at hd;done) | (show Sem.run P (if t'=t then _ else _) w=_;rw [if_neg hne];exact (qA (P:=P) (h1 w)).trans rfl)
   ·simp at hx
theorem aC {v:Option AV} {x:AV} {h':Heap} (hx:tC h v=some (x,h')):v=some x/\h'=h:=by
 cases v with
 | none=>simp [tC] at hx
 | some y=>grind [tC,Option.some.injEq,Prod.mk.injEq]
theorem uA1 (ok:EnvOK E P) (hr:HR μ h w) {b:Builtin} {ts:Array TypeId} {ty:TypeId} {cst:Array Bool} {args:List AV} {args':Array Value} {x:AV} {h':Heap} (ha:VRs μ args args'.toList)
  (hx:qD E b ts.toList args h=some (x,h')):∃ s:Sem Value,(builtin b ts ty cst args')=(do pure (.value (<- s)))/\DV P s μ h w x h':=by
 unfold qD at hx
 split at hx
 ·rename_i st xt s x' hts
  obtain ⟨ts⟩:=ts;simp only at hts;subst hts;obtain ⟨args'⟩:=args';simp only [VRs] at ha;obtain ⟨u,r,rfl,h1,v,r2,rfl,h2,rfl⟩:=ha;exact ⟨_,rfl,oA6 ok hr h1 h2 hx⟩
 ·rename_i t x' hts
  obtain ⟨ts⟩:=ts;simp only at hts;subst hts;obtain ⟨args'⟩:=args';simp only [VRs] at ha;obtain ⟨u,r,rfl,h1,rfl⟩:=ha;obtain ⟨h2,rfl⟩:=aC hx;exact ⟨_,rfl,(kAk ok rfl h1 h2).dv hr⟩
 ·obtain ⟨args'⟩:=args'
  simp only [VRs] at ha;obtain ⟨u,r,rfl,h1,h2⟩:=ha;obtain ⟨h3,rfl⟩:=aC hx;exact ⟨_,rfl,(uL (P:=P) (w:=w) iAk h1 h2 h3).dv hr⟩
 ·obtain ⟨args'⟩:=args'
  simp only [VRs] at ha;obtain ⟨u,r,rfl,h1,h2⟩:=ha;obtain ⟨h3,rfl⟩:=aC hx;exact ⟨_,rfl,(uL (P:=P) (w:=w) jAk h1 h2 h3).dv hr⟩
 ·rename_i t A off len cap sz hts
  obtain ⟨ts⟩:=ts;simp only at hts;subst hts;obtain ⟨args'⟩:=args';simp only [VRs,VR] at ha;obtain ⟨u,r,rfl,⟨l,a',c',hA,rfl,hlc,hd⟩,rfl⟩:=ha;simp only [Option.some.injEq,Prod.mk.injEq] at hx;obtain ⟨rfl,rfl⟩:=hx;rcases hd with ⟨h0,_⟩ | ⟨rfl,h2,_⟩
  ·omega
  ·exact ⟨_,rfl,PV.dv ⟨_,Lib.run_unsafeSliceData_row w _ _ _ _ _ (by omega),by simp only [VR];exact ⟨l,hA,rfl⟩⟩ hr⟩
 ·rename_i t len cap sz hts
  obtain ⟨ts⟩:=ts;simp only at hts;subst hts;obtain ⟨args'⟩:=args';simp only [VRs,VR] at ha;obtain ⟨u,r,rfl,⟨rfl,rfl,rfl⟩,rfl⟩:=ha;simp only [Option.some.injEq,Prod.mk.injEq] at hx;obtain ⟨rfl,rfl⟩:=hx;exact ⟨_,rfl,PV.dv ⟨_,Lib.run_unsafeSliceData_nil w _ _ _ _,by simp only [VR]⟩ hr⟩
 ·rename_i pt t2 A n hts
  obtain ⟨ts⟩:=ts;simp only at hts;subst hts;obtain ⟨args'⟩:=args';simp only [VRs] at ha;obtain ⟨u,r,rfl,h1,v,r2,rfl,h2,rfl⟩:=ha;simp only [VR] at h2;subst h2;exact ⟨_,rfl,vV ok hr h1 hx⟩
 ·rename_i pt t2 hts
  obtain ⟨ts⟩:=ts;simp only at hts;subst hts;obtain ⟨args'⟩:=args';simp only [VRs] at ha;obtain ⟨u,r,rfl,h1,v,r2,rfl,h2,rfl⟩:=ha;simp only [VR] at h1 h2;subst h1 h2;simp only [Option.some.injEq,Prod.mk.injEq] at hx;obtain ⟨rfl,rfl⟩:=hx;exact ⟨_,rfl,PV.dv ⟨_,Lib.run_unsafeString_none w _ _ _ _,by simp only [VR];rfl⟩ hr⟩
 ·simp at hx
end
end Ai
namespace Ai
section
variable {E:Env} {P:Program} {μ:Mu} {h:Heap} {w:World}
end
end Ai
namespace Ai
section
variable {E:Env} {P:Program} {μ:Mu} {h:Heap} {w:World}
end
end Ai
namespace Ai
section
variable {E:Env} {P:Program} {μ:Mu} {h:Heap} {w:World} {nt:Nat} {fr:Fr} {a:Act}
def DN (P:Program) (s:Sem Next) (μ:Mu) (h:Heap) (w:World) (x:AV) (h':Heap):Prop:=
 ∃ μ' n u w',s.run P w=.ok n w'/\(n=.value u\/(n=.skip/\u=undef))/\VR μ' x u/\HR μ' h' w'/\Ext μ h w μ' h' w'
theorem DV.dn {s:Sem Value} {x:AV} {h':Heap} (hd:DV P s μ h w x h'):DN P (do pure (.value (<- s))) μ h w x h':=by
 obtain ⟨μ',u,w',h1,h2⟩:=hd;exact ⟨μ',.value u,u,w',qA h1,.inl rfl,h2⟩
theorem PV.dn {s:Sem Value} {x:AV} (hp:PV P s w μ x) (hr:HR μ h w):DN P (do pure (.value (<- s))) μ h w x h:=(hp.dv hr).dn
theorem nK (ha:AR μ nt fr a):∀ {ps:List (Nat×Operand)} {l:List (Nat×AV)},jF fr ps=some l->PR μ l (ps.map fun (i,x)=>(i,a.eval x))
 | [],l,h=>by simp [jF] at h;subst h;simp [PR]
 | (i,x)::r,l,h=>by
  simp only [jF] at h
  cases ho:eG fr x with
  | none=>simp [ho] at h
  | some v=>
   simp only [ho] at h
   cases hp:jF fr r with
   | none=>simp [hp] at h
   | some l'=>
    simp [hp] at h;subst h;simp only [PR];exact ⟨a.eval x,_,rfl,tB ha ho,nK ha hp⟩
theorem aD {x:Operand} {f:AV->Option (AV×Heap)} {r:AV×Heap} (hx:op1 fr x f=some r):∃ v,eG fr x=some v/\f v=some r:=by
 unfold op1 at hx
 grind
theorem vM {x y:Operand} {f:AV->AV->Option (AV×Heap)} {r:AV×Heap} (hx:op2 fr x y f=some r):∃ v u,eG fr x=some v/\eG fr y=some u/\f v u=some r:=by
 unfold op2 at hx
 grind
theorem aAq {x y z:Operand} {f:AV->AV->AV->Option (AV×Heap)} {r:AV×Heap} (hx:op3 fr x y z f=some r):∃ v u q,eG fr x=some v/\eG fr y=some u/\eG fr z=some q/\f v u q=some r:=by
 unfold op3 at hx
 grind
theorem uA6 (ha:AR μ nt fr a) {x:Option Operand} {v:Option AV} (hx:dA6 fr x=some v):OR μ v (x.map a.eval):=by
 cases x with
 | none=>simp [dA6] at hx;subst hx;trivial
 | some y=>
  simp only [dA6] at hx
  cases ho:eG fr y with
  | none=>simp [ho] at hx
  | some u=>simp [ho] at hx;subst hx;exact tB ha ho
theorem bAq (ok:EnvOK E P) (hr:HR μ h w) (ha:AR μ nt fr a) {o:Oper} {x:AV} {h':Heap} (hx:opA E fr o.op h=some (x,h')):DN P (execOp a.eval o) μ h w x h':=by
 obtain ⟨dst,op,type,pos,after,guard⟩:=o;simp only at hx;cases op <;> simp only [opA,reduceCtorEq] at hx
 case move y=>
  obtain ⟨h1,rfl⟩:=aC hx;exact ⟨μ,_,_,w,rfl,.inl rfl,tB ha h1,hr,Ext.refl μ _ w⟩
 case assign y=>
  obtain ⟨h1,rfl⟩:=aC hx;exact ⟨μ,_,_,w,rfl,.inl rfl,tB ha h1,hr,Ext.refl μ _ w⟩
 case pick c y z=>
  obtain ⟨v,h1,h2⟩:=aD hx;have hv:=tB ha h1
  split at h2
  ·obtain ⟨h3,rfl⟩:=aC h2
   simp only [VR] at hv;exact ⟨μ,.value (a.eval y),_,w,by simp [execOp,hv,asBool],.inl rfl,tB ha h3,hr,Ext.refl μ _ w⟩
  ·obtain ⟨h3,rfl⟩:=aC h2
   simp only [VR] at hv;exact ⟨μ,.value (a.eval z),_,w,by simp [execOp,hv,asBool],.inl rfl,tB ha h3,hr,Ext.refl μ _ w⟩
  ·simp at h2
 case alloc e=>
  cases hz:E.zero e with
  | none=>simp [hz] at hx
  | some z=>
   simp only [hz,Option.some.injEq] at hx;simp only [Prod.mk.injEq] at hx;obtain ⟨rfl,rfl⟩:=hx
   cases ht:E.trk e with
   | false=>exact (cAa (P:=P) ok hr hz).dn
   | true=>exact (nA6 (P:=P) ok hr hz).dn
 case box e y=>
  obtain ⟨v,h1,h2⟩:=aD hx;simp only [Option.some.injEq,Prod.mk.injEq] at h2;obtain ⟨rfl,rfl⟩:=h2
  cases ht:E.trk e with
  | false=>exact (fAk (P:=P) (e:=e) hr (tB ha h1)).dn
  | true=>exact (qAh (P:=P) (e:=e) hr (tB ha h1)).dn
 case build t ps=>
  cases hp:jF fr ps.toList with
  | none=>simp [hp] at hx
  | some l=>
   simp only [hp] at hx;obtain ⟨h1,rfl⟩:=aC hx;exact (bAa (P:=P) (w:=w) (parts':=ps.map fun (i,x)=>(i,a.eval x)) ok (by simpa using nK ha hp) h1).dn hr
 case buildSlice t len ps=>
  cases hp:jF fr ps.toList with
  | none=>simp [hp] at hx
  | some l=>
   simp only [hp] at hx;have hps:PR μ l (ps.map fun (i,x)=>(i,a.eval x)).toList:=by simpa using nK ha hp
   have hb:=(nT (P:=P) ok hr hps hx).dn
   grind [execOp]
 case load t y=>
  obtain ⟨v,h1,h2⟩:=aD hx;obtain ⟨h3,rfl⟩:=aC h2;obtain ⟨u,h4,h5⟩:=jA6 (P:=P) ok hr (tB ha h1) h3;exact PV.dn ⟨u,h4,h5⟩ hr
 case store t y z=>
  obtain ⟨v,u,h1,h2,h3⟩:=vM hx
  cases hs:lZ E h t v u with
  | none=>simp [hs,unit] at h3
  | some h2'=>
   simp only [hs,unit,Option.some.injEq,Prod.mk.injEq] at h3;obtain ⟨rfl,rfl⟩:=h3;obtain ⟨w',h4,h5,h6⟩:=rA1 (P:=P) ok hr (tB ha h1) (tB ha h2) hs;exact ⟨μ,.skip,undef,w',qA h4,.inr ⟨rfl,rfl⟩,by simp only [undefA,VR];exact ⟨#[],rfl,VRs.nil⟩,h5,h6⟩
 case nilCheck y=>
  obtain ⟨v,h1,h2⟩:=aD hx;obtain ⟨h3,rfl⟩:=aC h2;obtain ⟨h4,h5⟩:=gZ (P:=P) (w:=w) h3 (tB ha h1) a.eval ⟨dst,.nilCheck y,type,pos,after,guard⟩ y rfl rfl;exact ⟨μ,_,_,w,h4,.inl rfl,h5,hr,Ext.refl μ _ w⟩
 case binOp op t y z yt=>
  obtain ⟨v,u,h1,h2,h3⟩:=vM hx;obtain ⟨h4,rfl⟩:=aC h3;have hb:=dAk (P:=P) (w:=w) (xo:=y) (yo:=z) ok h4 (tB ha h1) (tB ha h2);have hb':=hb.dn hr
  grind [execOp]
 case unOp op t y=>
  obtain ⟨v,h1,h2⟩:=aD hx;obtain ⟨h3,rfl⟩:=aC h2;exact (wAp (P:=P) (w:=w) h3 (tB ha h1)).dn hr
 case convert s d y=>
  obtain ⟨v,h1,h2⟩:=aD hx;exact (rAh (P:=P) ok hr (tB ha h1) h2).dn
 case makeInterface t y=>
  split at hx
  ·simp at hx
  ·rename_i d n1 hu
   obtain ⟨v,h1,h2⟩:=aD hx;simp only [Option.some.injEq,Prod.mk.injEq] at h2;obtain ⟨rfl,rfl⟩:=h2;refine PV.dn ⟨.iface t (a.eval y),?_,by simp only [VR];exact ⟨_,rfl,tB ha h1⟩⟩ hr;unfold Instr.makeInterface;refine (qA (P:=P) (pB (eB ok hu))).trans ?_
   simp_all
  ·simp at hx
 case makeFunc fn first captured=>
  cases h1:jG fr first.toList with
  | none=>simp [h1] at hx
  | some l=>
   cases h2:jG fr captured.toList with
   | none=>simp [h1,h2] at hx
   | some m=>
    simp only [h1,h2,Option.some.injEq,Prod.mk.injEq] at hx;obtain ⟨rfl,rfl⟩:=hx;refine PV.dn ⟨.func fn (first.map a.eval) (captured.map a.eval),rfl,?_⟩ hr;simp only [VR];exact ⟨_,_,rfl,by simpa using fK ha h1,by simpa using fK ha h2⟩
 case slice t y lo hi mx=>
  cases mx with
  | some m=>simp at hx
  | none=>
   simp only at hx
   cases h1:dA6 fr lo with
   | none=>simp [h1] at hx
   | some lo'=>
    cases h2:dA6 fr hi with
    | none=>simp [h1,h2] at hx
    | some hi'=>
     simp only [h1,h2] at hx;obtain ⟨v,h3,h4⟩:=aD hx;obtain ⟨h5,rfl⟩:=aC h4;exact (wA9 (P:=P) ok hr (uA6 ha h1) (uA6 ha h2) (tB ha h3) h5).dn hr
 case fieldAddr s y f=>
  obtain ⟨v,h1,h2⟩:=aD hx;obtain ⟨h3,rfl⟩:=aC h2;exact (mV (P:=P) (w:=w) ok (tB ha h1) h3).dn hr
 case field t y f=>
  obtain ⟨v,h1,h2⟩:=aD hx;obtain ⟨h3,rfl⟩:=aC h2;exact (yA9 (P:=P) (w:=w) ok (tB ha h1) h3).dn hr
 case indexAddr t y z=>
  obtain ⟨v,u,h1,h2,h3⟩:=vM hx;obtain ⟨h4,rfl⟩:=aC h3;exact (nV (P:=P) (w:=w) ok (tB ha h1) (tB ha h2) h4).dn hr
 case index t y z=>
  obtain ⟨v,u,h1,h2,h3⟩:=vM hx;obtain ⟨h4,rfl⟩:=aC h3;exact (aAa (P:=P) (w:=w) ok (tB ha h1) (tB ha h2) h4).dn hr
 case typeAssert y xt t b=>
  obtain ⟨v,h1,h2⟩:=aD hx;obtain ⟨h3,rfl⟩:=aC h2;exact (tA6 (P:=P) (w:=w) ok (tB ha h1) h3).dn hr
 case extract t i=>
  obtain ⟨v,h1,h2⟩:=aD hx;have hv:=tB ha h1
  split at h2
  ·obtain ⟨h3,rfl⟩:=aC h2
   simp only [VR] at hv;obtain ⟨vs',hv1,hv2⟩:=hv;obtain ⟨y,h4,h5⟩:=hv2.get h3;refine PV.dn ⟨y,?_,h5⟩ hr
   have:vs'[i]? = some y:=by simpa using h4
   simp [Instr.extract,hv1,this]
  ·simp at h2
end
end Ai
namespace Ai
section
variable {E:Env} {P:Program} {μ:Mu} {h:Heap} {w:World} {nt:Nat} {fr:Fr} {a:Act}
theorem vA6 (x:Value) (l:Array Value):(#[x]++l)[0]? = some x:=by
 grind
theorem wA6 (x:Value) (l:Array Value):(#[x]++l).extract 1 (#[x]++l).size=l:=by
 simp_all
def cB0 (μ:Mu) (h:Heap) (w:World) (v:AV) (h':Heap) (u:Value) (w':World):Prop:=∃ μ',VR μ' v u/\HR μ' h' w'/\Ext μ h w μ' h' w'
def gP (P:Program) (call:CallF):Prop:=∀ f args h v h',call f args h=some (v,h')->∀ μ w (args':Array Value),HR μ h w->VRs μ args args'.toList->
 (∃ u w',(callFunc f args').run P w=.ok (.value u) w'/\cB0 μ h w v h' u w')\/
 ((callFunc f args').run P w=.ok (.enter f args') w/\Calls P f args' w fun e w'=>∃ u,e=.returned u/\cB0 μ h w v h' u w')
theorem gS (ok:EnvOK E P) (hr:HR μ h w) {t:TypeId} {v:AV} {vu:Value} {name:String} {args:List AV} {args':Array Value} {tg:Tgt} (hv:VR μ v vu) (ha:VRs μ args args'.toList)
  (hx:yQ E h t v name args=some tg):∃ f args2 args2',tg=.fn f args2/\VRs μ args2 args2'.toList/\(callMethod (.iface t vu) name args').run P w=(callFunc f args2').run P w:=by
 unfold yQ at hx
 cases hi:E.info t with
 | none=>simp [hi] at hx
 | some i=>
  simp only [hi] at hx
  cases hm:i.methods.find? (·.name == name) with
  | none=>simp [hm] at hx
  | some m=>
   simp only [hm] at hx;have hinfo:=ok.info t i hi
   split at hx
   ·rename_i f ptr hpath hfunc
    have hempty:m.path = #[]:=by
     grind
    have hfol:(follow m.path.toList t (.val vu)).run P w=.ok (t,.val vu) w:=by rw [hempty];rfl
    have hdep:0<Made.depth:=by decide
    obtain ⟨k,hk⟩:∃ k,P.types.size+Made.depth=k+1:=⟨P.types.size+Made.depth-1,by omega⟩;have hcall:∀ (r:Value),(receiverAt t (.val vu) ptr (if m.path.isEmpty then some ((name.splitOn ".").getLastD name) else none)).run P w=.ok r w->
      (callMethod (.iface t vu) name args').run P w=(callFunc f (#[r]++args')).run P w:=by
     intro r hrr;unfold callMethod;refine (qA (P:=P) (a:=P) (w':=w) rfl).trans ?_;rw [hk];refine (qA (P:=P) (a:=(f,r)) (w':=w) ?_).trans rfl;unfold method;refine (qA (P:=P) (cF hinfo)).trans ?_
     simp_all
    split at hx
    ·rename_i e hu
     simp only [Option.some.injEq] at hx;subst hx;refine ⟨f,v::args,#[vu]++args',rfl,by simpa using VRs.cons hv ha,hcall vu ?_⟩;unfold receiverAt;exact (qA (P:=P) (pB (eB ok hu))).trans rfl
    ·rename_i e hu
     cases hl:nN E h e v with
     | none=>simp [hl] at hx
     | some x=>
      simp only [hl,Option.some.injEq] at hx;subst hx;obtain ⟨ad,y,rfl,h1,h2⟩:=jK (P:=P) ok hr hv hl;refine ⟨f,x::args,#[y]++args',rfl,by simpa using VRs.cons h2 ha,hcall y ?_⟩;unfold receiverAt;refine (qA (P:=P) (pB (eB ok hu))).trans ?_;refine (qA (P:=P) (a:=.pointer (some ad)) (w':=w) rfl).trans ?_;rw [hempty];refine (qA (P:=P) (a:=.pointer (some ad)) (w':=w) ?_).trans ?_
      ·rfl
      ·exact (qA (P:=P) (a:=ad) (w':=w) rfl).trans h1
    ·rename_i d n1 hu
     simp only [Option.some.injEq] at hx;subst hx;refine ⟨f,v::args,#[vu]++args',rfl,by simpa using VRs.cons hv ha,hcall vu ?_⟩;unfold receiverAt;refine (qA (P:=P) (pB (eB ok hu))).trans ?_;cases d <;> first | rfl | exact absurd rfl (n1 _)
    ·simp at hx
   ·simp at hx
theorem tB0 (ok:EnvOK E P) {call:CallF} (hcall:gP P call) (hr:HR μ h w) (ha:AR μ nt fr a) {o:Oper} {x:AV} {h':Heap} (hx:eH E call fr o.op h=some (x,h'))
  {next:Act->World->Prop} {Q:Exit->Act->World->Prop} (hn:∀ μ' u w',VR μ' x u->HR μ' h' w'->Ext μ h w μ' h' w'->next (a.put o.dst u) w'):o.wp P a w next Q:=by
 have plain:∀ {s:Sem Next},execOp a.eval o=s->DN P s μ h w x h'->o.wp P a w next Q:=by
  intro s hs hd;obtain ⟨μ',n,u,w',h1,h2,h3,h4,h5⟩:=hd;unfold Oper.wp;rw [hs,h1];rcases h2 with rfl | ⟨rfl,rfl⟩
  ·grind [Oper.upon_value]
  grind [Oper.upon_skip,undef]
 unfold eH at hx
 split at hx
 ·rename_i c hop
  have fin:∀ {f:FuncId} {args:List AV} {args':Array Value},call f args h=some (x,h')->VRs μ args args'.toList->(execOp a.eval o).run P w=(callFunc f args').run P w->o.wp P a w next Q:=by
   intro f args args' hc hv he;unfold Oper.wp;rw [he];rcases hcall f args h x h' hc μ w args' hr hv with ⟨u,w',h1,μ',h2,h3,h4⟩ | ⟨h1,h2⟩
   ·grind [Oper.upon_value]
   ·rw [h1,Oper.upon_enter]
    refine Calls.mono h2 ?_;rintro e w' ⟨u,rfl,μ',h3,h4,h5⟩
    grind
  have hexec:execOp a.eval o=(do let d <- resolve a.eval c o.type;invoke d.target d.args):=by
   simp only [execOp,hop]
  unfold kAj at hx
  cases hargs:jG fr c.args.toList with
  | none=>simp [hargs] at hx
  | some args=>
   have hva:VRs μ args (c.args.map a.eval).toList:=by simpa using fK ha hargs
   simp only [hargs] at hx
   cases hcal:c.callee with
   | builtin b=>
    simp only [hcal] at hx
    cases hb:qD E b c.argTypes.toList args h with
    | none=>simp [hb] at hx
    | some p=>
     obtain ⟨v,h2⟩:=p;simp only [hb,Option.some.injEq,Prod.mk.injEq] at hx;obtain ⟨rfl,rfl⟩:=hx;obtain ⟨s,h3,h4⟩:=uA1 (P:=P) (ty:=o.type) (cst:=c.args.map fun | .const _=>true | _=>false) ok hr hva hb;refine plain (s:=do pure (.value (<- s))) ?_ h4.dn;rw [hexec];simp only [resolve,hcal];rw [pure_bind];exact h3
   | invoke recv name=>
    simp only [hcal] at hx
    cases hrc:eG fr recv with
    | none=>simp [hrc] at hx
    | some rv=>
     have hrv:=tB ha hrc;cases rv <;> simp only [hrc,reduceCtorEq] at hx;rename_i t v;simp only [VR] at hrv;obtain ⟨vu,hev,hrv⟩:=hrv
     cases hm:yQ E h t v name args with
     | none=>simp [hm] at hx
     | some tg=>
      obtain ⟨f,args2,args2',rfl,h1,h2⟩:=gS (P:=P) ok hr hrv hva hm
      grind [resolve,invoke,vA6,wA6]
   | value f=>
    simp only [hcal] at hx
    cases hfc:eG fr f with
    | none=>simp [hfc] at hx
    | some fv=>
     have hfv:=tB ha hfc;cases fv <;> simp only [hfc,reduceCtorEq] at hx;rename_i fn first captured
     simp only [VR] at hfv;obtain ⟨first',captured',hev,hf1,hf2⟩:=hfv;cases fn <;> simp only [reduceCtorEq] at hx
     case func g=>
      refine fin (args':=first'++Array.map a.eval c.args++captured') hx ?_ ?_
      ·grind [VRs.append]
      ·rw [hexec]
       simp only [resolve,hcal,hev,Deferred.ofValue];rfl
     case method name=>
      cases hl:first++args with
      | nil=>simp [hl] at hx
      | cons r0 r=>
       cases r0 <;> simp only [hl,reduceCtorEq] at hx;rename_i t v;have hall:VRs μ (first++args) (first'++Array.map a.eval c.args).toList:=by grind [VRs.append]
       rw [hl] at hall;simp only [VRs] at hall;obtain ⟨y,ys,hy,hy1,hy2⟩:=hall;simp only [VR] at hy1;obtain ⟨vu,rfl,hrv⟩:=hy1
       cases hm:yQ E h t v name r with
       | none=>simp [hm] at hx
       | some tg=>
        obtain ⟨g,args2,args2',rfl,h1,h2⟩:=gS (P:=P) (args':=ys.toArray) ok hr hrv (by simpa using hy2) hm;simp only [hm] at hx;refine fin hx h1 ?_;rw [hexec,<- h2];simp only [resolve,hcal,hev,Deferred.ofValue];rw [pure_bind];have hA:first'++Array.map a.eval c.args = #[Value.iface t vu]++ys.toArray:=by
         grind
        grind [invoke,vA6,wA6]
 ·exact plain rfl (bAq (P:=P) ok hr ha hx)
theorem vL {ops:Array Oper} (ha:AR μ nt fr a) {o:Oper} {b:Bool} (hw:mD ops.toList fr o=some b):Region.wanted o (yielded ops a.tmps)=b:=by
 unfold mD at hw;unfold Region.wanted
 cases hg:o.guard with
 | none=>grind
 | some p=>
  obtain ⟨j,want⟩:=p;simp only [hg] at hw ⊢
  cases hy:iE ops.toList fr j with
  | none=>
   simp only [hy] at hw
   cases hu:qN ops.toList fr j with
   | false=>simp [hu] at hw
   | true=>
    simp only [hu,cond_true,Option.some.injEq] at hw;subst hw;unfold qN at hu
    split at hu
    ·rename_i oj ho
     split at hu
     ·rename_i d hd
      split at hu
      ·rename_i hf
       have hs:=ha.slot d _ hf;simp only [VR] at hs;obtain ⟨us,hs,hu2⟩:=hs;have ho':ops[j]? = some oj:=by simpa using ho
       have hyy:yielded ops a.tmps j=none:=by
        unfold yielded;simp only [ho',hd,Option.bind_some]
        split
        ·simp_all
        ·rfl
       rw [hyy];rfl
      ·cases hu
     ·cases hu
    ·cases hu
  | some c=>
   simp only [hy,Option.some.injEq] at hw;unfold iE at hy
   cases ho:ops.toList[j]? with
   | none=>simp [ho] at hy
   | some oj=>
    simp only [ho] at hy
    cases hd:oj.dst with
    | none=>simp [hd] at hy
    | some d=>
     simp only [hd] at hy
     cases hf:fr.get d with
     | none=>simp [hf] at hy
     | some v=>
      cases v <;> simp only [hf,Option.some.injEq,reduceCtorEq] at hy;subst hy;rename_i c;have hs:=ha.slot d _ hf;simp only [VR] at hs;have ho':ops[j]? = some oj:=by simpa using ho
      have ht:a.tmps[d]? = some (.bool c):=by
       rcases Nat.lt_or_ge d a.tmps.size with h1 | h1
       ·simp_all
       ·simp [Array.getD,Nat.not_lt.2 h1,undef] at hs
      have hyy:yielded ops a.tmps j=some c:=by
       unfold yielded;simp [ho',hd,ht]
      rw [hyy,<- hw]
      grind
theorem vA1 (ok:EnvOK E P) {call:CallF} (hcall:gP P call) (hr:HR μ h w) (ha:AR μ nt fr a) {ops:Array Oper} {o:Oper} {x:AV} {h':Heap} (hx:eD E call ops.toList fr o h=some (x,h'))
  {next:Act->World->Prop} {Q:Exit->Act->World->Prop} (hn:∀ μ' u w',VR μ' x u->HR μ' h' w'->Ext μ h w μ' h' w'->next (a.put o.dst u) w') :
  (if Region.wanted o (yielded ops a.tmps) then o.wp P a w next Q\/(o.asks P a w/\LetsOut Q) else next (a.put o.dst undef) w):=by
 unfold eD at hx
 split at hx
 ·rename_i hw
  rw [vL ha hw];simp only [if_true]
  grind [tB0]
 ·rename_i hw
  rw [vL ha hw];simp only [Option.some.injEq,Prod.mk.injEq] at hx;obtain ⟨rfl,rfl⟩:=hx;simp only [Bool.false_eq_true,if_false];exact hn μ undef w (by simp only [undefA,VR];exact ⟨#[],rfl,VRs.nil⟩) hr (Ext.refl μ h w)
 ·simp at hx
theorem cAq (ok:EnvOK E P) {call:CallF} (hcall:gP P call) {ops:Array Oper} {Q:Exit->Act->World->Prop}:∀ (m k:Nat) (μ:Mu) (h:Heap) (w:World) (fr:Fr) (a:Act) (fr':Fr) (h':Heap),k+m=ops.size->
  rA9 E call nt ops.toList (ops.toList.drop k) fr h=some (fr',h')->HR μ h w->AR μ nt fr a->
  (∀ μ' a' w',AR μ' nt fr' a'->HR μ' h' w'->Ext μ h w μ' h' w'->Q .normal a' w')->wpOps P ops Q (List.range' k m) a w:=by
 intro m
 induction m with
 | zero=>
  intro k μ h w fr a fr' h' hk hx hr ha hq
  have:ops.toList.drop k=[]:=List.drop_eq_nil_of_le (by simp;omega)
  rw [this] at hx;simp only [rA9,Option.some.injEq,Prod.mk.injEq] at hx;obtain ⟨rfl,rfl⟩:=hx
  grind [wpOps,Ext.refl]
 | succ m ih=>
  intro k μ h w fr a fr' h' hk hx hr ha hq;have hlt:k<ops.size:=by omega
  have hlt':k<ops.toList.length:=by simpa using hlt
  rw [List.drop_eq_getElem_cons hlt'] at hx;simp only [rA9,Array.getElem_toList] at hx
  cases hs:eD E call ops.toList fr ops[k] h with
  | none=>grind
  | some p=>
   obtain ⟨v,h1⟩:=p;rw [hs] at hx;have ho:ops[k]? = some ops[k]:=by simp [hlt]
   simp only [List.range'_succ,wpOps,ho];refine vA1 ok hcall hr ha hs ?_;intro μ' u w' hv hr' hext;refine ih (k+1) μ' h1 w' _ _ fr' h' (by omega) hx hr' ((ha.mono hext.mono).put _ hv) ?_
   grind [Ext.trans]
end
end Ai
namespace Ai
namespace Tr
variable {α:Type}
def restrict (keep:Nat->Bool):Tr α->Tr α
 | nil=>nil
 | node l v r=>node (restrictL (fun m=>keep (2 * m+1)) l) (bif keep 0 then v else none) (restrictL (fun m=>keep (2 * m+2)) r)
where restrictL (keep:Nat->Bool):Tr α->Tr α
 | nil=>nil
 | node l v r=>node (restrictL (fun m=>keep (2 * m+1)) l) (bif keep 0 then v else none) (restrictL (fun m=>keep (2 * m+2)) r)
theorem get_restrict:∀ (t:Tr α) (keep:Nat->Bool) (n:Nat),(restrict.restrictL keep t).get n=bif keep n then t.get n else none:=by
 intro t
 induction t with
 | nil=>grind [restrict.restrictL,get]
 | node l v r ihl ihr=>
  intro keep n;simp only [restrict.restrictL,get]
  by_cases hn:n=0
  ·simp_all
  ·rw [bf hn];simp only [cond_false]
   by_cases hp:n % 2=1
   ·rw [bt hp];grind
   ·rw [bf hp];grind
end Tr
section
variable {E:Env} {P:Program} {call:CallF} {fr fr2:Fr}
theorem mC {n:Nat}:∀ {l:List Nat},pL n l=true↔n∈l
 | []=>by simp [pL]
 | x::r=>by
  simp only [pL]
  by_cases h:x=n
  ·simp_all
  ·rw [bf h];simp only [cond_false,List.mem_cons];rw [mC]
   grind
theorem yA6:∀ {l:List Operand} {t:Nat},Operand.tmp t∈l->t∈qAp l
 | [],t,h=>by simp at h
 | x::r,t,h=>by
  simp only [qAp,List.mem_append];rcases List.mem_cons.1 h with rfl | h
  ·exact .inl (by simp [eAt])
  ·exact .inr (yA6 h)
theorem wV {l:List Operand} (h:∀ x∈l,eG fr x=eG fr2 x):jG fr l=jG fr2 l:=by
 induction l with
 | nil=>rfl
 | cons x r ih=>grind [jG]
theorem aW {l:List (Nat×Operand)} (h:∀ x∈l.map (·.2),eG fr x=eG fr2 x):jF fr l=jF fr2 l:=by
 induction l with
 | nil=>rfl
 | cons x r ih=>grind [jF]
theorem lAk {x:Option Operand} (h:∀ y∈x.toList,eG fr y=eG fr2 y):dA6 fr x=dA6 fr2 x:=by
 cases x with
 | none=>rfl
 | some y=>simp only [dA6];rw [h y (by simp)]
theorem mAk {o:Op} {h:Heap} (hc:∀ x∈o.operands.toList,eG fr x=eG fr2 x):eH E call fr o h=eH E call fr2 o h:=by
 cases o
 case call c=>
  simp only [eH,kAj];simp only [Op.operands,Call.operands] at hc;have h1:jG fr c.args.toList=jG fr2 c.args.toList:=wV fun x hx=>hc x (by simp [hx]);rw [h1]
  cases hcal:c.callee with
  | builtin b=>rfl
  | invoke r m=>grind
  | value f=>grind
 case build t ps=>
  grind [eH,opA,aW,Op.operands]
 case buildSlice t n ps=>
  grind [eH,opA,aW,Op.operands]
 case makeFunc fn first captured=>
  grind [eH,opA,wV,Op.operands,Array.toList_append]
 case slice t x lo hi mx=>
  cases mx with
  | some m=>rfl
  | none=>
   grind [eH,opA,op1,Op.operands,dA6,lAk]
 case makeMap t r=>cases r <;> rfl
 case lookup t m k b=>
  grind [Op.operands,eH,opA,op2]
 case mapUpdate t m k x=>
  have h1:=hc m (by simp [Op.operands]);have h2:=hc k (by simp [Op.operands]);have h3:=hc x (by simp [Op.operands]);simp only [eH,opA,op3,h1,h2,h3]
 case insert t m k x=>
  have h1:=hc m (by simp [Op.operands]);have h2:=hc k (by simp [Op.operands]);have h3:=hc x (by simp [Op.operands]);simp only [eH,opA,op3,h1,h2,h3]
 all_goals first
  | rfl
  | (simp only [eH,opA,op1,op2];simp [Op.operands] at hc;simp only [hc])
theorem qZ {ops:List Oper} {o:Oper} {h:Heap} (hc:∀ t,t∈kD ops o->fr.get t=fr2.get t):eD E call ops fr o h=eD E call ops fr2 o h:=by
 have h1:∀ x∈o.op.operands.toList,eG fr x=eG fr2 x:=by
  intro x hx
  cases x with
  | tmp t=>exact hc t (by grind [kD,yA6])
  | _=>rfl
 have h2:mD ops fr o=mD ops fr2 o:=by
  unfold mD
  cases hg:o.guard with
  | none=>rfl
  | some p=>
   obtain ⟨j,want⟩:=p;simp only
   have:iE ops fr j=iE ops fr2 j:=by
    grind [iE,kD,eV]
   have hun:qN ops fr j=qN ops fr2 j:=by
    grind [qN,kD,eV]
   rw [this,hun]
 unfold eD;rw [h2,mAk h1]
theorem gR {h h':Heap} {v:Option AV} {x:AV} (hx:tC h v=some (x,h')):h'=h:=(aC hx).2
theorem uB0 {o:Op} {h h':Heap} {x:AV} (hk:yB o=0) (hx:eH E call fr o h=some (x,h')):h'=h/\∀ h2,eH E call fr o h2=some (x,h2):=by
 have key:∀ {v:Option AV},tC h v=some (x,h')->h'=h/\∀ h2,tC h2 v=some (x,h2):=by
  intro v hv;obtain ⟨rfl,rfl⟩:=aC hv;exact ⟨rfl,fun _=>rfl⟩
 have k1:∀ {y:Operand} {f:AV->Option AV},op1 fr y (fun v=>tC h (f v))=some (x,h')->h'=h/\∀ h2,op1 fr y (fun v=>tC h2 (f v))=some (x,h2):=by
  grind [aD,op1]
 have k2:∀ {y z:Operand} {f:AV->AV->Option AV},op2 fr y z (fun v u=>tC h (f v u))=some (x,h')->h'=h/\∀ h2,op2 fr y z (fun v u=>tC h2 (f v u))=some (x,h2):=by
  grind [vM,op2]
 cases o <;> simp [yB] at hk
 case move=>exact key hx
 case assign=>exact key hx
 case pick c a b=>
  grind [eH,opA,aD,op1]
 case build t ps=>
  simp only [eH,opA] at hx ⊢
  cases hp:jF fr ps.toList with
  | none=>simp [hp] at hx
  | some l=>grind
 case nilCheck=>exact k1 hx
 case binOp=>exact k2 hx
 case unOp=>exact k1 hx
 case makeInterface t y=>
  simp only [eH,opA] at hx ⊢
  split at hx
  ·simp at hx
  ·rename_i d n1 hu
   obtain ⟨v,h1,h2⟩:=aD hx;simp only [Option.some.injEq,Prod.mk.injEq] at h2;obtain ⟨rfl,rfl⟩:=h2;refine ⟨rfl,fun h5=>?_⟩;simp only [op1,h1]
  ·simp at hx
 case makeFunc fn first captured=>
  simp only [eH,opA] at hx ⊢
  cases h1:jG fr first.toList with
  | none=>simp [h1] at hx
  | some l=>
   cases h2:jG fr captured.toList with
   | none=>simp [h1,h2] at hx
   | some m=>
    grind
 case fieldAddr=>exact k1 hx
 case field=>exact k1 hx
 case indexAddr=>exact k2 hx
 case index=>exact k2 hx
 case typeAssert=>exact k1 hx
 case extract t i=>
  grind [eH,opA,aD,reduceCtorEq,op1]
 case call c=>
  simp only [eH,kAj] at hx ⊢
  cases hargs:jG fr c.args.toList with
  | none=>simp [hargs] at hx
  | some args=>
   simp only [hargs] at hx ⊢
   cases hcal:c.callee with
   | value f=>simp [hcal] at hk
   | invoke r m=>simp [hcal] at hk
   | builtin b=>
    simp only [hcal] at hx hk ⊢;have kb:b=.min\/b=.max:=by cases b <;> simp_all
    have hb:∀ (y:AV) (h1:Heap),qD E b c.argTypes.toList args h=some (y,h1)->h1=h/\∀ h2,qD E b c.argTypes.toList args h2=some (y,h2):=by
     intro y h1 hb;rcases kb with rfl | rfl <;>
     ·simp only [qD] at hb ⊢
      cases args with
      | nil=>simp at hb
      | cons z r=>
       simp only at hb ⊢;obtain ⟨h3,h4⟩:=aC hb;exact ⟨h4,fun h2=>by rw [h3];rfl⟩
    grind
theorem oB8 {o:Op} {h h':Heap} {x:AV} (hk:yB o=1) (hx:eH E call fr o h=some (x,h')):h'=h:=by
 cases o <;> simp [yB] at hk
 case load t y=>
  obtain ⟨v,h1,h2⟩:=aD hx;exact gR h2
 case slice t y lo hi mx=>
  cases mx with
  | some m=>simp [eH,opA] at hx
  | none=>
   grind [eH,opA,dA6,aD,gR]
 case call c=>
  simp only [eH,kAj] at hx
  cases hargs:jG fr c.args.toList with
  | none=>simp [hargs] at hx
  | some args=>
   simp only [hargs] at hx
   cases hcal:c.callee with
   | value f=>simp [hcal] at hk
   | invoke r m=>simp [hcal] at hk
   | builtin b=>
    simp only [hcal] at hx hk;have kb:b=.len\/b=.cap:=by cases b <;> simp_all
    cases hbb:qD E b c.argTypes.toList args h with
    | none=>simp [hbb] at hx
    | some p=>
     obtain ⟨y,h1⟩:=p;simp only [hbb,Option.some.injEq,Prod.mk.injEq] at hx;obtain ⟨rfl,rfl⟩:=hx;rcases kb with rfl | rfl <;>
     ·simp only [qD] at hbb
      first | cases hbb | (split at hbb <;> simp at *)
      all_goals (first | exact gR hbb | skip)
theorem wM (o:Op):yB o=0\/yB o=1\/yB o=2:=by
 cases o <;> simp [yB]
 grind
theorem yG {ops:List Oper} {o:Oper} {h h':Heap} {x:AV} (hk:yB o.op≠2) (hx:eD E call ops fr o h=some (x,h')):h'=h:=by
 unfold eD at hx
 grind [wM,uB0,oB8,absurd,Option.some.injEq,Prod.mk.injEq]
theorem aA7 {ops:List Oper} {o:Oper} {h h':Heap} {x:AV} (hk:yB o.op=0) (hx:eD E call ops fr o h=some (x,h')) (h2:Heap):eD E call ops fr o h2=some (x,h2):=by
 grind [eD,uB0,Option.some.injEq,Prod.mk.injEq]
theorem pAe {p x:Nat} {l:List Nat} (h:p∈kB7 x l):p=x\/p∈l:=by
 unfold kB7 at h
 grind
theorem rZ {p:Nat}:∀ {xs l:List Nat},p∈lAe xs l->p∈xs\/p∈l
 | [],l,h=>.inr h
 | x::r,l,h=>by
  simp only [lAe] at h;rcases pAe h with rfl | h
  ·exact .inl (by simp)
  ·rcases rZ h with h | h
   ·grind
   ·exact .inr h
theorem tZ {acc:List (List Nat)} {p:Nat}:∀ {l:List Nat},p∈dC.unionL acc l->p∈l\/∃ e∈l,∃ ps,acc[e]? = some ps/\p∈ps
 | [],h=>by simp [dC.unionL] at h
 | e::r,h=>by
  simp only [dC.unionL] at h;rcases pAe h with rfl | h
  ·exact .inl (by simp)
  rcases rZ h with h | h
  ·grind
  ·rcases tZ h with h | ⟨e',h1,h2⟩
   ·grind
   grind
theorem iR:∀ (r pre:List Oper) (acc:List (List Nat)),acc.length=pre.length->
  (∀ (i:Nat) (ps:List Nat),acc[i]? = some ps->∃ o:Oper,pre[i]? = some o/\∀ p∈ps,p∈yC o.after.toList\/∃ e∈yC o.after.toList,∃ qs,acc[e]? = some qs/\p∈qs)->
  ∀ (i:Nat) (ps:List Nat),(dC r acc)[i]? = some ps->∃ o:Oper,(pre++r)[i]? = some o/\∀ p∈ps,p∈yC o.after.toList\/∃ e∈yC o.after.toList,∃ qs,(dC r acc)[e]? = some qs/\p∈qs
 | [],pre,acc,hl,hinv,i,ps,h=>by
  grind [dC]
 | o::r,pre,acc,hl,hinv,i,ps,h=>by
  simp only [dC] at h ⊢
  have:=iR r (pre++[o]) (acc++[dC.unionL acc (yC o.after.toList)]) (by simp [hl]) (by
   intro j qs hj
   by_cases hjl:j<acc.length
   ·grind
   ·have hje:j=acc.length:=by
     grind
    subst hje;rw [List.getElem?_append_right (Nat.le_refl _)] at hj;simp at hj;subst hj;refine ⟨o,by rw [hl];simp,fun p hp=>?_⟩
    grind [tZ,List.getElem?_append_left,List.getElem?_eq_some_iff]) i ps h
  simpa using this
theorem iS {ops:List Oper} {o:Oper} {ps:List Nat}:∀ {l:List Oper} {j:Nat},tM ops o ps j l=true->∀ k x,l[k]? = some x->j+k∈ps\/pA1 ops x o=true
 | [],j,h,k,x,hk=>by simp at hk
 | y::r,j,h,k,x,hk=>by
  simp only [tM,Bool.and_eq_true,Bool.or_eq_true] at h
  cases k with
  | zero=>grind [mC,id]
  | succ k=>
   simp at hk
   have:=iS h.2 k x hk
   grind
theorem uZ {ops:List Oper} {preds:List (List Nat)}:∀ {l:List Oper} {i:Nat},bR ops preds i l=true->∀ k o,l[k]? = some o->
  (∀ j x,(ops.take (i+k))[j]? = some x->j∈(preds[i+k]?).getD []\/pA1 ops x o=true)/\(∀ e∈yC o.after.toList,e<i+k)
 | [],i,h,k,o,hk=>by simp at hk
 | y::r,i,h,k,o,hk=>by
  simp only [bR,Bool.and_eq_true] at h
  cases k with
  | zero=>
   simp at hk;subst hk;refine ⟨fun j x hj=>by simpa using iS h.1.1 j x (by simpa using hj),fun e he=>?_⟩
   simp_all
  | succ k=>
   simp at hk
   have:=uZ h.2 k o hk
   grind
theorem vH {e:Nat}:∀ {l:List Edge},e∈yC l↔∃ x∈l,Region.binds .any x=true/\x.on=e
 | []=>by simp [yC]
 | x::r=>by
  simp only [yC]
  cases hb:Region.binds .any x with
  | true=>simp only [cond_true,List.mem_cons,vH (l:=r)];grind
  | false=>simp only [cond_false,vH (l:=r),List.mem_cons];grind
theorem wH {ops:List Oper} {x y:Oper} (hf:pA1 ops x y=true):¬ (yB x.op=2/\yB y.op=2)/\(∀ t,x.dst=some t->t ∉ kD ops y)/\(∀ t,y.dst=some t->t ∉ kD ops x)/\(∀ t,x.dst=some t->y.dst≠some t):=by
 simp only [pA1,Bool.and_eq_true,Bool.not_eq_true'] at hf;obtain ⟨⟨⟨h1,h2⟩,h3⟩,h4⟩:=hf;refine ⟨?_,?_,?_,?_⟩
 ·rintro ⟨e1,e2⟩;simp_all
 ·grind [mT,mC]
 ·grind [mT,mC]
 ·intro t ht hy;simp only [aR,ht,hy] at h4;simp_all
theorem bD {l:Array Bool} {i k:Nat} (hi:i<l.size):(l.setIfInBounds i true).getD k false=if k=i then true else l.getD k false:=by
 by_cases h:k=i
 ·subst h;simp [hi]
 ·have h':i≠k:=fun e=>h e.symm
  simp_all
theorem qAe {a:Act} {t:Nat} {u:Value} (ht:t<a.tmps.size):(a.put (some t) u).tmps.getD t undef=u:=by simp [Act.put,ht]
theorem iP {a:Act} {d:Option Tmp} {t:Nat} {u:Value} (hd:d≠some t):(a.put d u).tmps.getD t undef=a.tmps.getD t undef:=by
 cases d with
 | none=>rfl
 | some k=>
  have:k≠t:=fun e=>hd (by rw [e])
  simp [Act.put,Array.getElem?_setIfInBounds_ne this]
end
end Ai
namespace Ai
section
variable {α:Type}
variable {E:Env} {P:Program} {call:CallF} {fr fr2:Fr}
def nAv (E:Env) (call:CallF) (ops:List Oper) (recs:List (Fr×Heap×AV)) (h':Heap):Prop:=
 ∀ (i:Nat) (o:Oper) (f:Fr) (hh:Heap) (v:AV),ops[i]? = some o->recs[i]? = some (f,hh,v)->yB o.op=1->∀ (k:Nat) (Hk:Heap),
  ((∃ (o':Oper) (f':Fr) (v':AV),ops[k]? = some o'/\yB o'.op=2/\recs[k]? = some (f',Hk,v'))\/(k=ops.length/\Hk=h'))->
  (∀ (j:Nat) (o':Oper),ops[j]? = some o'->yB o'.op=2->(j∈((dC ops [])[i]?).getD []->j<k)/\(i∈((dC ops [])[j]?).getD []->k<=j))->
  ∃ u h2,eD E call ops f o Hk=some (u,h2)/\eqV u v=true
theorem yH {nt:Nat} {ops:List Oper}:∀ {l:List Oper} {fr:Fr} {h:Heap} {recs:List (Fr×Heap×AV)} {fr':Fr} {h':Heap},lD E call nt ops l fr h=some (recs,fr',h')->
  ∃ (F:Nat->Fr) (H:Nat->Heap) (V:Nat->AV),F 0=fr/\H 0=h/\F l.length=fr'/\H l.length=h'/\
   (∀ i o,l[i]? = some o->eD E call ops (F i) o (H i)=some (V i,H (i+1))/\F (i+1)=aP nt (F i) o.dst (V i))/\
   (∀ i,i<l.length->recs[i]? = some (F i,H i,V i))
 | [],fr,h,recs,fr',h',hx=>by
  simp only [lD,Option.some.injEq,Prod.mk.injEq] at hx;obtain ⟨rfl,rfl,rfl⟩:=hx;exact ⟨fun _=>fr,fun _=>h,fun _=>undefA,rfl,rfl,rfl,rfl,by simp,by simp⟩
 | o::r,fr,h,recs,fr',h',hx=>by
  simp only [lD] at hx
  cases hs1:eD E call ops fr o h with
  | none=>simp [hs1] at hx
  | some p=>
   obtain ⟨v,h1⟩:=p;simp only [hs1] at hx
   cases ht:lD E call nt ops r (aP nt fr o.dst v) h1 with
   | none=>simp [ht] at hx
   | some q=>
    obtain ⟨l',fr2,h2⟩:=q;simp only [ht,Option.some.injEq,Prod.mk.injEq] at hx;obtain ⟨rfl,rfl,rfl⟩:=hx;obtain ⟨F,H,V,f0,g0,fn,gn,hstep,hrec⟩:=yH ht;refine ⟨fun i=>match i with | 0=>fr | i+1=>F i,fun i=>match i with | 0=>h | i+1=>H i,fun i=>match i with | 0=>v | i+1=>V i,rfl,rfl,?_,?_,?_,?_⟩
    ·simpa using fn
    ·simpa using gn
    ·grind
    grind
theorem rAe (ok:EnvOK E P) (hm:P.follows .mixedOrders=true) (hcall:gP P call) {nt id:Nat} {ops:Array Oper} {h:Heap} {fr':Fr} {h':Heap} {recs:List (Fr×Heap×AV)} (ht:lD E call nt ops.toList ops.toList fr h=some (recs,fr',h')) (hord:fV ops.toList=true) (hstab:nAv E call ops.toList recs h')
  {μ:Mu} {w:World} {a:Act} {Q:Exit->Act->World->Prop} (hr:HR μ h w) (ha:AR μ nt fr a) (hq:∀ μ' a' w',AR μ' nt fr' a'->HR μ' h' w'->Ext μ h w μ' h' w'->Q .normal a' w'):(Code.region id ops true).wp P Q a w:=by
 skip
 {
  skip
  {
   obtain ⟨F,H,V,f0,g0,fn,gn,hstep,hrec⟩:=yH ht;have hlen:ops.toList.length=ops.size:=by simp
   have ord:∀ (i:Nat) (o:Oper),ops.toList[i]? = some o->(∀ (j:Nat) (x:Oper),j<i->ops.toList[j]? = some x->j∈((dC ops.toList [])[i]?).getD []\/pA1 ops.toList x o=true)/\(∀ e∈yC o.after.toList,e<i):=by
    intro i o ho
    have:=uZ (i:=0) hord i o ho
    grind
   have hpreds:∀ (i:Nat) (ps:List Nat),(dC ops.toList [])[i]? = some ps->∃ o:Oper,ops.toList[i]? = some o/\∀ p∈ps,p∈yC o.after.toList\/∃ e∈yC o.after.toList,∃ qs,(dC ops.toList [])[e]? = some qs/\p∈qs:=by
    intro i ps hi
    have:=iR ops.toList [] [] rfl (by simp) i ps hi
    simpa using this
   have predsIn:∀ (S:Nat->Prop),(∀ (i:Nat) (o:Oper),ops.toList[i]? = some o->S i->∀ e∈yC o.after.toList,S e)->
     ∀ (i:Nat) (o:Oper),ops.toList[i]? = some o->(∀ e∈yC o.after.toList,S e)->∀ p∈((dC ops.toList [])[i]?).getD [],S p:=by
    intro S hcl i
    induction i using Nat.strongRecOn with
    | _ i ih=>
     intro o ho he p hp
     cases hps:(dC ops.toList [])[i]? with
     | none=>simp [hps] at hp
     | some ps=>
      simp [hps] at hp;obtain ⟨o',ho',hpp⟩:=hpreds i ps hps;rw [ho] at ho';cases ho';rcases hpp p hp with h3 | ⟨e,h3,qs,h4,h5⟩
      ·exact he p h3
      ·have hlt:=(ord i o ho).2 e h3
       obtain ⟨oe,hoe,_⟩:=hpreds e qs h4;exact ih e hlt oe hoe (hcl e oe hoe (he e h3)) p (by simp [h4];exact h5)
   have wrote:∀ (i:Nat),i<=ops.size->∀ t v,(F i).get t=some v->
     (∃ k o,k<i/\ops.toList[k]? = some o/\o.dst=some t/\t<nt/\v=V k/\∀ k' o',k'<i->ops.toList[k']? = some o'->o'.dst=some t->k'<=k)\/
     ((∀ k o,k<i->ops.toList[k]? = some o->o.dst≠some t)/\fr.get t=some v):=by
    intro i
    induction i with
    | zero=>grind
    | succ i ih=>
     intro hi t v hv;obtain ⟨o,ho⟩:∃ o,ops.toList[i]? = some o:=⟨ops.toList[i]'(by simp;omega),by simp⟩;rw [(hstep i o ho).2] at hv;have old:(F i).get t=some v->o.dst≠some t->(∃ k o,k<i+1/\ops.toList[k]? = some o/\o.dst=some t/\t<nt/\v=V k/\∀ k' o',k'<i+1->ops.toList[k']? = some o'->o'.dst=some t->k'<=k)\/
       ((∀ k o,k<i+1->ops.toList[k]? = some o->o.dst≠some t)/\fr.get t=some v):=by
      intro hv' hne;rcases ih (by omega) t v hv' with ⟨k,ok',h1,h2,h3,h4,h5,h6⟩ | ⟨h1,h2⟩
      ·grind
      grind
     cases hdst:o.dst with
     | none=>
      rw [hdst] at hv;exact old hv (by rw [hdst];simp)
     | some d=>
      rw [hdst] at hv;simp only [aP] at hv
      cases hlt:Nat.blt d nt with
      | false=>simp [hlt,Tr.get_nil] at hv
      | true=>
       simp only [hlt,cond_true] at hv;rcases Tr.get_set hv with ⟨rfl,rfl⟩ | ⟨hne,hv'⟩
       ·exact .inl ⟨i,o,by omega,ho,hdst,by simpa [Nat.blt_eq] using hlt,rfl,fun k' _ hk' _ _=>by omega⟩
       ·exact old hv' (by grind)
   have Hsame:∀ (i:Nat) (o:Oper),ops.toList[i]? = some o->yB o.op≠2->H (i+1)=H i:=fun i o ho hk=>yG hk (hstep i o ho).1;have Heq:∀ (d i j:Nat),j=i+d->j<=ops.size->(∀ (k:Nat) (o:Oper),i<=k->k<j->ops.toList[k]? = some o->yB o.op≠2)->H j=H i:=by
    intro d
    induction d with
    | zero=>grind
    | succ d ih=>
     intro i j hj hn hk;obtain ⟨o,ho⟩:∃ o,ops.toList[i+d]? = some o:=⟨ops.toList[i+d]'(by simp;omega),by simp⟩;rw [hj,show i+(d+1)=(i+d)+1 from rfl,Hsame (i+d) o ho (hk _ o (by omega) (by omega) ho)];exact ih i (i+d) rfl (by omega) fun k o h1 h2=>hk k o h1 (by omega)
   have done:∀ (listed:Array Bool) (μ':Mu) (a':Act) (w':World),(∀ i,i<ops.size->listed.getD i false=true)->
     (∃ m,m<=ops.size/\HR μ' (H m) w'/\Ext μ h w μ' (H m) w'/\∀ (i:Nat) (o:Oper),ops.toList[i]? = some o->yB o.op=2->(listed.getD i false=true↔i<m))->
     a'.tmps.size=nt->a'.defers=[]->
     (∀ t k o,t<nt->ops.toList[k]? = some o->o.dst=some t->listed.getD k false=true->(∀ (k':Nat) (o':Oper),ops.toList[k']? = some o'->listed.getD k' false=true->o'.dst=some t->k'<=k)->VR μ' (V k) (a'.tmps.getD t undef))->
     (∀ t v,(∀ (k:Nat) (o:Oper),ops.toList[k]? = some o->listed.getD k false=true->o.dst≠some t)->fr.get t=some v->VR μ' v (a'.tmps.getD t undef))->Q .normal a' w':=by
    intro listed μ' a' w' hall hH hts htd hsl1 hsl2;obtain ⟨m,hmn,hr',hext,hk2⟩:=hH;have hHm:H ops.size=H m:=Heq (ops.size-m) m ops.size (by omega) (Nat.le_refl _) fun k o h1 h2 ho hk=>by
     grind
    have gn':=gn;rw [hlen] at gn';rw [<- hHm,gn'] at hr' hext;refine hq μ' a' w' ⟨fun t v hv=>?_,hts,htd⟩ hr' hext;rw [<- fn,hlen] at hv;rcases wrote ops.size (Nat.le_refl _) t v hv with ⟨k,o,h1,h2,h3,h4,rfl,h6⟩ | ⟨h1,h2⟩
    ·exact hsl1 t k o h4 h2 h3 (hall k h1) fun k' o' ho' _ hd'=>h6 k' o' (by grind) ho' hd'
    ·exact hsl2 t v (fun k o ho _=>h1 k o (by grind) ho) h2
   have main:∀ (fuel:Nat) (listed:Array Bool) (μ':Mu) (a':Act) (w':World) (us:List Nat),us.length<=fuel->(∀ i,i<ops.size->listed.getD i false=false->i∈us)->listed.size=ops.size->
     (∀ (i:Nat) (o:Oper),ops.toList[i]? = some o->listed.getD i false=true->∀ e∈yC o.after.toList,listed.getD e false=true)->
     (∃ m,m<=ops.size/\HR μ' (H m) w'/\Ext μ h w μ' (H m) w'/\∀ (i:Nat) (o:Oper),ops.toList[i]? = some o->yB o.op=2->(listed.getD i false=true↔i<m))->
     a'.tmps.size=nt->a'.defers=[]->
     (∀ t k o,t<nt->ops.toList[k]? = some o->o.dst=some t->listed.getD k false=true->(∀ (k':Nat) (o':Oper),ops.toList[k']? = some o'->listed.getD k' false=true->o'.dst=some t->k'<=k)->VR μ' (V k) (a'.tmps.getD t undef))->
     (∀ t v,(∀ (k:Nat) (o:Oper),ops.toList[k]? = some o->listed.getD k false=true->o.dst≠some t)->fr.get t=some v->VR μ' v (a'.tmps.getD t undef))->
     wpAny P .any ops Q fuel listed a' w':=by
    intro fuel
    induction fuel with
    | zero=>
     intro listed μ' a' w' us hu hus hsz hcl hH hts htd hsl1 hsl2;have hall:∀ i,i<ops.size->listed.getD i false=true:=by
      grind
     refine ⟨?_,?_⟩
     ·simp only [Region.ready,List.filter_eq_nil_iff,List.mem_range]
      grind
     ·exact done listed μ' a' w' hall hH hts htd hsl1 hsl2
    | succ fuel ih=>
     intro listed μ' a' w' us hu hus hsz hcl hH hts htd hsl1 hsl2;refine ⟨?_,?_⟩
     ·intro hready
      refine done listed μ' a' w' ?_ hH hts htd hsl1 hsl2;intro i
      induction i using Nat.strongRecOn with
      | _ i ihi=>
       intro hin
       cases hl:listed.getD i false with
       | true=>rfl
       | false=>
        exfalso
        have hlt:i<listed.size:=by omega
        have hnt:listed.getD i true=false:=by simp [Array.getD,hlt] at hl ⊢;exact hl
        have hmem:i∈Region.ready .any ops listed:=by
         simp only [Region.ready,List.mem_filter,List.mem_range,Bool.and_eq_true,Bool.not_eq_true'];refine ⟨hin,hnt,?_⟩;have ho:ops[i]? = some ops[i]:=by simp [hin]
         rw [ho];simp only [Option.map_some,Option.getD_some,Array.all_eq_true_iff_forall_mem];intro x hx
         cases hbx:Region.binds .any x with
         | false=>simp
         | true=>
          have he:x.on∈yC ops[i].after.toList:=vH.2 ⟨x,by simpa using hx,hbx,rfl⟩;have hlt':=(ord i ops[i] (by simp [hin])).2 _ he;simpa using ihi x.on hlt' (by omega)
        rw [hready] at hmem;simp at hmem
     ·intro i hi
      simp only [Region.ready,List.mem_filter,List.mem_range,Bool.and_eq_true,Bool.not_eq_true'] at hi;obtain ⟨hin,hnl,hed⟩:=hi;have hlt:i<listed.size:=by omega
      have hnl':listed.getD i false=false:=by simp [Array.getD,hlt] at hnl ⊢;exact hnl
      have ho:ops[i]? = some ops[i]:=by simp [hin]
      have hoL:ops.toList[i]? = some ops[i]:=by simp [hin]
      have hedge:∀ e∈yC ops[i].after.toList,listed.getD e false=true:=by
       intro e he;obtain ⟨x,h1,h2,h3⟩:=vH.1 he;rw [ho] at hed;simp only [Option.map_some,Option.getD_some,Array.all_eq_true_iff_forall_mem] at hed
       have:=hed x (by simpa using h1)
       simp [h2] at this;rw [<- h3];simpa using this
      have hplist:=predsIn (fun k=>listed.getD k false=true) hcl i ops[i] hoL hedge;have behind:∀ (k:Nat) (o:Oper),i<k->ops.toList[k]? = some o->listed.getD k false=true->pA1 ops.toList ops[i] o=true:=by
       intro k o hik hok hlk;rcases (ord k o hok).1 i ops[i] hik hoL with h1 | h1
       ·have h9:listed.getD i false=true:=predsIn (fun k=>listed.getD k false=true) hcl k o hok (hcl k o hok hlk) i h1
        rw [hnl'] at h9;cases h9
       ·exact h1
      have ahead:∀ (k:Nat) (o:Oper),k<i->ops.toList[k]? = some o->listed.getD k false=true\/pA1 ops.toList o ops[i]=true:=by
       intro k o hki hok;rcases (ord i ops[i] hoL).1 k o hki hok with h1 | h1
       ·exact .inl (hplist k h1)
       ·exact .inr h1
      obtain ⟨m,hmn,hrm,hext,hk2⟩:=hH;have hget:∀ t,(Tr.restrict.restrictL (fun t=>pL t (kD ops.toList ops[i])) (F i)).get t=bif pL t (kD ops.toList ops[i]) then (F i).get t else none:=fun t=>Tr.get_restrict (F i) _ t;have har:AR μ' nt (Tr.restrict.restrictL (fun t=>pL t (kD ops.toList ops[i])) (F i)) a':=by
       refine ⟨fun t v hv=>?_,hts,htd⟩;rw [hget] at hv
       cases hmt:pL t (kD ops.toList ops[i]) with
       | false=>simp [hmt] at hv
       | true=>
        simp only [hmt,cond_true] at hv;have hmt':=mC.1 hmt;rcases wrote i (by omega) t v hv with ⟨k,o,h1,h2,h3,h4,rfl,h6⟩ | ⟨h1,h2⟩
        ·have hlk:listed.getD k false=true:=by
          rcases ahead k o h1 h2 with h7 | h7
          ·exact h7
          ·exact absurd hmt' ((wH h7).2.1 t h3)
         refine hsl1 t k o h4 h2 h3 hlk fun k' o' ho' hl' hd'=>?_;rcases Nat.lt_trichotomy k' i with h7 | rfl | h7
         ·exact h6 k' o' h7 ho' hd'
         ·rw [hnl'] at hl';cases hl'
         ·exact absurd hmt' ((wH (behind k' o' h7 ho' hl')).2.2.1 t hd')
        ·refine hsl2 t v (fun k o hok hlk hd'=>?_) h2
         rcases Nat.lt_trichotomy k i with h7 | rfl | h7
         ·exact h1 k o h7 hok hd'
         ·rw [hnl'] at hlk;cases hlk
         ·exact absurd hmt' ((wH (behind k o h7 hok hlk)).2.2.1 t hd')
      have hcong:∀ Hx,eD E call ops.toList (Tr.restrict.restrictL (fun t=>pL t (kD ops.toList ops[i])) (F i)) ops[i] Hx=eD E call ops.toList (F i) ops[i] Hx:=by
       intro Hx;refine qZ fun t ht=>?_;rw [hget,mC.2 ht];rfl
      have hres:∃ m',m'<=ops.size/\eD E call ops.toList (F i) ops[i] (H m)=some (V i,H m')/\
        ∀ (k:Nat) (o:Oper),ops.toList[k]? = some o->yB o.op=2->((listed.setIfInBounds i true).getD k false=true↔k<m'):=by
       have keep:yB ops[i].op≠2->∀ (k:Nat) (o:Oper),ops.toList[k]? = some o->yB o.op=2->((listed.setIfInBounds i true).getD k false=true↔k<m):=by
        intro hne k o hok hk;have hki:k≠i:=by rintro rfl;rw [hoL] at hok;cases hok;exact hne hk
        rw [bD hlt,if_neg hki];exact hk2 k o hok hk
       rcases wM ops[i].op with h0 | h1 | h2
       ·exact ⟨m,hmn,aA7 h0 (hstep i ops[i] hoL).1 (H m),keep (by omega)⟩
       ·have hwin:∀ (k:Nat) (o:Oper),ops.toList[k]? = some o->yB o.op=2->(k∈((dC ops.toList [])[i]?).getD []->k<m)/\(i∈((dC ops.toList [])[k]?).getD []->m<=k):=by
         intro k o hok hk;refine ⟨fun h7=>(hk2 k o hok hk).1 (hplist k h7),fun h7=>?_⟩;rcases Nat.lt_or_ge k m with h8 | h8
         ·have hlk:=(hk2 k o hok hk).2 h8
          have h9:listed.getD i false=true:=predsIn (fun k=>listed.getD k false=true) hcl k o hok (hcl k o hok hlk) i h7;rw [hnl'] at h9;cases h9
         ·exact h8
        have hstage:∃ k,m<=k/\k<=ops.size/\H k=H m/\(k=ops.size\/∃ o,ops.toList[k]? = some o/\yB o.op=2)/\∀ (j:Nat) (o:Oper),m<=j->j<k->ops.toList[j]? = some o->yB o.op≠2:=by
         have:∀ d m,m+d=ops.size->∃ k,m<=k/\k<=ops.size/\H k=H m/\(k=ops.size\/∃ o,ops.toList[k]? = some o/\yB o.op=2)/\∀ (j:Nat) (o:Oper),m<=j->j<k->ops.toList[j]? = some o->yB o.op≠2:=by
          intro d
          induction d with
          | zero=>intro m hm;exact ⟨m,Nat.le_refl _,by omega,rfl,.inl (by omega),fun j o h1 h2=>by omega⟩
          | succ d ihd=>
           intro m hm;obtain ⟨o,hoo⟩:∃ o,ops.toList[m]? = some o:=⟨ops.toList[m]'(by simp;omega),by simp⟩
           by_cases hk:yB o.op=2
           ·exact ⟨m,Nat.le_refl _,by omega,rfl,.inr ⟨o,hoo,hk⟩,fun j o h1 h2=>by omega⟩
           ·obtain ⟨k,g1,g2,g3,g4,g5⟩:=ihd (m+1) (by omega)
            refine ⟨k,by omega,g2,by rw [g3];exact Hsame m o hoo hk,g4,fun j o' h1 h2 h3=>?_⟩
            by_cases hjm:j=m
            ·subst hjm;rw [hoo] at h3;cases h3;exact hk
            ·exact g5 j o' (by omega) h2 h3
         exact this (ops.size-m) m (by omega)
        obtain ⟨k,g1,g2,g3,g4,g5⟩:=hstage;obtain ⟨u,h3,h4,he⟩:=hstab i ops[i] (F i) (H i) (V i) hoL (hrec i (by simpa using hin)) h1 k (H k) (by
         rcases g4 with rfl | ⟨o,h7,_⟩
         ·right;exact ⟨by simp,by rw [<- gn];simp⟩
         ·left;exact ⟨o,F k,V k,h7,by assumption,hrec k (by have:=(List.getElem?_eq_some_iff.1 h7).1;simpa using this)⟩) (fun j o hoj hj=>by
         obtain ⟨w1,w2⟩:=hwin j o hoj hj;refine ⟨fun h7=>by have:=w1 h7;omega,fun h7=>?_⟩;have h8:=w2 h7;rcases Nat.lt_or_ge j k with h9 | h9
         ·exact absurd hj (g5 j o h8 h9 hoj)
         ·exact h9)
        rw [g3] at h4;have he':=qA6 _ _ he;subst he'
        have:=yG (by omega) h4
        subst this;exact ⟨m,hmn,h4,keep (by omega)⟩
       ·have hiff:∀ (k:Nat) (o:Oper),ops.toList[k]? = some o->yB o.op=2->(k<m↔k<i):=by
         intro k o hok hk;rw [<- hk2 k o hok hk];constructor
         ·intro hlk
          rcases Nat.lt_trichotomy k i with h7 | rfl | h7
          ·exact h7
          ·rw [hnl'] at hlk;cases hlk
          ·exact absurd ⟨h2,hk⟩ (wH (behind k o h7 hok hlk)).1
         ·intro hki
          rcases ahead k o hki hok with h7 | h7
          ·exact h7
          ·exact absurd ⟨hk,h2⟩ (wH h7).1
        have hHi:H m=H i:=by
         rcases Nat.le_total m i with h7 | h7
         ·exact (Heq (i-m) m i (by omega) (by omega) fun k o h8 h9 hok hk=>by have:=(hiff k o hok hk).2 h9;omega).symm
         ·exact Heq (m-i) i m (by omega) hmn fun k o h8 h9 hok hk=>by have:=(hiff k o hok hk).1 h9;omega
        refine ⟨i+1,hin,by rw [hHi];exact (hstep i ops[i] hoL).1,fun k o hok hk=>?_⟩;rw [bD hlt]
        by_cases hki:k=i
        ·rw [if_pos hki];simp;omega
        ·rw [if_neg hki,hk2 k o hok hk,hiff k o hok hk];omega
      obtain ⟨m',hmn',hstepm,hk2'⟩:=hres;show wpOp P ops Q i _ a' w';unfold wpOp;rw [ho];refine vA1 ok hcall hrm har (by rw [hcong];exact hstepm) ?_;intro μ2 u w2 hv hr2 hext2;refine ih (listed.setIfInBounds i true) μ2 _ w2 (us.erase i) ?_ ?_ (by simpa using hsz) ?_ ⟨m',hmn',hr2,Ext.trans hr hext hext2,hk2'⟩ (by simpa [Act.put] using (by cases ops[i].dst <;> simp [hts])) (by cases ops[i].dst <;> simp [Act.put,htd]) ?_ ?_
      ·have:=hus i hin hnl'
       rw [List.length_erase_of_mem this];omega
      ·intro k hk hl
       rw [bD hlt] at hl
       by_cases hki:k=i
       ·rw [if_pos hki] at hl;cases hl
       ·rw [if_neg hki] at hl
        exact (List.mem_erase_of_ne hki).2 (hus k hk hl)
      ·intro k o hok hl e he
       rw [bD hlt] at hl ⊢
       by_cases hei:e=i
       ·rw [if_pos hei]
       ·rw [if_neg hei]
        by_cases hki:k=i
        ·subst hki;rw [hoL] at hok;cases hok;exact hedge e he
        ·rw [if_neg hki] at hl;exact hcl k o hok hl e he
      ·intro t k o htn hok hd' hl hmax
       rw [bD hlt] at hl
       by_cases hdi:ops[i].dst=some t
       ·have hik:i<=k:=hmax i ops[i] hoL (by rw [bD hlt,if_pos rfl]) hdi
        have hki:k=i:=by
         by_cases hki:k=i
         ·exact hki
         ·rw [if_neg hki] at hl
          exact absurd hd' ((wH (behind k o (by omega) hok hl)).2.2.2 t hdi)
        subst hki;rw [hdi,qAe (by omega)];exact hv
       ·have hki:k≠i:=by rintro rfl;rw [hoL] at hok;cases hok;exact hdi hd'
        rw [if_neg hki] at hl;rw [iP hdi];refine VR.mono hext2.mono _ _ (hsl1 t k o htn hok hd' hl fun k' o' ho' hl' hd''=>hmax k' o' ho' ?_ hd'');rw [bD hlt];split
        ·rfl
        ·exact hl'
      ·intro t v hno hv'
       have hdi:ops[i].dst≠some t:=hno i ops[i] hoL (by rw [bD hlt,if_pos rfl]);rw [iP hdi];refine VR.mono hext2.mono _ _ (hsl2 t v (fun k o hok hl=>hno k o hok ?_) hv');rw [bD hlt];split
       ·rfl
       ·exact hl
   refine wp_region_any hm ?_;have hr0:HR μ h { w with drawn:=w.drawn+1 }:=hr.draws rfl;have hfalse:∀ k,(Array.replicate ops.size false).getD k false=false:=by
    intro k;simp [Array.getD]
   refine main ops.size _ μ a _ (List.range ops.size) (by simp) (by intro i hi _;simpa using hi) (by simp) ?_ ⟨0,Nat.zero_le _,by rw [g0];exact hr0,by rw [g0];exact Ext.draws rfl rfl rfl rfl,?_⟩ ha.size ha.defers ?_ ?_
   ·intro i o _ hl;rw [hfalse] at hl;cases hl
   ·intro i o _ _;rw [hfalse];simp
   ·intro t k o _ _ _ hl;rw [hfalse] at hl;cases hl
   ·intro t v _ hv;exact ha.slot t v hv
  }
 }
theorem jR {ops:List Oper} {k:Nat}:∀ {l:List Nat},qAj ops k l=true↔∀ j∈l,∀ o,ops[j]? = some o->yB o.op=2->j<k
 | []=>by simp [qAj]
 | j::r=>by
  simp only [qAj];have hk:iAv ops j=true↔∃ o,ops[j]? = some o/\yB o.op=2:=by
   unfold iAv
   cases ops[j]? with
   | none=>simp
   | some o=>simp
  cases h1:iAv ops j with
  | false=>
   simp only [Bool.false_and,cond_false,jR (l:=r),List.mem_cons]
   grind
  | true=>
   obtain ⟨o,ho,hk2⟩:=hk.1 h1
   cases h4:Nat.blt j k with
   | true=>
    have h5:j<k:=by simp_all
    simp only [Bool.not_true,Bool.and_false,cond_false,jR (l:=r),List.mem_cons]
    grind
   | false=>
    have h5:¬ j<k:=by
     grind [Nat.blt,Nat.blt_eq]
    simp only [Bool.not_false,Bool.and_self,cond_true];constructor
    ·intro h;cases h
    ·intro h2;simp_all
theorem vZ {ops:List Oper} {i k:Nat}:∀ {l:List (List Nat)} {b:Nat},(∀ (j:Nat) (ps:List Nat),l[j]? = some ps->∀ o,ops[b+j]? = some o->yB o.op=2->i∈ps->k<=b+j)->rAp ops i k b l=true
 | [],b,h=>rfl
 | ps::r,b,h=>by
  simp only [rAp];have hr:=vZ (l:=r) (b:=b+1) (fun j qs hj o ho hk hi=>by
   have h7:=h (j+1) qs (by simpa using hj) o (by rw [show b+(j+1)=b+1+j by omega];exact ho) hk hi;rw [show b+1+j=b+(j+1) by omega];exact h7)
  cases hc:(iAv ops b&&(pL i ps&&!Nat.ble k b)) with
  | false=>simpa using hr
  | true=>
   simp only [Bool.and_eq_true,Bool.not_eq_true'] at hc;obtain ⟨h1,h2,h3⟩:=hc;unfold iAv at h1
   split at h1
   ·rename_i o ho
    have h5:=h 0 ps rfl o (by simpa using ho) (Nat.eq_of_beq_eq_true h1) (mC.1 h2);have h4:Nat.ble k b=true:=by simpa using h5
    rw [h3] at h4;cases h4
   ·cases h1
end
end Ai
namespace Ai
def tAh (ops:List Oper) (x y:Oper):Bool:=
 !(Nat.beq (yB x.op) 2&&!Nat.beq (yB y.op) 0)&&!(!Nat.beq (yB x.op) 0&&Nat.beq (yB y.op) 2)&&!mT x.dst (kD ops y)&&!mT y.dst (kD ops x)&&!aR x.dst y.dst
def yM (ops:List Oper) (o:Oper) (ps:List Nat):Nat->List Oper->Bool
 | _,[]=>true
 | j,x::r=>(pL j ps||tAh ops x o)&&yM ops o ps (j+1) r
def aN (ops:List Oper) (preds:List (List Nat)):Nat->List Oper->Bool
 | _,[]=>true
 | i,o::r=>yM ops o ((preds[i]?).getD []) 0 (ops.take i)&&(yC o.after.toList).all (fun e=>Nat.blt e i)&&aN ops preds (i+1) r
def tAe (ops:List Oper):Bool:=aN ops (dC ops []) 0 ops
theorem jS:∀ s:List UInt8,fB s s=true
 | []=>rfl
 | a::s=>by simp [fB,jS s]
theorem aI (n:Int):eA n n=true:=by cases n <;> simp [eA]
mutual
theorem tI:∀ v:AV,eqV v v=true
 | .bool b=>by cases b <;> rfl
 | .int k n=>by simp [eqV,nJ,aI]
 | .str s=>by simp [eqV,jS]
 | .ptr none=>rfl
 | .ptr (some (A,i))=>by simp [eqV]
 | .slice none l c s=>by simp [eqV]
 | .slice (some (A,i)) l c s=>by simp [eqV]
 | .map none=>rfl
 | .map (some A)=>by simp [eqV]
 | .func f a b=>by simp [eqV,tJ a,tJ b]
 | .nilFunc=>rfl
 | .iface t v=>by simp [eqV,tI v]
 | .nilIface=>rfl
 | .agg a=>by simp [eqV,tJ a]
 | .tuple a=>by simp [eqV,tJ a]
theorem tJ:∀ v:List AV,kAe v v=true
 | []=>rfl
 | a::r=>by simp [kAe,tI a,tJ r]
end
section
variable {α:Type}
variable {E:Env} {P:Program} {call:CallF} {fr fr2:Fr}
theorem jP {ops:List Oper} {o:Oper} {ps:List Nat}:∀ {l:List Oper} {j:Nat},yM ops o ps j l=true->∀ k x,l[k]? = some x->j+k∈ps\/tAh ops x o=true
 | [],j,h,k,x,hk=>by simp at hk
 | y::r,j,h,k,x,hk=>by
  simp only [yM,Bool.and_eq_true,Bool.or_eq_true] at h
  cases k with
  | zero=>grind [mC,id]
  | succ k=>
   simp at hk
   have:=jP h.2 k x hk
   grind
theorem kO {ops:List Oper} {preds:List (List Nat)}:∀ {l:List Oper} {i:Nat},aN ops preds i l=true->∀ k o,l[k]? = some o->
  (∀ j x,(ops.take (i+k))[j]? = some x->j∈(preds[i+k]?).getD []\/tAh ops x o=true)/\(∀ e∈yC o.after.toList,e<i+k)
 | [],i,h,k,o,hk=>by simp at hk
 | y::r,i,h,k,o,hk=>by
  simp only [aN,Bool.and_eq_true] at h
  cases k with
  | zero=>
   simp at hk;subst hk;refine ⟨fun j x hj=>by simpa using jP h.1.1 j x (by simpa using hj),fun e he=>?_⟩
   simp_all
  | succ k=>
   simp at hk
   have:=kO h.2 k o hk
   grind
theorem wZ {ops:List Oper} {x y:Oper} (hf:tAh ops x y=true):¬ ((yB x.op=2/\yB y.op≠0)\/(yB x.op≠0/\yB y.op=2))/\(∀ t,x.dst=some t->t ∉ kD ops y)/\(∀ t,y.dst=some t->t ∉ kD ops x)/\(∀ t,x.dst=some t->y.dst≠some t):=by
 simp only [tAh,Bool.and_eq_true,Bool.not_eq_true'] at hf;obtain ⟨⟨⟨⟨h1,h1'⟩,h2⟩,h3⟩,h4⟩:=hf;refine ⟨?_,?_,?_,?_⟩
 ·rintro (⟨e1,e2⟩ | ⟨e1,e2⟩)
  ·simp_all
  simp_all
 ·grind [mT,mC]
 ·grind [mT,mC]
 ·intro t ht hy;simp only [aR,ht,hy] at h4;simp_all
theorem bW {ops:List Oper} {preds:List (List Nat)}:∀ {l:List Oper} {i:Nat},aN ops preds i l=true->bR ops preds i l=true
 | [],_,_=>rfl
 | o::r,i,h=>by
  simp only [aN,bR,Bool.and_eq_true] at h ⊢;have go:∀ {l:List Oper} {j:Nat},yM ops o ((preds[i]?).getD []) j l=true->tM ops o ((preds[i]?).getD []) j l=true:=by
   intro l
   induction l with
   | nil=>intro _ _;rfl
   | cons x l ih=>
    intro j h;simp only [yM,tM,Bool.and_eq_true,Bool.or_eq_true] at h ⊢;refine ⟨h.1.imp id fun h1=>?_,ih h.2⟩;simp only [tAh,pA1,Bool.and_eq_true,Bool.not_eq_true'] at h1 ⊢
    grind [Nat.beq,yB,Nat.eq_of_beq_eq_true]
  exact ⟨⟨go h.1.1,h.1.2⟩,bW h.2⟩
theorem dAq (ok:EnvOK E P) (hm:P.follows .mixedOrders=true) (hcall:gP P call) {nt id:Nat} {ops:Array Oper} {h:Heap} {fr':Fr} {h':Heap} {recs:List (Fr×Heap×AV)} (ht:lD E call nt ops.toList ops.toList fr h=some (recs,fr',h')) (hord:tAe ops.toList=true)
  {μ:Mu} {w:World} {a:Act} {Q:Exit->Act->World->Prop} (hr:HR μ h w) (ha:AR μ nt fr a) (hq:∀ μ' a' w',AR μ' nt fr' a'->HR μ' h' w'->Ext μ h w μ' h' w'->Q .normal a' w'):(Code.region id ops true).wp P Q a w:=by
 refine rAe ok hm hcall ht (bW hord) ?_ hr ha hq;obtain ⟨F,H,V,f0,g0,fn,gn,hstep,hrecs⟩:=yH ht;intro i o f hh v hi hrec hk k Hk hstage hwin;have hil:=(List.getElem?_eq_some_iff.1 hi).1;have e1:=hrecs i hil;rw [hrec] at e1;simp only [Option.some.injEq,Prod.mk.injEq] at e1;obtain ⟨rfl,rfl,rfl⟩:=e1;have hkl:k<=ops.toList.length/\Hk=H k:=by
  grind
 obtain ⟨hkl,rfl⟩:=hkl;have hno:∀ j x,ops.toList[j]? = some x->((i<=j/\j<k)\/(k<=j/\j<i))->yB x.op≠2:=by
  intro j x hx hb hk2;rcases hb with ⟨b1,b2⟩ | ⟨b1,b2⟩
  ·rcases Nat.lt_or_ge i j with b3 | b3
   ·have:=(kO hord j x hx).1 i o (by grind)
    rw [Nat.zero_add] at this
    grind [wZ]
   grind
  ·have:=(kO hord i o hi).1 j x (by grind)
   rw [Nat.zero_add] at this
   grind [wZ]
 have hrun:∀ d a,a+d<=ops.toList.length->(∀ j x,ops.toList[j]? = some x->a<=j->j<a+d->yB x.op≠2)->H (a+d)=H a:=by
  intro d
  induction d with
  | zero=>intro a _ _;rfl
  | succ d ih=>
   intro a hl hn;have hx:ops.toList[a+d]? = some (ops.toList[a+d]'(by omega)):=by simp
   have:=yG (hn (a+d) _ hx (by omega) (by omega)) (hstep (a+d) _ hx).1
   rw [show a+(d+1)=a+d+1 from rfl,this];exact ih a (by omega) fun j x h1 h2 h3=>hn j x h1 h2 (by omega)
 have heq:H k=H i:=by
  rcases Nat.le_total i k with hik | hik
  ·have:=hrun (k-i) i (by omega) fun j x h1 h2 h3=>hno j x h1 (.inl ⟨h2,by omega⟩)
   simp_all
  grind
 grind [tI]
end
end Ai
namespace Ai
namespace Tr
variable {α:Type}
theorem vB0 {n:Nat}:Nat.beq n 0=decide (n=0):=by cases n <;> rfl
theorem wB0 {n:Nat}:Nat.beq (n % 2) 1=decide (n % 2=1):=by
 grind [Nat.beq,Nat.eq_of_beq_eq_true,Nat.ne_of_beq_eq_false]
theorem oK:∀ (f:Nat) (t:Tr α) (n:Nat) (x:α),n+1<2 ^ f->get (lAh f t n x) n=some x
 | 0,t,n,x,h=>by simp at h
 | f+1,t,n,x,h=>by
  have hp:2 ^ (f+1)=2 * 2 ^ f:=by grind
  have ho:n % 2=1->n / 2+1<2 ^ f:=by intro h1;omega
  have he:¬ n=0->¬ n % 2=1->n / 2-1+1<2 ^ f:=by intro h1 h2;omega
  cases t <;> simp only [lAh,vB0,wB0] <;> by_cases h0:n=0 <;> by_cases h1:n % 2=1 <;>
   simp only [h0,h1,decide_true,decide_false,cond_true,cond_false,get,vB0,wB0] <;> first
    | rfl
    | exact oK f _ _ x (ho h1)
    | exact oK f _ _ x (he h0 h1)
    | (exfalso;omega)
theorem gJ:∀ (f:Nat) (t:Tr α) (n m:Nat) (x y:α),n+1<2 ^ f->m≠n->get t m=some y->get (lAh f t n x) m=some y
 | 0,t,n,m,x,y,h,_,_=>by simp at h
 | f+1,nil,n,m,x,y,h,_,hg=>by simp [get_nil] at hg
 | f+1,node l v r,n,m,x,y,h,hne,hg=>by
  have hp:2 ^ (f+1)=2 * 2 ^ f:=by grind
  have ho:n % 2=1->n / 2+1<2 ^ f:=by intro h1;omega
  have he:¬ n=0->¬ n % 2=1->n / 2-1+1<2 ^ f:=by intro h1 h2;omega
  simp only [lAh,vB0,wB0] at *;simp only [get,vB0,wB0] at hg
  by_cases h0:n=0 <;> by_cases h1:n % 2=1 <;> by_cases m0:m=0 <;> by_cases m1:m % 2=1 <;>
   simp only [h0,h1,m0,m1,decide_true,decide_false,cond_true,cond_false,get,vB0,wB0] at hg ⊢ <;> first
    | exact hg
    | exact gJ f _ _ _ x y (ho h1) (by omega) hg
    | exact gJ f _ _ _ x y (he h0 h1) (by omega) hg
    | (exfalso;omega)
theorem pn (n:Nat):n+1<2 ^ (n+1):=Nat.lt_two_pow_self
theorem get_set_same {t:Tr α} {n:Nat} {x:α}:(t.set n x).get n=some x:=oK (n+1) t n x (pn n)
theorem get_set_other {t:Tr α} {n m:Nat} {x y:α} (hne:m≠n) (hg:t.get m=some y):(t.set n x).get m=some y:=gJ (n+1) t n m x y (pn n) hne hg
end Tr
def bU (ops:List Oper) (o:Oper) (ps:List Nat):Nat->List Oper->Bool
 | _,[]=>true
 | j,x::r=>(pL j ps||tAj ops x o)&&bU ops o ps (j+1) r
def bN (ops:List Oper) (preds:List (List Nat)):Nat->List Oper->Bool
 | _,[]=>true
 | i,o::r=>(!Nat.beq (yB o.op) 2||rL o.op)&&bU ops o ((preds[i]?).getD []) 0 (ops.take i)&&(yC o.after.toList).all (fun e=>Nat.blt e i)&&bN ops preds (i+1) r
def uAe (ops:List Oper):Bool:=bN ops (dC ops []) 0 ops
def jAa (ops:List Oper) (x y:Oper):Bool:=tAj ops x y&&!(Nat.beq (yB x.op) 2&&Nat.beq (yB y.op) 2&&(dJ x.op||dJ y.op))
def mP (ops:List Oper) (o:Oper) (ps:List Nat):Nat->List Oper->Bool
 | _,[]=>true
 | j,x::r=>(pL j ps||jAa ops x o)&&mP ops o ps (j+1) r
def cN (ops:List Oper) (preds:List (List Nat)):Nat->List Oper->Bool
 | _,[]=>true
 | i,o::r=>mP ops o ((preds[i]?).getD []) 0 (ops.take i)&&(yC o.after.toList).all (fun e=>Nat.blt e i)&&cN ops preds (i+1) r
def vAe (ops:List Oper):Bool:=cN ops (dC ops []) 0 ops
section
variable {E:Env} {P:Program} {μ:Mu} {w:World} {n:Nat}
def kAa (P:Program) (s:Sem Value) (μ:Mu) (w:World) (n:Nat) (x:AV) (b:Blk):Prop:=
 ∃ l u o,s.run P w=.ok u (w.alloc o)/\l.b=w.heap.size/\VR (μ.add n l) x u/\BR (μ.add n l) (w.alloc o) l b
theorem lAa (hn:μ n=none) (xs:List AV) (cs:Array Value) (e:TypeId) (hx:VRs μ xs cs.toList) :
  ∃ l,l.b=w.heap.size/\l.sh=0/\l.tot=xs.length/\l.ex=true/\BR (μ.add n l) (w.alloc (.cells cs e)) l (.row xs .own):=by
 have hlen:=hx.length;refine ⟨⟨w.heap.size,0,xs.length,true⟩,rfl,rfl,rfl,rfl,?_⟩;have hle:μ.le (μ.add n ⟨w.heap.size,0,xs.length,true⟩):=Mu.le_add hn;have hx':=VRs.mono hle _ _ hx;refine ⟨⟨⟨e,?_⟩,by simp,?_⟩,rfl,rfl,rfl,?_⟩
 ·have hg:(w.alloc (.cells cs e)).heap[w.heap.size]? = some (.cells cs e):=by show (w.heap.push _)[_]? = _;simp
  grind [World.shape?]
 ·intro i x hi
  obtain ⟨y,hy,hr'⟩:=hx'.get hi
  simp_all
 ·intro i _;simp_all
theorem bA7 (hn:μ n=none) {xs:List AV} {cs:Array Value} {e:TypeId} (hx:VRs μ xs cs.toList):kAa P (do pure (.pointer (some (<- newRow e cs)))) μ w n (.ptr (some (n,0))) (.row xs .own):=by
 obtain ⟨l,l1,l2,l3,l4,h1⟩:=lAa (w:=w) hn xs cs e hx;refine ⟨l,.pointer (some ⟨w.heap.size,0,none⟩),_,?_,l1,?_,h1⟩
 ·simp only [newRow,Sem.run_bind,run_newObj,Result.andThen_ok,Sem.run_pure];rfl
 grind [VR,jE]
theorem yZ (hn:μ n=none) {xs:List AV} {cs:Array Value} {e:TypeId} (hx:VRs μ xs cs.toList):kAa P (do pure (.pointer (some (<- newRow e cs)))) μ w n (.ptr (some (n,0))) (.row xs (.ty e)):=by
 obtain ⟨l,l1,l2,l3,l4,h1⟩:=lAa (w:=w) hn xs cs e hx;have hlen:=hx.length;refine ⟨l,.pointer (some ⟨w.heap.size,0,none⟩),_,?_,l1,?_,⟨h1,?_⟩⟩
 ·simp only [newRow,Sem.run_bind,run_newObj,Result.andThen_ok,Sem.run_pure];rfl
 ·grind [VR,jE]
 ·have hg:(w.alloc (.cells cs e)).heap[w.heap.size]? = some (.cells cs e):=by show (w.heap.push _)[_]? = _;simp
  grind [World.shape?]
theorem yB0 (E:Env) (hn:μ n=none) {e:TypeId} {v:AV} {u:Value} (hv:VR μ v u):kAa P (Instr.box e u) μ w n (.ptr (some (n,0))) (.row v.cells (bif E.trk e then .ty e else .own)):=by
 cases E.trk e with
 | false=>
  obtain ⟨l,u',o,h1,h2⟩:=bA7 (P:=P) (w:=w) (e:=e) hn hv.cells;refine ⟨l,u',o,?_,h2⟩
  grind [Instr.box,newVar]
 | true=>
  obtain ⟨l,u',o,h1,h2⟩:=yZ (P:=P) (w:=w) (e:=e) hn hv.cells;refine ⟨l,u',o,?_,h2⟩
  grind [Instr.box,newVar]
theorem eAq (ok:EnvOK E P) (hn:μ n=none) {e:TypeId} {z:AV} (hz:E.zero e=some z):kAa P (Instr.alloc e true (.tuple #[])) μ w n (.ptr (some (n,0))) (.row z.cells (bif E.trk e then .ty e else .own)):=by
 obtain ⟨zv,hzr,hzv⟩:=tE ok hz
 cases E.trk e with
 | false=>
  obtain ⟨l,u,o,h1,h2⟩:=bA7 (P:=P) (w:=w) (e:=e) hn (hzv μ).cells;refine ⟨l,u,o,?_,h2⟩
  grind [Instr.alloc,Sem.run_bind,Result.andThen_ok,newVar]
 | true=>
  obtain ⟨l,u,o,h1,h2⟩:=yZ (P:=P) (w:=w) (e:=e) hn (hzv μ).cells;refine ⟨l,u,o,?_,h2⟩
  grind [Instr.alloc,Sem.run_bind,Result.andThen_ok,newVar]
theorem HR.at {h:Heap} (hr:HR μ h w) (hn:μ n=none) (hlt:n<h.next) {b:Blk} (hg:h.t.get n=some b) (o:Obj) (l:Loc) (hl:l.b=w.heap.size) (hb:BR (μ.add n l) (w.alloc o) l b):HR (μ.add n l) h (w.alloc o):=by
 have hle:μ.le (μ.add n l):=Mu.le_add hn;have hold:∀ k,k<w.heap.size->(w.alloc o).heap[k]? = w.heap[k]?:=fun k hk=>by
  show (w.heap.push o)[k]? = _
  grind
 have hadd:∀ {A k},μ.add n l A=some k->(A=n/\k=l)\/(A≠n/\μ A=some k):=by
  grind [Mu.add]
 refine ⟨?_,?_,?_,fun x hx=>hle _ _ (hr.pin x hx)⟩
 ·intro A k hA
  rcases hadd hA with ⟨rfl,rfl⟩ | ⟨_,h1⟩
  ·simp_all
  ·exact ⟨(hr.dom A k h1).1,by simp;have:=(hr.dom A k h1).2;omega⟩
 ·intro A B la lb ba bb hA hB ga gb va vb hne heq
  rcases hadd hA with ⟨rfl,rfl⟩ | ⟨na,h1⟩
  ·rcases hadd hB with ⟨rfl,rfl⟩ | ⟨nb,h2⟩
   ·exact absurd rfl hne
   ·have:=(hr.dom B lb h2).2;omega
  ·rcases hadd hB with ⟨rfl,rfl⟩ | ⟨nb,h2⟩
   ·have:=(hr.dom A la h1).2;omega
   ·exact hr.inj A B la lb ba bb h1 h2 ga gb va vb hne heq
 ·intro A k b' hA hg'
  rcases hadd hA with ⟨rfl,rfl⟩ | ⟨na,h1⟩
  ·grind
  ·exact BR.mono hle (BR.heap (hold _ (hr.dom A k h1).2) (hr.blk A k b' h1 hg'))
theorem Ext.at {mu0:Mu} {h0 h:Heap} {w0:World} (hx:Ext mu0 h0 w0 μ h w) (hn:μ n=none) (hle:h0.next<=n) (o:Obj) (l:Loc) (hl:l.b=w.heap.size):Ext mu0 h0 w0 (μ.add n l) h (w.alloc o):=by
 have hadd:∀ {A k},μ.add n l A=some k->(A=n/\k=l)\/(A≠n/\μ A=some k):=by
  grind [Mu.add]
 refine ⟨fun A k hA=>Mu.le_add hn A k (hx.mono A k hA),hx.next,?_,hx.wr,?_,?_,hx.os,hx.tape,hx.output⟩
 ·intro A k hA
  rcases hadd hA with ⟨rfl,rfl⟩ | ⟨_,h1⟩
  ·exact .inr ⟨hle,.inl (by rw [hl];exact hx.size)⟩
  ·exact hx.fresh A k h1
 ·intro b hb hno
  rw [<- hx.frame b hb hno];show (w.heap.push o)[b]? = _
  have:=hx.size
  grind
 ·have:=hx.size
  simp;omega
end
end Ai
namespace Ai
section
variable {α:Type}
variable {E:Env} {P:Program} {call:CallF} {fr fr2:Fr}
theorem mAa {α:Type} {t:Tr α} {n m:Nat} {x:α} (hne:m≠n):(t.set n x).get m=t.get m:=by
 cases h:t.get m with
 | some y=>exact Tr.get_set_other hne h
 | none=>
  cases h2:(t.set n x).get m with
  | none=>rfl
  | some y=>
   rcases Tr.get_set h2 with ⟨e,_⟩ | ⟨_,e⟩
   ·exact absurd e hne
   ·rw [h] at e;cases e
theorem aA0 {ops:List Oper} {x y:Oper} (hf:tAj ops x y=true):True/\(∀ t,x.dst=some t->t ∉ kD ops y)/\(∀ t,y.dst=some t->t ∉ kD ops x)/\(∀ t,x.dst=some t->y.dst≠some t):=by
 simp only [tAj,Bool.and_eq_true,Bool.not_eq_true'] at hf;obtain ⟨⟨h2,h3⟩,h4⟩:=hf;refine ⟨trivial,?_,?_,?_⟩
 ·intro t ht hm;simp only [mT,ht] at h2;rw [mC.2 hm] at h2;cases h2
 ·intro t ht hm;simp only [mT,ht] at h3;rw [mC.2 hm] at h3;cases h3
 ·intro t ht hy;simp only [aR,ht,hy] at h4;rw [bt rfl] at h4;cases h4
def oAv (E:Env) (call:CallF) (ops:List Oper) (recs:List (Fr×Heap×AV)) (h':Heap):Prop:=
 ∀ (i:Nat) (o:Oper) (f:Fr) (hh:Heap) (v:AV),ops[i]? = some o->recs[i]? = some (f,hh,v)->yB o.op=1->∃ u h2,eD E call ops f o h'=some (u,h2)/\eqV u v=true
theorem uAh (ok:EnvOK E P) {μ:Mu} {nt:Nat} {a:Act} (ha:AR μ nt fr a) {o:Oper} (hk:rL o.op=true) {h h':Heap} {x:AV} (hx:eH E call fr o.op h=some (x,h')) (hn:μ h.next=none) (w:World) :
  ∃ b s,h'=h.push b/\execOp a.eval o=(do pure (.value (<- s)))/\kAa P s μ w h.next x b:=by
 obtain ⟨dst,op,type,pos,after,guard⟩:=o;simp only at hx hk;cases op <;> simp only [rL,reduceCtorEq] at hk
 case alloc e=>
  simp only [eH,opA] at hx
  cases hz:E.zero e with
  | none=>simp [hz] at hx
  | some z=>
   simp only [hz,Option.some.injEq,Prod.mk.injEq] at hx;obtain ⟨rfl,rfl⟩:=hx;exact ⟨_,_,rfl,rfl,eAq (P:=P) ok hn hz⟩
 case box e y=>
  simp only [eH,opA] at hx;obtain ⟨v,h1,h2⟩:=aD hx;simp only [Option.some.injEq,Prod.mk.injEq] at h2;obtain ⟨rfl,rfl⟩:=h2;exact ⟨_,_,rfl,rfl,yB0 (P:=P) E hn (tB ha h1)⟩
theorem vAh (call:CallF) {o:Oper} (hk:rL o.op=true) {h h':Heap} {x:AV} (hx:eH E call fr o.op h=some (x,h')):∃ b,h'=h.push b:=by
 obtain ⟨dst,op,type,pos,after,guard⟩:=o;simp only at hx hk;cases op <;> simp only [rL,reduceCtorEq] at hk
 case alloc e=>
  simp only [eH,opA] at hx
  cases hz:E.zero e with
  | none=>simp [hz] at hx
  | some z=>
   simp only [hz,Option.some.injEq,Prod.mk.injEq] at hx;exact ⟨_,hx.2.symm⟩
 case box e y=>
  simp only [eH,opA] at hx;obtain ⟨v,h1,h2⟩:=aD hx;simp only [Option.some.injEq,Prod.mk.injEq] at h2;exact ⟨_,h2.2.symm⟩
end
end Ai
namespace Ai
section
variable {α:Type}
variable {E:Env} {P:Program} {call:CallF} {fr fr2:Fr}
theorem wA1 (ok:EnvOK E P) {μ:Mu} {w:World} {h h':Heap} {t:TypeId} {len:Nat} {parts:List (Nat×AV)} {parts':Array (Nat×Value)} {x:AV} (hn:μ h.next=none) (hp:PR μ parts parts'.toList)
  (hx:kG E h t len parts=some (x,h')):∃ b,h'=h.push b/\kAa P (Instr.buildSlice t len parts') μ w h.next x b:=by
 unfold kG at hx
 split at hx
 ·rename_i e hu
  cases hs:E.size e with
  | none=>simp [hs] at hx
  | some n=>
   simp only [hs] at hx
   cases hz:E.zero e with
   | none=>simp [hz] at hx
   | some z=>
    simp only [hz] at hx;obtain ⟨zv,hzr,hzv⟩:=tE ok hz
    cases hb:(Nat.beq z.cells.length n&&Nat.ble (len * n) 16777216) with
    | false=>simp [hb] at hx
    | true=>
     simp only [hb,cond_true] at hx;simp only [Bool.and_eq_true] at hb;have hb1:z.cells.length=n:=Nat.eq_of_beq_eq_true hb.1;have hb2:len * n<=16777216:=by simpa using hb.2
     subst hb1
     cases hf:cV (fun i=>some (i * z.cells.length,z.cells.length)) (nAj len z.cells) parts with
     | none=>simp [hf] at hx
     | some cs=>
      simp only [hf,Option.some.injEq,Prod.mk.injEq] at hx;obtain ⟨rfl,rfl⟩:=hx;obtain ⟨xs',h1,h2,h3⟩:=rJ hp (pV (n:=len) (hzv μ)) hf;obtain ⟨l,l1,l2,l3,l4,h5⟩:=lAa (w:=w) hn cs xs' e h2;have hlim:¬ (len * z.cells.length > 2 ^ 24):=by
       grind
      refine ⟨_,rfl,l,.slice (some ⟨w.heap.size,0,none⟩) len len,_,?_,l1,?_,h5⟩
      ·by_cases h0:len * z.cells.length=0
       ·have hl0:¬ ((0:Nat) > 2 ^ 24):=by decide
        have h1':Instr.fill (fun i=>some (i * z.cells.length,z.cells.length)) #[] parts'.toList=some xs':=by
         grind
        simp only [Instr.buildSlice,Sem.run_bind,pB (eB ok hu),Result.andThen_ok,fC ok hs,h0,hl0,if_false,if_true,Sem.run_pure,show Array.range 0 = #[] from rfl,Array.map_empty,h1',newRow,run_newObj];rfl
       ·simp only [Instr.buildSlice,Sem.run_bind,pB (eB ok hu),Result.andThen_ok,fC ok hs,if_neg hlim,h0,if_false,hzr,Sem.run_pure,h1,newRow,run_newObj]
        rfl
      ·have:=VR.slice_own (μ:=μ.add h.next l) (A:=h.next) (off:=0) (len:=len) (cap:=len) (sz:=z.cells.length) (jE _ _ _) (Nat.le_refl _) (by rw [l2,l3,h3,kK];omega)
       grind
 ·simp at hx
theorem nAa (ok:EnvOK E P) {μ:Mu} {nt:Nat} {a:Act} (ha:AR μ nt fr a) {o:Oper} (hk:rN o.op=true) {h h':Heap} {x:AV} (hx:eH E call fr o.op h=some (x,h')) (hn:μ h.next=none) (w:World) :
  ∃ b s,h'=h.push b/\execOp a.eval o=(do pure (.value (<- s)))/\kAa P s μ w h.next x b:=by
 cases ho:rL o.op with
 | true=>exact uAh ok ha ho hx hn w
 | false=>
  obtain ⟨dst,op,type,pos,after,guard⟩:=o;simp only at hx hk ho;cases op
  case buildSlice t len ps=>
   simp only [eH,opA] at hx
   cases hp:jF fr ps.toList with
   | none=>simp [hp] at hx
   | some l=>
    simp only [hp] at hx;have hps:PR μ l (ps.map fun (i,x)=>(i,a.eval x)).toList:=by simpa using nK ha hp
    obtain ⟨b,e1,e2⟩:=wA1 (P:=P) (w:=w) ok hn hps hx;exact ⟨b,_,e1,rfl,e2⟩
  all_goals
   simp only [rN] at hk;rw [ho] at hk;cases hk
theorem cW (call:CallF) {o:Oper} (hk:rN o.op=true) {h h':Heap} {x:AV} (hx:eH E call fr o.op h=some (x,h')):∃ b,h'=h.push b:=by
 cases ho:rL o.op with
 | true=>exact vAh call ho hx
 | false=>
  obtain ⟨dst,op,type,pos,after,guard⟩:=o;simp only at hx hk ho;cases op
  case buildSlice t len ps=>
   simp only [eH,opA] at hx
   cases hp:jF fr ps.toList with
   | none=>simp [hp] at hx
   | some l=>
    simp only [hp] at hx;unfold kG at hx
    split at hx
    ·grind
    ·simp at hx
  all_goals
   simp only [rN] at hk;rw [ho] at hk;cases hk
theorem nP {ops:List Oper} {o:Oper} {ps:List Nat}:∀ {l:List Oper} {j:Nat},mP ops o ps j l=true->∀ k x,l[k]? = some x->j+k∈ps\/jAa ops x o=true
 | [],j,h,k,x,hk=>by simp at hk
 | y::r,j,h,k,x,hk=>by
  simp only [mP,Bool.and_eq_true,Bool.or_eq_true] at h
  cases k with
  | zero=>grind [mC,id]
  | succ k=>
   simp at hk
   have:=nP h.2 k x hk
   grind
theorem dW {ops:List Oper} {preds:List (List Nat)}:∀ {l:List Oper} {i:Nat},cN ops preds i l=true->∀ k o,l[k]? = some o->
  (∀ j x,(ops.take (i+k))[j]? = some x->j∈(preds[i+k]?).getD []\/jAa ops x o=true)/\(∀ e∈yC o.after.toList,e<i+k)
 | [],i,h,k,o,hk=>by simp at hk
 | y::r,i,h,k,o,hk=>by
  simp only [cN,Bool.and_eq_true] at h
  cases k with
  | zero=>
   simp at hk;subst hk;refine ⟨fun j x hj=>by simpa using nP h.1.1 j x (by simpa using hj),fun e he=>?_⟩
   simp_all
  | succ k=>
   simp at hk
   have:=dW h.2 k o hk
   grind
theorem wAh {ops:List Oper} {x y:Oper} (hf:jAa ops x y=true):(yB x.op=2->yB y.op=2->dJ x.op=false/\dJ y.op=false)/\(∀ t,x.dst=some t->t ∉ kD ops y)/\(∀ t,y.dst=some t->t ∉ kD ops x)/\(∀ t,x.dst=some t->y.dst≠some t):=by
 simp only [jAa,Bool.and_eq_true,Bool.not_eq_true'] at hf;obtain ⟨h1,h2⟩:=hf;refine ⟨fun hx hy=>?_,(aA0 h1).2⟩
 simp_all
theorem eI {o:Op} (h:dJ o=true):yB o=2/\rN o=false:=by
 simp only [dJ,Bool.and_eq_true,Bool.not_eq_true'] at h
 simp_all
theorem yA1 {o:Op} (h:dJ o=false) (hk:yB o=2):rN o=true:=by
 unfold dJ at h
 simp_all
def nAk (E:Env) (call:CallF) (ops:List Oper) (recs:List (Fr×Heap×AV)) (h':Heap):Prop:=
 ∀ (i:Nat) (o:Oper) (f:Fr) (hh:Heap) (v:AV),ops[i]? = some o->recs[i]? = some (f,hh,v)->yB o.op=1->∀ (k:Nat) (Hk:Heap),((∃ o' f' v',ops[k]? = some o'/\dJ o'.op=true/\recs[k]? = some (f',Hk,v'))\/(k=ops.length/\Hk=h'))->
  ∃ u h2,eD E call ops f o Hk=some (u,h2)/\eqV u v=true
end
end Ai
end Go.Proofs.YtkcjphhjmlienaaGreatDoor
