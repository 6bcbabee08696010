import Derived.Test.YtkcjphhjmlienaaGreatDoorXQp2
import Derived.Test.YtkcjphhjmlienaaGreatDoorXQp1
import Derived.Test.YtkcjphhjmlienaaGreatDoorAi3
import Derived.Test.YtkcjphhjmlienaaGreatDoorRows
import Derived.Test.YtkcjphhjmlienaaGreatDoorProg
import Derived.LaidMore
import Derived.LaidHandle
import Derived.Stop.LaidErr
/- Functions of the program as plain functions, and what they come to; part 3. -/
set_option linter.unusedVariables false
set_option linter.unusedSimpArgs false
set_option linter.unusedVariables false
set_option linter.unusedSimpArgs false
open Go Go.Proofs.YtkcjphhjmlienaaGreatDoor.Ai Go.Proofs
namespace Go.Proofs.YtkcjphhjmlienaaGreatDoor.Qp
structure SmR where
 k:Int
 at_:Int
 m:Bool
 nm:Bs
 ty:TyV
 has:Bool
 pl:LfV
 va:VaV
 co:OpV
 th:SL
 el:SL
structure SmT where
 ty:D
 pl:D
 va:D
 co:D
 th:List D
 el:List D
abbrev SmV:=Int×Int×Bool×List UInt8×Int×List UInt8×SL×SL×Bool×List UInt8×SL×Int×Int×Int×List UInt8×SL×Int×Int×List UInt8×SL×Int×List UInt8×SL×List UInt8×SL×SL×Int×Int×List UInt8×SL×SL×SL×Unit
def smx (x:SmV):List AV:=[.int .i64 x.1,.int .i64 x.2.1,.bool x.2.2.1,.str x.2.2.2.1,.int .i64 x.2.2.2.2.1,.str x.2.2.2.2.2.1,.slice x.2.2.2.2.2.2.1.a x.2.2.2.2.2.2.1.len x.2.2.2.2.2.2.1.cap x.2.2.2.2.2.2.1.sz,.slice x.2.2.2.2.2.2.2.1.a x.2.2.2.2.2.2.2.1.len x.2.2.2.2.2.2.2.1.cap x.2.2.2.2.2.2.2.1.sz,.bool x.2.2.2.2.2.2.2.2.1,.str x.2.2.2.2.2.2.2.2.2.1,.slice x.2.2.2.2.2.2.2.2.2.2.1.a x.2.2.2.2.2.2.2.2.2.2.1.len x.2.2.2.2.2.2.2.2.2.2.1.cap x.2.2.2.2.2.2.2.2.2.2.1.sz,.int .i64 x.2.2.2.2.2.2.2.2.2.2.2.1,.int .i64 x.2.2.2.2.2.2.2.2.2.2.2.2.1,.int .i64 x.2.2.2.2.2.2.2.2.2.2.2.2.2.1,.str x.2.2.2.2.2.2.2.2.2.2.2.2.2.2.1,.slice x.2.2.2.2.2.2.2.2.2.2.2.2.2.2.2.1.a x.2.2.2.2.2.2.2.2.2.2.2.2.2.2.2.1.len x.2.2.2.2.2.2.2.2.2.2.2.2.2.2.2.1.cap x.2.2.2.2.2.2.2.2.2.2.2.2.2.2.2.1.sz,.int .i64 x.2.2.2.2.2.2.2.2.2.2.2.2.2.2.2.2.1,.int .i64 x.2.2.2.2.2.2.2.2.2.2.2.2.2.2.2.2.2.1,.str x.2.2.2.2.2.2.2.2.2.2.2.2.2.2.2.2.2.2.1,.slice x.2.2.2.2.2.2.2.2.2.2.2.2.2.2.2.2.2.2.2.1.a x.2.2.2.2.2.2.2.2.2.2.2.2.2.2.2.2.2.2.2.1.len x.2.2.2.2.2.2.2.2.2.2.2.2.2.2.2.2.2.2.2.1.cap x.2.2.2.2.2.2.2.2.2.2.2.2.2.2.2.2.2.2.2.1.sz,.int .i64 x.2.2.2.2.2.2.2.2.2.2.2.2.2.2.2.2.2.2.2.2.1,.str x.2.2.2.2.2.2.2.2.2.2.2.2.2.2.2.2.2.2.2.2.2.1,.slice x.2.2.2.2.2.2.2.2.2.2.2.2.2.2.2.2.2.2.2.2.2.2.1.a x.2.2.2.2.2.2.2.2.2.2.2.2.2.2.2.2.2.2.2.2.2.2.1.len x.2.2.2.2.2.2.2.2.2.2.2.2.2.2.2.2.2.2.2.2.2.2.1.cap x.2.2.2.2.2.2.2.2.2.2.2.2.2.2.2.2.2.2.2.2.2.2.1.sz,.str x.2.2.2.2.2.2.2.2.2.2.2.2.2.2.2.2.2.2.2.2.2.2.2.1,.slice x.2.2.2.2.2.2.2.2.2.2.2.2.2.2.2.2.2.2.2.2.2.2.2.2.1.a x.2.2.2.2.2.2.2.2.2.2.2.2.2.2.2.2.2.2.2.2.2.2.2.2.1.len x.2.2.2.2.2.2.2.2.2.2.2.2.2.2.2.2.2.2.2.2.2.2.2.2.1.cap x.2.2.2.2.2.2.2.2.2.2.2.2.2.2.2.2.2.2.2.2.2.2.2.2.1.sz,.slice x.2.2.2.2.2.2.2.2.2.2.2.2.2.2.2.2.2.2.2.2.2.2.2.2.2.1.a x.2.2.2.2.2.2.2.2.2.2.2.2.2.2.2.2.2.2.2.2.2.2.2.2.2.1.len x.2.2.2.2.2.2.2.2.2.2.2.2.2.2.2.2.2.2.2.2.2.2.2.2.2.1.cap x.2.2.2.2.2.2.2.2.2.2.2.2.2.2.2.2.2.2.2.2.2.2.2.2.2.1.sz,.int .i64 x.2.2.2.2.2.2.2.2.2.2.2.2.2.2.2.2.2.2.2.2.2.2.2.2.2.2.1,.int .i64 x.2.2.2.2.2.2.2.2.2.2.2.2.2.2.2.2.2.2.2.2.2.2.2.2.2.2.2.1,.str x.2.2.2.2.2.2.2.2.2.2.2.2.2.2.2.2.2.2.2.2.2.2.2.2.2.2.2.2.1,.slice x.2.2.2.2.2.2.2.2.2.2.2.2.2.2.2.2.2.2.2.2.2.2.2.2.2.2.2.2.2.1.a x.2.2.2.2.2.2.2.2.2.2.2.2.2.2.2.2.2.2.2.2.2.2.2.2.2.2.2.2.2.1.len x.2.2.2.2.2.2.2.2.2.2.2.2.2.2.2.2.2.2.2.2.2.2.2.2.2.2.2.2.2.1.cap x.2.2.2.2.2.2.2.2.2.2.2.2.2.2.2.2.2.2.2.2.2.2.2.2.2.2.2.2.2.1.sz,.slice x.2.2.2.2.2.2.2.2.2.2.2.2.2.2.2.2.2.2.2.2.2.2.2.2.2.2.2.2.2.2.1.a x.2.2.2.2.2.2.2.2.2.2.2.2.2.2.2.2.2.2.2.2.2.2.2.2.2.2.2.2.2.2.1.len x.2.2.2.2.2.2.2.2.2.2.2.2.2.2.2.2.2.2.2.2.2.2.2.2.2.2.2.2.2.2.1.cap x.2.2.2.2.2.2.2.2.2.2.2.2.2.2.2.2.2.2.2.2.2.2.2.2.2.2.2.2.2.2.1.sz,.slice x.2.2.2.2.2.2.2.2.2.2.2.2.2.2.2.2.2.2.2.2.2.2.2.2.2.2.2.2.2.2.2.1.a x.2.2.2.2.2.2.2.2.2.2.2.2.2.2.2.2.2.2.2.2.2.2.2.2.2.2.2.2.2.2.2.1.len x.2.2.2.2.2.2.2.2.2.2.2.2.2.2.2.2.2.2.2.2.2.2.2.2.2.2.2.2.2.2.2.1.cap x.2.2.2.2.2.2.2.2.2.2.2.2.2.2.2.2.2.2.2.2.2.2.2.2.2.2.2.2.2.2.2.1.sz]
def smv (r:SmR):SmV:=(r.k,r.at_,r.m,r.nm,r.ty.1,r.ty.2.1,r.ty.2.2.1,r.ty.2.2.2.1,r.has,r.pl.1,r.pl.2.1,r.va.1,r.va.2.1,r.va.2.2.1,r.va.2.2.2.1,r.va.2.2.2.2.1,r.va.2.2.2.2.2.1,r.va.2.2.2.2.2.2.1,r.va.2.2.2.2.2.2.2.1,r.va.2.2.2.2.2.2.2.2.1,r.va.2.2.2.2.2.2.2.2.2.1,r.va.2.2.2.2.2.2.2.2.2.2.1,r.va.2.2.2.2.2.2.2.2.2.2.2.1,r.va.2.2.2.2.2.2.2.2.2.2.2.2.1,r.va.2.2.2.2.2.2.2.2.2.2.2.2.2.1,r.va.2.2.2.2.2.2.2.2.2.2.2.2.2.2.1,r.co.1,r.co.2.1,r.co.2.2.1,r.co.2.2.2.1,r.th,r.el,())
def smc (r:SmR):List AV:=smx (smv r)
def smD (r:SmR) (d:SmT):D:=.t [.i r.k,.i r.at_,.b r.m,.s r.nm,d.ty,.b r.has,d.pl,d.va,d.co,.l d.th,.l d.el]
abbrev ty00:TyV:=(0,[],sl0,sl0,())
def smR0 (at_:Int):SmR:=⟨0,at_,false,[],ty00,false,lf0,va0,op00,sl0,sl0⟩
def va00:D:=vaD 0 op0 op0 0 pl0 [] [] []
def ty0D:D:=tyD 0 [] [] []
def smT0:SmT:=⟨ty0D,pl0,va00,op0,[],[]⟩
theorem dt_va0 (h:Heap) (V:Nat→Prop):Dt h V va00 (vac va0):=dt_va (dt_op0 _ _) (dt_op0 _ _) (dt_pl0 _ _) (Sl.nil _ _ _) (Sl.nil _ _ _)
structure SI (T:List Tok) (P:Nat) (X:List Nat) (hb:Heap) (R O:Nat) (r:SmR) (d:SmT) (h:Heap) (σ:St) (st:Int):Prop where
 pc:PC T P (O::R::X) h σ st
 chg:Chg [P] hb h
 oR:h.own R (smc (smR0 0))
 oO:h.own O (smc r)
 le:hb.next≤R∧R<O∧P<hb.next
 dty:Dt h (fun C=>O<C) d.ty (tyc r.ty)
 dpl:Dt h (fun C=>O<C) d.pl (lfc r.pl)
 dva:Dt h (fun C=>O<C) d.va (vac r.va)
 dco:Dt h (fun C=>O<C) d.co (opc r.co)
 dth:Sl h (fun C=>O<C) r.th d.th
 del:Sl h (fun C=>O<C) r.el d.el
section
variable {T:List Tok} {P:Nat} {X:List Nat} {st st':Int} {hb h h':Heap} {R O:Nat} {r r':SmR} {d d':SmT} {σ σ':St}
theorem SI.dt (x:SI T P X hb R O r d h σ st):Dt h (fun C=>O<C) (smD r d) (smc r):=
 dt_t (dp_cons (a:=[_]) (dt_i h _ r.k) (dp_cons (a:=[_]) (dt_i h _ r.at_) (dp_cons (a:=[_]) (dt_b h _ r.m) (dp_cons (a:=[_]) (dt_str h _ r.nm) (dp_cons (a:=tyc r.ty) x.dty (dp_cons (a:=[_]) (dt_b h _ r.has) (dp_cons (a:=lfc r.pl) x.dpl (dp_cons (a:=vac r.va) x.dva (dp_cons (a:=opc r.co) x.dco (dp_cons (a:=[_]) (dt_av.2 x.dth) (dp_cons (a:=[_]) (b:=[]) (dt_av.2 x.del) (dp_nil h _))))))))))))
theorem SI.step2 (x:SI T P X hb R O r d h σ st) (c:Chg [P,O] h h') (y:PC T P (O::R::X) h' σ' st') (o:h'.own O (smc r')) (e:r'.ty=r.ty∧r'.pl=r.pl∧r'.va=r.va∧r'.co=r.co∧r'.th=r.th∧r'.el=r.el):SI T P X hb R O r' d h' σ' st':=by
 obtain ⟨x1,x2,x3,x4,x5,x6,x7,x8,x9,x10,x11⟩:=x
 obtain ⟨e1,e2,e3,e4,e5,e6⟩:=e
 have hM:∀ A,O<A→A ∉ [P,O]:=fun C hC=>by simp;omega
 exact ⟨y,x2.step c (fun A hA hl=>by simp only [List.mem_cons,List.not_mem_nil,or_false] at hA ⊢;omega),x3.chg c (by simp;omega),o,x5,by rw [e1];exact x6.chg c hM,by rw [e2];exact x7.chg c hM,by rw [e3];exact x8.chg c hM,by rw [e4];exact x9.chg c hM,by rw [e5];exact x10.chg c hM,by rw [e6];exact x11.chg c hM⟩
theorem SI.step (x:SI T P X hb R O r d h σ st) (c:Chg [P] h h') (y:PC T P (O::R::X) h' σ' st'):SI T P X hb R O r d h' σ' st':=
 x.step2 (c.mono (by simp)) y (x.oO.chg c (by have:=x.le;simp;omega)) ⟨rfl,rfl,rfl,rfl,rfl,rfl⟩
theorem SI.step0 (x:SI T P X hb R O r d h σ st) (c:Chg [] h h'):SI T P X hb R O r d h' σ st:=x.step (c.mono (by simp)) (x.pc.chg c)
theorem SI.lt (x:SI T P X hb R O r d h σ st):O<h.next:=x.oO.2
theorem SI.put' (x:SI T P X hb R O r d h σ st) (r':SmR):Chg [O] h (h.put O (.row (smc r') .own))∧PC T P (O::R::X) (h.put O (.row (smc r') .own)) σ st∧Chg [P] hb (h.put O (.row (smc r') .own))∧(h.put O (.row (smc r') .own)).own R (smc (smR0 0))∧(h.put O (.row (smc r') .own)).own O (smc r'):=by
 have c:=x.oO.put (smc r')
 have:=x.le
 exact ⟨c,x.pc.chg1 c (by simp),x.chg.step c (fun A hA hl=>by rw [List.mem_singleton] at hA;omega),x.oR.chg c (by simp;omega),own_put x.oO _⟩
theorem SI.setK (x0:SI T P X hb R O r d h σ st) (v:Int):∃ h',h.store (O,0) [.int .i64 v]=some h'∧SI T P X hb R O { r with k:=v } d h' σ st∧Chg [O] h h':=by
 obtain ⟨c,y,cb,oR,oO⟩:=x0.put' { r with k:=v }
 have hM:∀ A,O<A→A ∉ [O]:=fun C hC=>by simp;omega
 exact ⟨_,own_storeN x0.oO (by simp only [smc,smx,smv,over_succ,over_zero,over_nil,Option.map_some]),⟨y,cb,oR,oO,x0.le,x0.dty.chg c hM,x0.dpl.chg c hM,x0.dva.chg c hM,x0.dco.chg c hM,x0.dth.chg c hM,x0.del.chg c hM⟩,c⟩
theorem SI.setM (x0:SI T P X hb R O r d h σ st) (v:Bool):∃ h',h.store (O,2) [.bool v]=some h'∧SI T P X hb R O { r with m:=v } d h' σ st∧Chg [O] h h':=by
 obtain ⟨c,y,cb,oR,oO⟩:=x0.put' { r with m:=v }
 have hM:∀ A,O<A→A ∉ [O]:=fun C hC=>by simp;omega
 exact ⟨_,own_storeN x0.oO (by simp only [smc,smx,smv,over_succ,over_zero,over_nil,Option.map_some]),⟨y,cb,oR,oO,x0.le,x0.dty.chg c hM,x0.dpl.chg c hM,x0.dva.chg c hM,x0.dco.chg c hM,x0.dth.chg c hM,x0.del.chg c hM⟩,c⟩
theorem SI.setN (x0:SI T P X hb R O r d h σ st) (v:Bs):∃ h',h.store (O,3) [.str v]=some h'∧SI T P X hb R O { r with nm:=v } d h' σ st∧Chg [O] h h':=by
 obtain ⟨c,y,cb,oR,oO⟩:=x0.put' { r with nm:=v }
 have hM:∀ A,O<A→A ∉ [O]:=fun C hC=>by simp;omega
 exact ⟨_,own_storeN x0.oO (by simp only [smc,smx,smv,over_succ,over_zero,over_nil,Option.map_some]),⟨y,cb,oR,oO,x0.le,x0.dty.chg c hM,x0.dpl.chg c hM,x0.dva.chg c hM,x0.dco.chg c hM,x0.dth.chg c hM,x0.del.chg c hM⟩,c⟩
theorem SI.setT (x0:SI T P X hb R O r d h σ st) (v:TyV) {x:D} (hd:Dt h (fun C=>O<C) x (tyc v)):∃ h',h.store (O,4) [.int .i64 v.1,.str v.2.1,.slice v.2.2.1.a v.2.2.1.len v.2.2.1.cap v.2.2.1.sz,.slice v.2.2.2.1.a v.2.2.2.1.len v.2.2.2.1.cap v.2.2.2.1.sz]=some h'∧SI T P X hb R O { r with ty:=v } { d with ty:=x } h' σ st∧Chg [O] h h':=by
 obtain ⟨c,y,cb,oR,oO⟩:=x0.put' { r with ty:=v }
 have hM:∀ A,O<A→A ∉ [O]:=fun C hC=>by simp;omega
 exact ⟨_,own_storeN x0.oO (by simp only [smc,smx,smv,over_succ,over_zero,over_nil,Option.map_some]),⟨y,cb,oR,oO,x0.le,hd.chg c hM,x0.dpl.chg c hM,x0.dva.chg c hM,x0.dco.chg c hM,x0.dth.chg c hM,x0.del.chg c hM⟩,c⟩
theorem SI.setH (x0:SI T P X hb R O r d h σ st) (v:Bool):∃ h',h.store (O,8) [.bool v]=some h'∧SI T P X hb R O { r with has:=v } d h' σ st∧Chg [O] h h':=by
 obtain ⟨c,y,cb,oR,oO⟩:=x0.put' { r with has:=v }
 have hM:∀ A,O<A→A ∉ [O]:=fun C hC=>by simp;omega
 exact ⟨_,own_storeN x0.oO (by simp only [smc,smx,smv,over_succ,over_zero,over_nil,Option.map_some]),⟨y,cb,oR,oO,x0.le,x0.dty.chg c hM,x0.dpl.chg c hM,x0.dva.chg c hM,x0.dco.chg c hM,x0.dth.chg c hM,x0.del.chg c hM⟩,c⟩
theorem SI.setP (x0:SI T P X hb R O r d h σ st) (v:LfV) {x:D} (hd:Dt h (fun C=>O<C) x (lfc v)):∃ h',h.store (O,9) [.str v.1,.slice v.2.1.a v.2.1.len v.2.1.cap v.2.1.sz]=some h'∧SI T P X hb R O { r with pl:=v } { d with pl:=x } h' σ st∧Chg [O] h h':=by
 obtain ⟨c,y,cb,oR,oO⟩:=x0.put' { r with pl:=v }
 have hM:∀ A,O<A→A ∉ [O]:=fun C hC=>by simp;omega
 exact ⟨_,own_storeN x0.oO (by simp only [smc,smx,smv,over_succ,over_zero,over_nil,Option.map_some]),⟨y,cb,oR,oO,x0.le,x0.dty.chg c hM,hd.chg c hM,x0.dva.chg c hM,x0.dco.chg c hM,x0.dth.chg c hM,x0.del.chg c hM⟩,c⟩
theorem SI.setV (x0:SI T P X hb R O r d h σ st) (v:VaV) {x:D} (hd:Dt h (fun C=>O<C) x (vac v)):∃ h',h.store (O,11) [.int .i64 v.1,.int .i64 v.2.1,.int .i64 v.2.2.1,.str v.2.2.2.1,.slice v.2.2.2.2.1.a v.2.2.2.2.1.len v.2.2.2.2.1.cap v.2.2.2.2.1.sz,.int .i64 v.2.2.2.2.2.1,.int .i64 v.2.2.2.2.2.2.1,.str v.2.2.2.2.2.2.2.1,.slice v.2.2.2.2.2.2.2.2.1.a v.2.2.2.2.2.2.2.2.1.len v.2.2.2.2.2.2.2.2.1.cap v.2.2.2.2.2.2.2.2.1.sz,.int .i64 v.2.2.2.2.2.2.2.2.2.1,.str v.2.2.2.2.2.2.2.2.2.2.1,.slice v.2.2.2.2.2.2.2.2.2.2.2.1.a v.2.2.2.2.2.2.2.2.2.2.2.1.len v.2.2.2.2.2.2.2.2.2.2.2.1.cap v.2.2.2.2.2.2.2.2.2.2.2.1.sz,.str v.2.2.2.2.2.2.2.2.2.2.2.2.1,.slice v.2.2.2.2.2.2.2.2.2.2.2.2.2.1.a v.2.2.2.2.2.2.2.2.2.2.2.2.2.1.len v.2.2.2.2.2.2.2.2.2.2.2.2.2.1.cap v.2.2.2.2.2.2.2.2.2.2.2.2.2.1.sz,.slice v.2.2.2.2.2.2.2.2.2.2.2.2.2.2.1.a v.2.2.2.2.2.2.2.2.2.2.2.2.2.2.1.len v.2.2.2.2.2.2.2.2.2.2.2.2.2.2.1.cap v.2.2.2.2.2.2.2.2.2.2.2.2.2.2.1.sz]=some h'∧SI T P X hb R O { r with va:=v } { d with va:=x } h' σ st∧Chg [O] h h':=by
 obtain ⟨c,y,cb,oR,oO⟩:=x0.put' { r with va:=v }
 have hM:∀ A,O<A→A ∉ [O]:=fun C hC=>by simp;omega
 exact ⟨_,own_storeN x0.oO (by simp only [smc,smx,smv,over_succ,over_zero,over_nil,Option.map_some]),⟨y,cb,oR,oO,x0.le,x0.dty.chg c hM,x0.dpl.chg c hM,hd.chg c hM,x0.dco.chg c hM,x0.dth.chg c hM,x0.del.chg c hM⟩,c⟩
theorem SI.setC (x0:SI T P X hb R O r d h σ st) (v:OpV) {x:D} (hd:Dt h (fun C=>O<C) x (opc v)):∃ h',h.store (O,26) [.int .i64 v.1,.int .i64 v.2.1,.str v.2.2.1,.slice v.2.2.2.1.a v.2.2.2.1.len v.2.2.2.1.cap v.2.2.2.1.sz]=some h'∧SI T P X hb R O { r with co:=v } { d with co:=x } h' σ st∧Chg [O] h h':=by
 obtain ⟨c,y,cb,oR,oO⟩:=x0.put' { r with co:=v }
 have hM:∀ A,O<A→A ∉ [O]:=fun C hC=>by simp;omega
 exact ⟨_,own_storeN x0.oO (by simp only [smc,smx,smv,over_succ,over_zero,over_nil,Option.map_some]),⟨y,cb,oR,oO,x0.le,x0.dty.chg c hM,x0.dpl.chg c hM,x0.dva.chg c hM,hd.chg c hM,x0.dth.chg c hM,x0.del.chg c hM⟩,c⟩
theorem SI.setTh (x0:SI T P X hb R O r d h σ st) (v:SL) {x:List D} (hd:Sl h (fun C=>O<C) v x):∃ h',h.store (O,30) [.slice v.a v.len v.cap v.sz]=some h'∧SI T P X hb R O { r with th:=v } { d with th:=x } h' σ st∧Chg [O] h h':=by
 obtain ⟨c,y,cb,oR,oO⟩:=x0.put' { r with th:=v }
 have hM:∀ A,O<A→A ∉ [O]:=fun C hC=>by simp;omega
 exact ⟨_,own_storeN x0.oO (by simp only [smc,smx,smv,over_succ,over_zero,over_nil,Option.map_some]),⟨y,cb,oR,oO,x0.le,x0.dty.chg c hM,x0.dpl.chg c hM,x0.dva.chg c hM,x0.dco.chg c hM,hd.chg c hM,x0.del.chg c hM⟩,c⟩
theorem SI.setEl (x0:SI T P X hb R O r d h σ st) (v:SL) {x:List D} (hd:Sl h (fun C=>O<C) v x):∃ h',h.store (O,31) [.slice v.a v.len v.cap v.sz]=some h'∧SI T P X hb R O { r with el:=v } { d with el:=x } h' σ st∧Chg [O] h h':=by
 obtain ⟨c,y,cb,oR,oO⟩:=x0.put' { r with el:=v }
 have hM:∀ A,O<A→A ∉ [O]:=fun C hC=>by simp;omega
 exact ⟨_,own_storeN x0.oO (by simp only [smc,smx,smv,over_succ,over_zero,over_nil,Option.map_some]),⟨y,cb,oR,oO,x0.le,x0.dty.chg c hM,x0.dpl.chg c hM,x0.dva.chg c hM,x0.dco.chg c hM,x0.dth.chg c hM,hd.chg c hM⟩,c⟩
end
def letS (T:List Tok) (at_:Int) (σ:St):D×St:=
 let m:=optS T [109,117,116] σ
 let n:=textS T 1 m.2
 let t:=typS T 64 (wantS T [58] n.2)
 let b:=optS T [61] t.2
 if b.1=true then
  let v:=valueS T b.2
  (smD { smR0 at_ with k:=1,m:=m.1,nm:=n.1,has:=true } { smT0 with ty:=t.1,va:=v.1 },wantS T [59] v.2)
 else (smD { smR0 at_ with k:=1,m:=m.1,nm:=n.1 } { smT0 with ty:=t.1 },wantS T [59] b.2)
section
variable {N:Nat} {T:List Tok} {P:Nat} {X:List Nat} {st:Int} {hb h:Heap} {R O:Nat} {σ:St}
def SmOK (T:List Tok) (P:Nat) (X:List Nat) (hb:Heap) (R O:Nat) (st:Int) (h:Heap) (x:D×St):Prop:=∃ r d,SI T P X hb R O r d h x.2 st∧x.1=smD r d
theorem smD_eq {r r':SmR} {d:SmT} (e:r.k=r'.k∧r.at_=r'.at_∧r.m=r'.m∧r.nm=r'.nm∧r.has=r'.has):smD r d=smD r' d:=by
 obtain ⟨e1,e2,e3,e4,e5⟩:=e
 simp only [smD,e1,e2,e3,e4,e5]
theorem f207_pc (hT:Toks T) (hN:100≤N) {at_:Int} (x:SI T P X hb R O (smR0 at_) smT0 h σ st):∃ h',f207 N (some (P,0)) (some (O,0)) h=some ((),h')∧SmOK T P X hb R O st h' (letS T at_ σ):=by
 unfold f207
 have hO:=x.le
 obtain ⟨h2,e2,c2,y2⟩:=f92_pc (N:=N) hT x.pc (w:=[109,117,116]) (by decide)
 rw [e2,bind2_some]
 have x2:=x.step c2 y2
 simp only [letS]
 generalize (optS T [109,117,116] σ).1=m at *
 generalize (optS T [109,117,116] σ).2=τ at *
 simp only [need_some,Nat.zero_add]
 obtain ⟨h4,e4,x4,c4⟩:=x2.setK 1
 rw [e4,need_some]
 obtain ⟨h6,e6,x6,c6⟩:=x4.setM m
 rw [e6,need_some]
 obtain ⟨f,h8,e8,y8,c8,d8,nm,t,hf,hfd,dt⟩:=f154_pc (N:=N) hT hN x6.pc
 have hnm:nm=(textS T 1 τ).1:=by
  simp only [fieldS,fdD,D.t.injEq,List.cons.injEq,D.s.injEq,true_and,and_true] at hfd
  exact hfd.symm
 rw [e8,bind2_some]
 have x8:=x6.step c8 y8
 have hlt6:=x6.lt
 have hn8:=c8.next
 have oA0:=own_push h8 (fdc fd0)
 have cA0:=chg_push h8 (.row (fdc fd0) .own)
 have eA:h8.push (.row [(.bool false),(.str []),(.int .i64 0),(.str []),(.slice none 0 0 0),(.slice none 0 0 0)] .own)=h8.push (.row (fdc fd0) .own):=rfl
 rw [eA,store6 oA0 f,need_some]
 have oA1:=own_put oA0 (fdc f)
 have cA1:Chg [] h8 ((h8.push (.row (fdc fd0) .own)).put h8.next (.row (fdc f) .own)):=cA0.put (.inr (Nat.le_refl _)) _
 have n1:((h8.push (.row (fdc fd0) .own)).put h8.next (.row (fdc f) .own)).next=h8.next+1:=rfl
 generalize (h8.push (.row (fdc fd0) .own)).put h8.next (.row (fdc f) .own)=h10 at *
 have x10:=x8.step0 cA1
 have dt10:Dt h10 (fun C=>O<C) (typS T 64 (wantS T [58] (textS T 1 τ).2)).1 (tyc t):=(dt.chg cA1 (by simp)).weak fun C hC _=>by omega
 subst hf
 have k1:∀ {H:Heap},H.own h8.next (fdc (fdOf false nm t))→H.cell (h8.next,0+1)=some (.str nm):=fun o=>o.cell 1
 have k2:∀ {H:Heap},H.own h8.next (fdc (fdOf false nm t))→H.cells (h8.next,0+2) 4=some (.agg (tyc t)):=fun o=>o.cells (j:=2) (m:=4) (by show 2+4≤6;omega)
 rw [k1 oA1,bindV_some,cast_str,k2 oA1,agg4]
 have htyc:tyc t=[(.int .i64 t.1),(.str t.2.1),(.slice t.2.2.1.a t.2.2.1.len t.2.2.1.cap t.2.2.1.sz),(.slice t.2.2.2.1.a t.2.2.2.1.len t.2.2.2.1.cap t.2.2.2.1.sz)]:=rfl
 obtain ⟨h14,e14,x14,c14⟩:=x10.setN nm
 try simp only [Nat.zero_add]
 rw [e14,need_some]
 have dt14:=dt10.chg c14 (fun C hC=>by simp;omega)
 obtain ⟨h16,e16,x16,c16⟩:=x14.setT t dt14
 rw [e16,need_some]
 have hOA:h8.next ∉ [O]:=by simp;omega
 have oA14:=oA1.chg c14 hOA
 have q1:h10.cell (h8.next,1)=some (.str nm):=oA1.cell 1
 have q2:h10.cells (h8.next,2) 4=some (.agg [(.int .i64 t.1),(.str t.2.1),(.slice t.2.2.1.a t.2.2.1.len t.2.2.1.cap t.2.2.1.sz),(.slice t.2.2.2.1.a t.2.2.2.1.len t.2.2.2.1.cap t.2.2.2.1.sz)]):=k2 oA1
 have q3:h14.cells (h8.next,2) 4=some (.agg [(.int .i64 t.1),(.str t.2.1),(.slice t.2.2.1.a t.2.2.1.len t.2.2.1.cap t.2.2.1.sz),(.slice t.2.2.2.1.a t.2.2.2.1.len t.2.2.2.1.cap t.2.2.2.1.sz)]):=k2 oA14
 simp only [q1,q2,q3,htyc,sameO_some,cond_true,guardB_true]
 have hσ:(fieldS T τ).2=(typS T 64 (wantS T [58] (textS T 1 τ).2)).2:=rfl
 rw [hσ] at x16
 subst hnm
 generalize (typS T 64 (wantS T [58] (textS T 1 τ).2))=tt at *
 obtain ⟨h18,e18,c18,y18⟩:=f93_pc (N:=N) hT x16.pc (w:=[61]) (by decide)
 rw [e18,bind2_some]
 have x18:=x16.step c18 y18
 obtain ⟨h20,e20,x20,c20⟩:=x18.setH (optS T [61] tt.2).1
 rw [e20,need_some]
 have r20:h20.cell (O,8)=some (.bool (optS T [61] tt.2).1):=x20.oO.cell 8
 simp only [r20,bindV_some,cast_bool]
 cases hbb:(optS T [61] tt.2).1 with
 | true=>
  simp only [cond_true,if_true]
  obtain ⟨v,h24,e24,y24,c24,d24⟩:=f219_pc (N:=N) hT hN x20.pc
  rw [e24,bind2_some]
  have x24:=x20.step c24 y24
  have hlt:=x20.lt
  obtain ⟨h26,e26,x26,c26⟩:=x24.setV v (d24.weak fun C hC _=>by omega)
  rw [e26,need_some]
  obtain ⟨h28,e28,c28,y28⟩:=f149_pc (N:=N) hT x26.pc (w:=[59]) (by decide)
  rw [e28,bind2_some]
  exact ⟨_,rfl,_,_,x26.step c28 y28,smD_eq ⟨rfl,rfl,rfl,rfl,by simp only [hbb]⟩⟩
 | false=>
  simp only [cond_false,Bool.false_eq_true,if_false]
  obtain ⟨h28,e28,c28,y28⟩:=f149_pc (N:=N) hT x20.pc (w:=[59]) (by decide)
  rw [e28,bind2_some]
  exact ⟨_,rfl,_,_,x20.step c28 y28,smD_eq ⟨rfl,rfl,rfl,rfl,by simp only [hbb];rfl⟩⟩
end
end Go.Proofs.YtkcjphhjmlienaaGreatDoor.Qp

set_option linter.unusedVariables false
set_option linter.unusedSimpArgs false
open Go Go.Proofs.YtkcjphhjmlienaaGreatDoor.Ai Go.Proofs
namespace Go.Proofs.YtkcjphhjmlienaaGreatDoor.Qp
def plainS (T:List Tok) (at_:Int) (σ:St):D×St:=
 let a:=optS T [98,114,101,97,107] σ
 if a.1=true then (smD { smR0 at_ with k:=8 } smT0,a.2) else
 let b:=optS T [99,111,110,116,105,110,117,101] a.2
 if b.1=true then (smD { smR0 at_ with k:=9 } smT0,b.2) else
 let c:=optS T [114,101,116,117,114,110] b.2
 if c.1=true then
  if (optS T [59] c.2).1=true then (smD { smR0 at_ with k:=10 } smT0,c.2)
  else (smD { smR0 at_ with k:=10,has:=true } { smT0 with va:=(valueS T c.2).1 },(valueS T c.2).2)
 else
 let d:=optS T [100,114,111,112] c.2
 if d.1=true then (smD { smR0 at_ with k:=11 } { smT0 with pl:=(placeS T d.2).1 },(placeS T d.2).2) else
 if callsS T d.2=true then
  let n:=nameS T d.2
  let l:=argsS T n.2
  (smD { smR0 at_ with k:=3 } { smT0 with va:=vaD 6 op0 op0 0 pl0 n.1 [] l.1 },l.2)
 else
  let p:=placeS T d.2
  let v:=valueS T (wantS T [61] p.2)
  (smD { smR0 at_ with k:=2 } { smT0 with pl:=p.1,va:=v.1 },v.2)
section
variable {T:List Tok} {P:Nat} {X:List Nat} {st st':Int} {hb h h':Heap} {R O:Nat} {r r':SmR} {d d':SmT} {σ σ':St}
theorem SI.stepV (x:SI T P X hb R O r d h σ st) (c:Chg [P,O] h h') (y:PC T P (O::R::X) h' σ' st') {v:VaV} (o:h'.own O (smc { r with va:=v })) {w:D} (hd:Dt h' (fun C=>O<C) w (vac v)):SI T P X hb R O { r with va:=v } { d with va:=w } h' σ' st':=by
 obtain ⟨x1,x2,x3,x4,x5,x6,x7,x8,x9,x10,x11⟩:=x
 have hM:∀ A,O<A→A ∉ [P,O]:=fun C hC=>by simp;omega
 exact ⟨y,x2.step c (fun A hA hl=>by simp only [List.mem_cons,List.not_mem_nil,or_false] at hA ⊢;omega),x3.chg c (by simp;omega),o,x5,x6.chg c hM,x7.chg c hM,hd,x9.chg c hM,x10.chg c hM,x11.chg c hM⟩
end
theorem sa25 (r:SmR) (k op:Int) (a b:OpV) (pl:LfV) (nm:Bs) (v w:SL):(smc { r with va:=vaOf k a b op pl nm v w })[11+14]? = some (SL.av w):=by simp [smc,smx,smv,vaOf,SL.av]
theorem ss25 (r:SmR) (k op:Int) (a b:OpV) (pl:LfV) (nm:Bs) (v w w':SL):(smc { r with va:=vaOf k a b op pl nm v w }).set (11+14) (SL.av w')=smc { r with va:=vaOf k a b op pl nm v w' }:=by simp [smc,smx,smv,vaOf,SL.av]
section
variable {N:Nat} {T:List Tok} {P:Nat} {X:List Nat} {st:Int} {hb h:Heap} {R O:Nat} {σ:St}
theorem f209_pc (hT:Toks T) (hN:100≤N) {at_:Int} (x:SI T P X hb R O (smR0 at_) smT0 h σ st):∃ h',f209 N (some (P,0)) (some (O,0)) h=some ((),h')∧SmOK T P X hb R O st h' (plainS T at_ σ):=by
 unfold f209
 have hO:=x.le
 obtain ⟨h2,e2,c2,y2⟩:=f92_pc (N:=N) hT x.pc (w:=[98,114,101,97,107]) (by decide)
 rw [e2,bind2_some]
 have x2:=x.step c2 y2
 simp only [plainS]
 cases hb1:(optS T [98,114,101,97,107] σ).1 with
 | true=>
  simp only [cond_true,if_true,need_some,Nat.zero_add]
  obtain ⟨h4,e4,x4,c4⟩:=x2.setK 8
  rw [e4,need_some]
  exact ⟨_,rfl,_,_,x4,smD_eq ⟨rfl,rfl,rfl,rfl,rfl⟩⟩
 | false=>
 simp only [cond_false,Bool.false_eq_true,if_false]
 generalize (optS T [98,114,101,97,107] σ).2=σ2 at *
 obtain ⟨h6,e6,c6,y6⟩:=f92_pc (N:=N) hT x2.pc (w:=[99,111,110,116,105,110,117,101]) (by decide)
 rw [e6,bind2_some]
 have x6:=x2.step c6 y6
 cases hb2:(optS T [99,111,110,116,105,110,117,101] σ2).1 with
 | true=>
  simp only [cond_true,if_true,need_some,Nat.zero_add]
  obtain ⟨h8,e8,x8,c8⟩:=x6.setK 9
  rw [e8,need_some]
  exact ⟨_,rfl,_,_,x8,smD_eq ⟨rfl,rfl,rfl,rfl,rfl⟩⟩
 | false=>
 simp only [cond_false,Bool.false_eq_true,if_false]
 generalize (optS T [99,111,110,116,105,110,117,101] σ2).2=σ3 at *
 obtain ⟨h10,e10,c10,y10⟩:=f92_pc (N:=N) hT x6.pc (w:=[114,101,116,117,114,110]) (by decide)
 rw [e10,bind2_some]
 have x10:=x6.step c10 y10
 cases hb3:(optS T [114,101,116,117,114,110] σ3).1 with
 | true=>
  simp only [cond_true,if_true,need_some,Nat.zero_add]
  obtain ⟨h12,e12,x12,c12⟩:=x10.setK 10
  rw [e12,need_some]
  obtain ⟨h14,e14,c14⟩:=f146_pc (N:=N) hT x12.pc (w:=[59]) (by decide)
  rw [e14,bind2_some]
  have x14:=x12.step0 c14
  generalize (optS T [114,101,116,117,114,110] σ3).2=σ4 at *
  obtain ⟨h17,e17,x17,c17⟩:=x14.setH (!(optS T [59] σ4).1)
  rw [e17,need_some]
  have r17:h17.cell (O,8)=some (.bool (!(optS T [59] σ4).1)):=x17.oO.cell 8
  simp only [r17,bindV_some,cast_bool]
  cases hb4:(optS T [59] σ4).1 with
  | true=>
   rw [hb4] at x17
   simp only [Bool.not_true,cond_false,if_true]
   exact ⟨_,rfl,_,_,x17,smD_eq ⟨rfl,rfl,rfl,rfl,rfl⟩⟩
  | false=>
   rw [hb4] at x17
   simp only [Bool.not_false,cond_true,Bool.false_eq_true,if_false]
   obtain ⟨v,h24,e24,y24,c24,d24⟩:=f219_pc (N:=N) hT hN x17.pc
   rw [e24,bind2_some]
   have x24:=x17.step c24 y24
   have hlt:=x17.lt
   obtain ⟨h26,e26,x26,c26⟩:=x24.setV v (d24.weak fun C hC _=>by omega)
   rw [e26,need_some]
   exact ⟨_,rfl,_,_,x26,smD_eq ⟨rfl,rfl,rfl,rfl,rfl⟩⟩
 | false=>
 simp only [cond_false,Bool.false_eq_true,if_false]
 generalize (optS T [114,101,116,117,114,110] σ3).2=σ4 at *
 obtain ⟨h25,e25,c25,y25⟩:=f92_pc (N:=N) hT x10.pc (w:=[100,114,111,112]) (by decide)
 rw [e25,bind2_some]
 have x25:=x10.step c25 y25
 cases hb4:(optS T [100,114,111,112] σ4).1 with
 | true=>
  simp only [cond_true,if_true,need_some,Nat.zero_add]
  obtain ⟨p,h27,e27,y27,c27,d27⟩:=f221_pc (N:=N) hT hN x25.pc
  rw [e27,bind2_some]
  have x27:=x25.step c27 y27
  have hlt:=x25.lt
  obtain ⟨h29,e29,x29,c29⟩:=x27.setK 11
  rw [e29,need_some]
  obtain ⟨h31,e31,x31,c31⟩:=x29.setP p ((d27.weak (W:=fun C=>O<C) fun C hC _=>by omega).chg c29 (fun C hC=>by simp;omega))
  rw [e31,need_some]
  exact ⟨_,rfl,_,_,x31,smD_eq ⟨rfl,rfl,rfl,rfl,rfl⟩⟩
 | false=>
 simp only [cond_false,Bool.false_eq_true,if_false]
 generalize (optS T [100,114,111,112] σ4).2=σ5 at *
 obtain ⟨h33,e33,c33⟩:=f222_pc (N:=N) hT x25.pc
 rw [e33,bind2_some]
 have x33:=x25.step0 c33
 cases hb5:callsS T σ5 with
 | true=>
  simp only [cond_true,if_true,need_some,Nat.zero_add]
  obtain ⟨h35,e35,c35,y35⟩:=f95_pc (N:=N) hT x33.pc
  rw [e35,bind2_some]
  have x35:=x33.step c35 y35
  obtain ⟨h37,e37,x37,c37⟩:=x35.setK 3
  rw [e37,need_some]
  generalize (nameS T σ5).1=nm at *
  generalize (nameS T σ5).2=σ6 at *
  obtain ⟨h39,e39,x39,c39⟩:=x37.setV (vaOf 6 op00 op00 0 lf0 nm sl0 sl0) (dt_va (dt_op0 _ _) (dt_op0 _ _) (dt_pl0 _ _) (Sl.nil _ _ _) (Sl.nil _ _ _):Dt h37 _ (vaD 6 op0 op0 0 pl0 nm [] []) _)
  have e39':h37.store (O,11) [(.int .i64 6),(.int .i64 0),(.int .i64 0),(.str []),(.slice none 0 0 0),(.int .i64 0),(.int .i64 0),(.str []),(.slice none 0 0 0),(.int .i64 0),(.str []),(.slice none 0 0 0),(.str nm),(.slice none 0 0 0),(.slice none 0 0 0)]=some h39:=e39
  rw [e39',need_some]
  obtain ⟨v,h42,e42,y42,c42,o42,s42⟩:=f223_pc (N:=N) (off:=11) (row:=fun v=>smc { smR0 at_ with k:=3,va:=vaOf 6 op00 op00 0 lf0 nm sl0 v }) hT hN x39.pc (O:=O) (by omega) (by simp) (fun v=>sa25 { smR0 at_ with k:=3 } 6 0 op00 op00 lf0 nm sl0 v) (fun v v'=>ss25 { smR0 at_ with k:=3 } 6 0 op00 op00 lf0 nm sl0 v v') x39.oO
  rw [e42,bind2_some]
  have hlt:=x39.lt
  exact ⟨_,rfl,_,_,x39.stepV c42 y42 (v:=vaOf 6 op00 op00 0 lf0 nm sl0 v) o42 (w:=vaD 6 op0 op0 0 pl0 nm [] (argsS T σ6).1) (dt_va (dt_op0 _ _) (dt_op0 _ _) (dt_pl0 _ _) (Sl.nil _ _ _) (s42.weak fun C hC _=>by omega)),smD_eq ⟨rfl,rfl,rfl,rfl,rfl⟩⟩
 | false=>
  simp only [cond_false,Bool.false_eq_true,if_false,need_some,Nat.zero_add]
  obtain ⟨p,h44,e44,y44,c44,d44⟩:=f221_pc (N:=N) hT hN x33.pc
  rw [e44,bind2_some]
  have x44:=x33.step c44 y44
  have hlt:=x33.lt
  obtain ⟨h46,e46,x46,c46⟩:=x44.setK 2
  rw [e46,need_some]
  obtain ⟨h48,e48,x48,c48⟩:=x46.setP p ((d44.weak (W:=fun C=>O<C) fun C hC _=>by omega).chg c46 (fun C hC=>by simp;omega))
  rw [e48,need_some]
  obtain ⟨h50,e50,c50,y50⟩:=f149_pc (N:=N) hT x48.pc (w:=[61]) (by decide)
  rw [e50,bind2_some]
  have x50:=x48.step c50 y50
  obtain ⟨v,h52,e52,y52,c52,d52⟩:=f219_pc (N:=N) hT hN x50.pc
  rw [e52,bind2_some]
  have x52:=x50.step c52 y52
  have hlt5:=x50.lt
  obtain ⟨h54,e54,x54,c54⟩:=x52.setV v (d52.weak fun C hC _=>by omega)
  rw [e54,need_some]
  exact ⟨_,rfl,_,_,x54,smD_eq ⟨rfl,rfl,rfl,rfl,rfl⟩⟩
end
end Go.Proofs.YtkcjphhjmlienaaGreatDoor.Qp

set_option linter.unusedVariables false
set_option linter.unusedSimpArgs false
open Go Go.Proofs.YtkcjphhjmlienaaGreatDoor.Ai Go.Proofs
namespace Go.Proofs.YtkcjphhjmlienaaGreatDoor.Qp
section
variable (T:List Tok) (i:Nat) (e:Int×Int)
theorem optS_err (w:Bs):optS T w (i,some e)=(false,(i,some e)):=by simp [optS]
theorem textS_err (k:Int):textS T k (i,some e)=([],(i,some e)):=rfl
theorem failS_err (k:Int):failS T k (i,some e)=(i,some e):=rfl
theorem wantS_err (w:Bs):wantS T w (i,some e)=(i,some e):=by simp [wantS,optS_err,failS_err]
theorem typS_err (g:Nat):typS T g (i,some e)=(ty0D,(i,some e)):=by cases g <;> rfl
theorem pathS_err (g:Nat):pathS T g (i,some e)=([],(i,some e)):=by cases g <;> simp [pathS,optS_err]
theorem placeS_err:placeS T (i,some e)=(pl0,(i,some e)):=by simp [placeS,textS_err,pathS_err,pl0]
theorem operS_err:(operS T (i,some e)).2=(i,some e):=by
 simp only [operS,optS_err,Bool.false_eq_true,if_false]
 by_cases h:(tk T i).1=4
 ·rw [if_pos h];simp [textS_err]
 ·rw [if_neg h];simp [placeS_err]
theorem opS_err:∀ (l:List Bs) (k:Int),opS T l k (i,some e)=(none,(i,some e))
 | [],_=>rfl
 | s::r,k=>by simp only [opS,optS_err,Bool.false_eq_true,if_false];exact opS_err r _
theorem callsS_err:callsS T (i,some e)=false:=by simp [callsS,behindS]
theorem behindS_err (w:Bs):behindS T w (i,some e)=false:=by simp [behindS]
theorem valueS_err:(valueS T (i,some e)).2=(i,some e):=by
 simp only [valueS,optS_err,Bool.false_eq_true,if_false,callsS_err,behindS_err,Bool.or_false,operS_err,opS_err]
theorem plainS_err (a:Int):(plainS T a (i,some e)).2=(i,some e):=by
 simp only [plainS,optS_err,Bool.false_eq_true,if_false,callsS_err,placeS_err,wantS_err,valueS_err]
end
theorem isSome_err {σ:St} (h:σ.2.isSome=true):∃ i e,σ=(i,some e):=by
 obtain ⟨i,e⟩:=σ
 cases e with
 | none=>cases h
 | some q=>exact ⟨i,q,rfl⟩
theorem optS_end {T:List Tok} {i:Nat} (h:(tk T i).1=0) (w:Bs):optS T w (i,none)=(false,(i,none)):=by
 have:isS T w i=false:=by simp [isS,h]
 simp [optS,this]
abbrev SC:=St×Nat
def KS (s:SC):Prop:=s.2≤2000∨s.1.2.isSome=true
def KE (T:List Tok) (s:SC):Prop:=KS s∨(s.2≤2001∧(tk T s.1.1).1=0)
theorem KS.err {σ:St} {c:Nat} (h:KS (σ,c)) {τ:St} (hs:∀ i e,σ=(i,some e)→τ=(i,some e)):KS (τ,c):=by
 rcases h with h | h
 ·exact .inl h
 ·obtain ⟨i,e,rfl⟩:=isSome_err h
  rw [hs i e rfl];exact .inr rfl
def stmtS (T:List Tok) (blk:SC→List D×SC) (s:SC):D×SC:=
 let at_:Int:=((tk T s.1.1).2.2:Int)
 let a:=optS T [108,101,116] s.1
 if a.1=true then ((letS T at_ a.2).1,((letS T at_ a.2).2,s.2)) else
 let b:=optS T [105,102] a.2
 if b.1=true then
  let o:=operS T b.2
  let t:=blk (o.2,s.2)
  let e:=optS T [101,108,115,101] t.2.1
  if e.1=true then
   let f:=blk (e.2,t.2.2)
   (smD { smR0 at_ with k:=4,has:=true } { smT0 with co:=o.1,th:=t.1,el:=f.1 },f.2)
  else (smD { smR0 at_ with k:=4 } { smT0 with co:=o.1,th:=t.1 },(e.2,t.2.2))
 else
 let c:=optS T [119,104,105,108,101] b.2
 if c.1=true then
  let o:=operS T c.2
  let t:=blk (o.2,s.2)
  (smD { smR0 at_ with k:=5 } { smT0 with co:=o.1,th:=t.1 },t.2)
 else
 let d:=optS T [108,111,111,112] c.2
 if d.1=true then
  let t:=blk (d.2,s.2)
  (smD { smR0 at_ with k:=6 } { smT0 with th:=t.1 },t.2)
 else
 if (optS T [123] d.2).1=true then
  let t:=blk (d.2,s.2)
  (smD { smR0 at_ with k:=7 } { smT0 with th:=t.1 },t.2)
 else
  let x:=plainS T at_ d.2
  (x.1,(wantS T [59] x.2,s.2))
def BlkOK (N:Nat) (T:List Tok) (P:Nat) (F:Option (Nat×Nat)→Int→Heap→Option (SL×Heap)) (blk:SC→List D×SC) (deep:Int):Prop:=∀ (X:List Nat) (h:Heap) (σ:St) (c:Nat),PC T P X h σ (c:Int)→KS (σ,c)→∃ v h',F (some (P,0)) deep h=some (v,h')∧PC T P X h' (blk (σ,c)).2.1 ((blk (σ,c)).2.2:Int)∧Chg [P] h h'∧Sl h' (fun C=>h.next≤C) v (blk (σ,c)).1
theorem aggS {β:Type} (r:SmV) (K:SmV→Option β):bindV (.val (.agg [(.int .i64),(.int .i64),.bool,.str,(.int .i64),.str,.slice,.slice,.bool,.str,.slice,(.int .i64),(.int .i64),(.int .i64),.str,.slice,(.int .i64),(.int .i64),.str,.slice,(.int .i64),.str,.slice,.str,.slice,.slice,(.int .i64),(.int .i64),.str,.slice,.slice,.slice])) (some (.agg (smx r))) K=K r:=by
 obtain ⟨x1,x2,x3,x4,x5,x6,x7,x8,x9,x10,x11,x12,x13,x14,x15,x16,x17,x18,x19,x20,x21,x22,x23,x24,x25,x26,x27,x28,x29,x30,x31,x32,_⟩:=r
 simp [smx]
theorem cellsS {H:Heap} {A:Nat} {r:SmV} (o:H.own A (smx r)) {β:Type} (K:SmV→Option β):bindV (.val (.agg [(.int .i64),(.int .i64),.bool,.str,(.int .i64),.str,.slice,.slice,.bool,.str,.slice,(.int .i64),(.int .i64),(.int .i64),.str,.slice,(.int .i64),(.int .i64),.str,.slice,(.int .i64),.str,.slice,.str,.slice,.slice,(.int .i64),(.int .i64),.str,.slice,.slice,.slice])) (H.cells (A,0) 32) K=K r:=by
 have:H.cells (A,0) 32=some (.agg (smx r)):=o.cells (j:=0) (m:=32) (Nat.le_refl _)
 rw [this,aggS]
theorem finS {H:Heap} {A:Nat} {r0:SmV} (o:H.own A (smx r0)) (r:SmV) {β:Type} (K:SmV→Heap→Option β) :
  (need (H.store (A,0) [.int .i64 r.1,.int .i64 r.2.1,.bool r.2.2.1,.str r.2.2.2.1,.int .i64 r.2.2.2.2.1,.str r.2.2.2.2.2.1,.slice r.2.2.2.2.2.2.1.a r.2.2.2.2.2.2.1.len r.2.2.2.2.2.2.1.cap r.2.2.2.2.2.2.1.sz,.slice r.2.2.2.2.2.2.2.1.a r.2.2.2.2.2.2.2.1.len r.2.2.2.2.2.2.2.1.cap r.2.2.2.2.2.2.2.1.sz,.bool r.2.2.2.2.2.2.2.2.1,.str r.2.2.2.2.2.2.2.2.2.1,.slice r.2.2.2.2.2.2.2.2.2.2.1.a r.2.2.2.2.2.2.2.2.2.2.1.len r.2.2.2.2.2.2.2.2.2.2.1.cap r.2.2.2.2.2.2.2.2.2.2.1.sz,.int .i64 r.2.2.2.2.2.2.2.2.2.2.2.1,.int .i64 r.2.2.2.2.2.2.2.2.2.2.2.2.1,.int .i64 r.2.2.2.2.2.2.2.2.2.2.2.2.2.1,.str r.2.2.2.2.2.2.2.2.2.2.2.2.2.2.1,.slice r.2.2.2.2.2.2.2.2.2.2.2.2.2.2.2.1.a r.2.2.2.2.2.2.2.2.2.2.2.2.2.2.2.1.len r.2.2.2.2.2.2.2.2.2.2.2.2.2.2.2.1.cap r.2.2.2.2.2.2.2.2.2.2.2.2.2.2.2.1.sz,.int .i64 r.2.2.2.2.2.2.2.2.2.2.2.2.2.2.2.2.1,.int .i64 r.2.2.2.2.2.2.2.2.2.2.2.2.2.2.2.2.2.1,.str r.2.2.2.2.2.2.2.2.2.2.2.2.2.2.2.2.2.2.1,.slice r.2.2.2.2.2.2.2.2.2.2.2.2.2.2.2.2.2.2.2.1.a r.2.2.2.2.2.2.2.2.2.2.2.2.2.2.2.2.2.2.2.1.len r.2.2.2.2.2.2.2.2.2.2.2.2.2.2.2.2.2.2.2.1.cap r.2.2.2.2.2.2.2.2.2.2.2.2.2.2.2.2.2.2.2.1.sz,.int .i64 r.2.2.2.2.2.2.2.2.2.2.2.2.2.2.2.2.2.2.2.2.1,.str r.2.2.2.2.2.2.2.2.2.2.2.2.2.2.2.2.2.2.2.2.2.1,.slice r.2.2.2.2.2.2.2.2.2.2.2.2.2.2.2.2.2.2.2.2.2.2.1.a r.2.2.2.2.2.2.2.2.2.2.2.2.2.2.2.2.2.2.2.2.2.2.1.len r.2.2.2.2.2.2.2.2.2.2.2.2.2.2.2.2.2.2.2.2.2.2.1.cap r.2.2.2.2.2.2.2.2.2.2.2.2.2.2.2.2.2.2.2.2.2.2.1.sz,.str r.2.2.2.2.2.2.2.2.2.2.2.2.2.2.2.2.2.2.2.2.2.2.2.1,.slice r.2.2.2.2.2.2.2.2.2.2.2.2.2.2.2.2.2.2.2.2.2.2.2.2.1.a r.2.2.2.2.2.2.2.2.2.2.2.2.2.2.2.2.2.2.2.2.2.2.2.2.1.len r.2.2.2.2.2.2.2.2.2.2.2.2.2.2.2.2.2.2.2.2.2.2.2.2.1.cap r.2.2.2.2.2.2.2.2.2.2.2.2.2.2.2.2.2.2.2.2.2.2.2.2.1.sz,.slice r.2.2.2.2.2.2.2.2.2.2.2.2.2.2.2.2.2.2.2.2.2.2.2.2.2.1.a r.2.2.2.2.2.2.2.2.2.2.2.2.2.2.2.2.2.2.2.2.2.2.2.2.2.1.len r.2.2.2.2.2.2.2.2.2.2.2.2.2.2.2.2.2.2.2.2.2.2.2.2.2.1.cap r.2.2.2.2.2.2.2.2.2.2.2.2.2.2.2.2.2.2.2.2.2.2.2.2.2.1.sz,.int .i64 r.2.2.2.2.2.2.2.2.2.2.2.2.2.2.2.2.2.2.2.2.2.2.2.2.2.2.1,.int .i64 r.2.2.2.2.2.2.2.2.2.2.2.2.2.2.2.2.2.2.2.2.2.2.2.2.2.2.2.1,.str r.2.2.2.2.2.2.2.2.2.2.2.2.2.2.2.2.2.2.2.2.2.2.2.2.2.2.2.2.1,.slice r.2.2.2.2.2.2.2.2.2.2.2.2.2.2.2.2.2.2.2.2.2.2.2.2.2.2.2.2.2.1.a r.2.2.2.2.2.2.2.2.2.2.2.2.2.2.2.2.2.2.2.2.2.2.2.2.2.2.2.2.2.1.len r.2.2.2.2.2.2.2.2.2.2.2.2.2.2.2.2.2.2.2.2.2.2.2.2.2.2.2.2.2.1.cap r.2.2.2.2.2.2.2.2.2.2.2.2.2.2.2.2.2.2.2.2.2.2.2.2.2.2.2.2.2.1.sz,.slice r.2.2.2.2.2.2.2.2.2.2.2.2.2.2.2.2.2.2.2.2.2.2.2.2.2.2.2.2.2.2.1.a r.2.2.2.2.2.2.2.2.2.2.2.2.2.2.2.2.2.2.2.2.2.2.2.2.2.2.2.2.2.2.1.len r.2.2.2.2.2.2.2.2.2.2.2.2.2.2.2.2.2.2.2.2.2.2.2.2.2.2.2.2.2.2.1.cap r.2.2.2.2.2.2.2.2.2.2.2.2.2.2.2.2.2.2.2.2.2.2.2.2.2.2.2.2.2.2.1.sz,.slice r.2.2.2.2.2.2.2.2.2.2.2.2.2.2.2.2.2.2.2.2.2.2.2.2.2.2.2.2.2.2.2.1.a r.2.2.2.2.2.2.2.2.2.2.2.2.2.2.2.2.2.2.2.2.2.2.2.2.2.2.2.2.2.2.2.1.len r.2.2.2.2.2.2.2.2.2.2.2.2.2.2.2.2.2.2.2.2.2.2.2.2.2.2.2.2.2.2.2.1.cap r.2.2.2.2.2.2.2.2.2.2.2.2.2.2.2.2.2.2.2.2.2.2.2.2.2.2.2.2.2.2.2.1.sz]) fun h7=>bindV (.val (.agg [(.int .i64),(.int .i64),.bool,.str,(.int .i64),.str,.slice,.slice,.bool,.str,.slice,(.int .i64),(.int .i64),(.int .i64),.str,.slice,(.int .i64),(.int .i64),.str,.slice,(.int .i64),.str,.slice,.str,.slice,.slice,(.int .i64),(.int .i64),.str,.slice,.slice,.slice])) (h7.cells (A,0) 32) fun x8=>K x8 h7)=K r (H.put A (.row (smx r) .own)):=by
 have:H.store (A,0) [.int .i64 r.1,.int .i64 r.2.1,.bool r.2.2.1,.str r.2.2.2.1,.int .i64 r.2.2.2.2.1,.str r.2.2.2.2.2.1,.slice r.2.2.2.2.2.2.1.a r.2.2.2.2.2.2.1.len r.2.2.2.2.2.2.1.cap r.2.2.2.2.2.2.1.sz,.slice r.2.2.2.2.2.2.2.1.a r.2.2.2.2.2.2.2.1.len r.2.2.2.2.2.2.2.1.cap r.2.2.2.2.2.2.2.1.sz,.bool r.2.2.2.2.2.2.2.2.1,.str r.2.2.2.2.2.2.2.2.2.1,.slice r.2.2.2.2.2.2.2.2.2.2.1.a r.2.2.2.2.2.2.2.2.2.2.1.len r.2.2.2.2.2.2.2.2.2.2.1.cap r.2.2.2.2.2.2.2.2.2.2.1.sz,.int .i64 r.2.2.2.2.2.2.2.2.2.2.2.1,.int .i64 r.2.2.2.2.2.2.2.2.2.2.2.2.1,.int .i64 r.2.2.2.2.2.2.2.2.2.2.2.2.2.1,.str r.2.2.2.2.2.2.2.2.2.2.2.2.2.2.1,.slice r.2.2.2.2.2.2.2.2.2.2.2.2.2.2.2.1.a r.2.2.2.2.2.2.2.2.2.2.2.2.2.2.2.1.len r.2.2.2.2.2.2.2.2.2.2.2.2.2.2.2.1.cap r.2.2.2.2.2.2.2.2.2.2.2.2.2.2.2.1.sz,.int .i64 r.2.2.2.2.2.2.2.2.2.2.2.2.2.2.2.2.1,.int .i64 r.2.2.2.2.2.2.2.2.2.2.2.2.2.2.2.2.2.1,.str r.2.2.2.2.2.2.2.2.2.2.2.2.2.2.2.2.2.2.1,.slice r.2.2.2.2.2.2.2.2.2.2.2.2.2.2.2.2.2.2.2.1.a r.2.2.2.2.2.2.2.2.2.2.2.2.2.2.2.2.2.2.2.1.len r.2.2.2.2.2.2.2.2.2.2.2.2.2.2.2.2.2.2.2.1.cap r.2.2.2.2.2.2.2.2.2.2.2.2.2.2.2.2.2.2.2.1.sz,.int .i64 r.2.2.2.2.2.2.2.2.2.2.2.2.2.2.2.2.2.2.2.2.1,.str r.2.2.2.2.2.2.2.2.2.2.2.2.2.2.2.2.2.2.2.2.2.1,.slice r.2.2.2.2.2.2.2.2.2.2.2.2.2.2.2.2.2.2.2.2.2.2.1.a r.2.2.2.2.2.2.2.2.2.2.2.2.2.2.2.2.2.2.2.2.2.2.1.len r.2.2.2.2.2.2.2.2.2.2.2.2.2.2.2.2.2.2.2.2.2.2.1.cap r.2.2.2.2.2.2.2.2.2.2.2.2.2.2.2.2.2.2.2.2.2.2.1.sz,.str r.2.2.2.2.2.2.2.2.2.2.2.2.2.2.2.2.2.2.2.2.2.2.2.1,.slice r.2.2.2.2.2.2.2.2.2.2.2.2.2.2.2.2.2.2.2.2.2.2.2.2.1.a r.2.2.2.2.2.2.2.2.2.2.2.2.2.2.2.2.2.2.2.2.2.2.2.2.1.len r.2.2.2.2.2.2.2.2.2.2.2.2.2.2.2.2.2.2.2.2.2.2.2.2.1.cap r.2.2.2.2.2.2.2.2.2.2.2.2.2.2.2.2.2.2.2.2.2.2.2.2.1.sz,.slice r.2.2.2.2.2.2.2.2.2.2.2.2.2.2.2.2.2.2.2.2.2.2.2.2.2.1.a r.2.2.2.2.2.2.2.2.2.2.2.2.2.2.2.2.2.2.2.2.2.2.2.2.2.1.len r.2.2.2.2.2.2.2.2.2.2.2.2.2.2.2.2.2.2.2.2.2.2.2.2.2.1.cap r.2.2.2.2.2.2.2.2.2.2.2.2.2.2.2.2.2.2.2.2.2.2.2.2.2.1.sz,.int .i64 r.2.2.2.2.2.2.2.2.2.2.2.2.2.2.2.2.2.2.2.2.2.2.2.2.2.2.1,.int .i64 r.2.2.2.2.2.2.2.2.2.2.2.2.2.2.2.2.2.2.2.2.2.2.2.2.2.2.2.1,.str r.2.2.2.2.2.2.2.2.2.2.2.2.2.2.2.2.2.2.2.2.2.2.2.2.2.2.2.2.1,.slice r.2.2.2.2.2.2.2.2.2.2.2.2.2.2.2.2.2.2.2.2.2.2.2.2.2.2.2.2.2.1.a r.2.2.2.2.2.2.2.2.2.2.2.2.2.2.2.2.2.2.2.2.2.2.2.2.2.2.2.2.2.1.len r.2.2.2.2.2.2.2.2.2.2.2.2.2.2.2.2.2.2.2.2.2.2.2.2.2.2.2.2.2.1.cap r.2.2.2.2.2.2.2.2.2.2.2.2.2.2.2.2.2.2.2.2.2.2.2.2.2.2.2.2.2.1.sz,.slice r.2.2.2.2.2.2.2.2.2.2.2.2.2.2.2.2.2.2.2.2.2.2.2.2.2.2.2.2.2.2.1.a r.2.2.2.2.2.2.2.2.2.2.2.2.2.2.2.2.2.2.2.2.2.2.2.2.2.2.2.2.2.2.1.len r.2.2.2.2.2.2.2.2.2.2.2.2.2.2.2.2.2.2.2.2.2.2.2.2.2.2.2.2.2.2.1.cap r.2.2.2.2.2.2.2.2.2.2.2.2.2.2.2.2.2.2.2.2.2.2.2.2.2.2.2.2.2.2.1.sz,.slice r.2.2.2.2.2.2.2.2.2.2.2.2.2.2.2.2.2.2.2.2.2.2.2.2.2.2.2.2.2.2.2.1.a r.2.2.2.2.2.2.2.2.2.2.2.2.2.2.2.2.2.2.2.2.2.2.2.2.2.2.2.2.2.2.2.1.len r.2.2.2.2.2.2.2.2.2.2.2.2.2.2.2.2.2.2.2.2.2.2.2.2.2.2.2.2.2.2.2.1.cap r.2.2.2.2.2.2.2.2.2.2.2.2.2.2.2.2.2.2.2.2.2.2.2.2.2.2.2.2.2.2.2.1.sz]=some (H.put A (.row (smx r) .own)):=o.store rfl
 rw [this,need_some,cellsS (own_put o _)]
section
variable {N:Nat} {T:List Tok} {P:Nat} {X:List Nat} {h:Heap} {σ:St}
theorem KE.opt {c:Nat} (hk:KE T (σ,c)) {w:Bs} (h:(optS T w σ).1=true):c≤2000:=by
 have hn:=(optS_none h).2
 rcases hk with (hk | hk) | ⟨_,hk⟩
 ·exact hk
 ·rw [hn] at hk;cases hk
 ·obtain ⟨i,e⟩:=σ
  simp only at hn;subst hn
  rw [optS_end hk] at h;cases h
theorem KS.le {s:SC} (h:s.2≤2000):KS s:=.inl h
theorem f190_pc (hT:Toks T) (hN:100≤N) {F:Option (Nat×Nat)→Int→Heap→Option (SL×Heap)} {G} {blk:SC→List D×SC} {deep:Nat} (hd:deep≤100) (hB:BlkOK N T P F blk ((deep+1:Nat):Int)) (hK:∀ s,KS s→KS (blk s).2) {c:Nat} (x:PC T P X h σ (c:Int)) (hk:KE T (σ,c)) :
  ∃ r h',f190_r N F G (some (P,0)) (deep:Int) h=some (r,h')∧PC T P X h' (stmtS T blk (σ,c)).2.1 ((stmtS T blk (σ,c)).2.2:Int)∧Chg [P] h h'∧Dt h' (fun C=>h.next≤C) (stmtS T blk (σ,c)).1 (smx r):=by
 unfold f190_r
 have hP:=x.P_lt
 have oR:=own_push h (smc (smR0 0))
 have cR:=chg_push h (.row (smc (smR0 0)) .own)
 have eR:h.push (.row [.int .i64 0,.int .i64 0,.bool false,.str [],.int .i64 0,.str [],.slice none 0 0 0,.slice none 0 0 0,.bool false,.str [],.slice none 0 0 0,.int .i64 0,.int .i64 0,.int .i64 0,.str [],.slice none 0 0 0,.int .i64 0,.int .i64 0,.str [],.slice none 0 0 0,.int .i64 0,.str [],.slice none 0 0 0,.str [],.slice none 0 0 0,.slice none 0 0 0,.int .i64 0,.int .i64 0,.str [],.slice none 0 0 0,.slice none 0 0 0,.slice none 0 0 0] .own)=h.push (.row (smc (smR0 0)) .own):=rfl
 have nR:(h.push (.row (smc (smR0 0)) .own)).next=h.next+1:=rfl
 have x1:=x.add cR (A:=h.next) (Nat.le_refl _) (Nat.lt_succ_self _)
 rw [eR]
 generalize h.push (.row (smc (smR0 0)) .own)=h1 at *
 dsimp only
 obtain ⟨h3,e3,c3⟩:=f56_eq (N:=N) x1.pa
 rw [e3,bind2_some]
 obtain ⟨h5,e5,c5,o5⟩:=tokRow h3 (tk T σ.1)
 rw [e5,need_some]
 have k5:h5.cell (h3.next,0+2)=some (.int .i64 ((tk T σ.1).2.2:Int)):=o5.cell 2
 rw [k5]
 simp only [bindV_some,cast_int]
 have c15:=c3.trans c5
 have x5:=x1.chg c15
 have oR5:=oR.chg c15 (by simp)
 have hn5:=c15.next
 simp only [stmtS]
 generalize ((tk T σ.1).2.2:Int)=at_ at *
 have oO0:=own_push h5 (smc (smR0 0))
 have cO0:=chg_push h5 (.row (smc (smR0 0)) .own)
 have eO:h5.push (.row [.int .i64 0,.int .i64 0,.bool false,.str [],.int .i64 0,.str [],.slice none 0 0 0,.slice none 0 0 0,.bool false,.str [],.slice none 0 0 0,.int .i64 0,.int .i64 0,.int .i64 0,.str [],.slice none 0 0 0,.int .i64 0,.int .i64 0,.str [],.slice none 0 0 0,.int .i64 0,.str [],.slice none 0 0 0,.str [],.slice none 0 0 0,.slice none 0 0 0,.int .i64 0,.int .i64 0,.str [],.slice none 0 0 0,.slice none 0 0 0,.slice none 0 0 0] .own)=h5.push (.row (smc (smR0 0)) .own):=rfl
 have hstO:(h5.push (.row (smc (smR0 0)) .own)).store (h5.next,0) (smc (smR0 at_))=some ((h5.push (.row (smc (smR0 0)) .own)).put h5.next (.row (smc (smR0 at_)) .own)):=oO0.store rfl
 have hstO':(h5.push (.row (smc (smR0 0)) .own)).store (h5.next,0) (.int .i64 0::.int .i64 at_::([.int .i64 0,.int .i64 0,.bool false,.str [],.int .i64 0,.str [],.slice none 0 0 0,.slice none 0 0 0,.bool false,.str [],.slice none 0 0 0,.int .i64 0,.int .i64 0,.int .i64 0,.str [],.slice none 0 0 0,.int .i64 0,.int .i64 0,.str [],.slice none 0 0 0,.int .i64 0,.str [],.slice none 0 0 0,.str [],.slice none 0 0 0,.slice none 0 0 0,.int .i64 0,.int .i64 0,.str [],.slice none 0 0 0,.slice none 0 0 0,.slice none 0 0 0]).drop 2)=some ((h5.push (.row (smc (smR0 0)) .own)).put h5.next (.row (smc (smR0 at_)) .own)):=hstO
 simp only [List.drop_succ_cons,List.drop_zero] at hstO'
 rw [eO,hstO',need_some]
 have oO:=own_put oO0 (smc (smR0 at_))
 have cO:Chg [] h5 ((h5.push (.row (smc (smR0 0)) .own)).put h5.next (.row (smc (smR0 at_)) .own)):=cO0.put (.inr (Nat.le_refl _)) _
 have nO:((h5.push (.row (smc (smR0 0)) .own)).put h5.next (.row (smc (smR0 at_)) .own)).next=h5.next+1:=rfl
 have x8:=x5.add cO (A:=h5.next) (Nat.le_refl _) (Nat.lt_succ_self _)
 have oR8:=oR5.chg cO (by simp)
 have c08:Chg [P] h ((h5.push (.row (smc (smR0 0)) .own)).put h5.next (.row (smc (smR0 at_)) .own)):=((cR.mono (by simp)).trans (c15.mono (by simp))).trans (cO.mono (by simp))
 generalize (h5.push (.row (smc (smR0 0)) .own)).put h5.next (.row (smc (smR0 at_)) .own)=h8 at *
 have s8:SI T P X h h.next h5.next (smR0 at_) smT0 h8 σ (c:Int):=⟨x8,c08,oR8,oO,⟨Nat.le_refl _,by omega,hP⟩,dt_ty0 _ _ _ _,dt_pl0 _ _,dt_va0 _ _,dt_op0 _ _,Sl.nil _ _ _,Sl.nil _ _ _⟩
 have hR:h.next<h5.next:=by omega
 generalize h5.next=O at *
 generalize h.next=R at *
 -- what stands at the end
 have fin:∀ {h60:Heap} {z:D×SC},SmOK T P X h R O ((z.2.2:Int)) h60 (z.1,z.2.1)→∃ r h',
   (bindV (.val (.agg [(.int .i64),(.int .i64),.bool,.str,(.int .i64),.str,.slice,.slice,.bool,.str,.slice,(.int .i64),(.int .i64),(.int .i64),.str,.slice,(.int .i64),(.int .i64),.str,.slice,(.int .i64),.str,.slice,.str,.slice,.slice,(.int .i64),(.int .i64),.str,.slice,.slice,.slice])) (h60.cells (O,0) 32) fun x62=>need (h60.store (R,0) [.int .i64 x62.1,.int .i64 x62.2.1,.bool x62.2.2.1,.str x62.2.2.2.1,.int .i64 x62.2.2.2.2.1,.str x62.2.2.2.2.2.1,.slice x62.2.2.2.2.2.2.1.a x62.2.2.2.2.2.2.1.len x62.2.2.2.2.2.2.1.cap x62.2.2.2.2.2.2.1.sz,.slice x62.2.2.2.2.2.2.2.1.a x62.2.2.2.2.2.2.2.1.len x62.2.2.2.2.2.2.2.1.cap x62.2.2.2.2.2.2.2.1.sz,.bool x62.2.2.2.2.2.2.2.2.1,.str x62.2.2.2.2.2.2.2.2.2.1,.slice x62.2.2.2.2.2.2.2.2.2.2.1.a x62.2.2.2.2.2.2.2.2.2.2.1.len x62.2.2.2.2.2.2.2.2.2.2.1.cap x62.2.2.2.2.2.2.2.2.2.2.1.sz,.int .i64 x62.2.2.2.2.2.2.2.2.2.2.2.1,.int .i64 x62.2.2.2.2.2.2.2.2.2.2.2.2.1,.int .i64 x62.2.2.2.2.2.2.2.2.2.2.2.2.2.1,.str x62.2.2.2.2.2.2.2.2.2.2.2.2.2.2.1,.slice x62.2.2.2.2.2.2.2.2.2.2.2.2.2.2.2.1.a x62.2.2.2.2.2.2.2.2.2.2.2.2.2.2.2.1.len x62.2.2.2.2.2.2.2.2.2.2.2.2.2.2.2.1.cap x62.2.2.2.2.2.2.2.2.2.2.2.2.2.2.2.1.sz,.int .i64 x62.2.2.2.2.2.2.2.2.2.2.2.2.2.2.2.2.1,.int .i64 x62.2.2.2.2.2.2.2.2.2.2.2.2.2.2.2.2.2.1,.str x62.2.2.2.2.2.2.2.2.2.2.2.2.2.2.2.2.2.2.1,.slice x62.2.2.2.2.2.2.2.2.2.2.2.2.2.2.2.2.2.2.2.1.a x62.2.2.2.2.2.2.2.2.2.2.2.2.2.2.2.2.2.2.2.1.len x62.2.2.2.2.2.2.2.2.2.2.2.2.2.2.2.2.2.2.2.1.cap x62.2.2.2.2.2.2.2.2.2.2.2.2.2.2.2.2.2.2.2.1.sz,.int .i64 x62.2.2.2.2.2.2.2.2.2.2.2.2.2.2.2.2.2.2.2.2.1,.str x62.2.2.2.2.2.2.2.2.2.2.2.2.2.2.2.2.2.2.2.2.2.1,.slice x62.2.2.2.2.2.2.2.2.2.2.2.2.2.2.2.2.2.2.2.2.2.2.1.a x62.2.2.2.2.2.2.2.2.2.2.2.2.2.2.2.2.2.2.2.2.2.2.1.len x62.2.2.2.2.2.2.2.2.2.2.2.2.2.2.2.2.2.2.2.2.2.2.1.cap x62.2.2.2.2.2.2.2.2.2.2.2.2.2.2.2.2.2.2.2.2.2.2.1.sz,.str x62.2.2.2.2.2.2.2.2.2.2.2.2.2.2.2.2.2.2.2.2.2.2.2.1,.slice x62.2.2.2.2.2.2.2.2.2.2.2.2.2.2.2.2.2.2.2.2.2.2.2.2.1.a x62.2.2.2.2.2.2.2.2.2.2.2.2.2.2.2.2.2.2.2.2.2.2.2.2.1.len x62.2.2.2.2.2.2.2.2.2.2.2.2.2.2.2.2.2.2.2.2.2.2.2.2.1.cap x62.2.2.2.2.2.2.2.2.2.2.2.2.2.2.2.2.2.2.2.2.2.2.2.2.1.sz,.slice x62.2.2.2.2.2.2.2.2.2.2.2.2.2.2.2.2.2.2.2.2.2.2.2.2.2.1.a x62.2.2.2.2.2.2.2.2.2.2.2.2.2.2.2.2.2.2.2.2.2.2.2.2.2.1.len x62.2.2.2.2.2.2.2.2.2.2.2.2.2.2.2.2.2.2.2.2.2.2.2.2.2.1.cap x62.2.2.2.2.2.2.2.2.2.2.2.2.2.2.2.2.2.2.2.2.2.2.2.2.2.1.sz,.int .i64 x62.2.2.2.2.2.2.2.2.2.2.2.2.2.2.2.2.2.2.2.2.2.2.2.2.2.2.1,.int .i64 x62.2.2.2.2.2.2.2.2.2.2.2.2.2.2.2.2.2.2.2.2.2.2.2.2.2.2.2.1,.str x62.2.2.2.2.2.2.2.2.2.2.2.2.2.2.2.2.2.2.2.2.2.2.2.2.2.2.2.2.1,.slice x62.2.2.2.2.2.2.2.2.2.2.2.2.2.2.2.2.2.2.2.2.2.2.2.2.2.2.2.2.2.1.a x62.2.2.2.2.2.2.2.2.2.2.2.2.2.2.2.2.2.2.2.2.2.2.2.2.2.2.2.2.2.1.len x62.2.2.2.2.2.2.2.2.2.2.2.2.2.2.2.2.2.2.2.2.2.2.2.2.2.2.2.2.2.1.cap x62.2.2.2.2.2.2.2.2.2.2.2.2.2.2.2.2.2.2.2.2.2.2.2.2.2.2.2.2.2.1.sz,.slice x62.2.2.2.2.2.2.2.2.2.2.2.2.2.2.2.2.2.2.2.2.2.2.2.2.2.2.2.2.2.2.1.a x62.2.2.2.2.2.2.2.2.2.2.2.2.2.2.2.2.2.2.2.2.2.2.2.2.2.2.2.2.2.2.1.len x62.2.2.2.2.2.2.2.2.2.2.2.2.2.2.2.2.2.2.2.2.2.2.2.2.2.2.2.2.2.2.1.cap x62.2.2.2.2.2.2.2.2.2.2.2.2.2.2.2.2.2.2.2.2.2.2.2.2.2.2.2.2.2.2.1.sz,.slice x62.2.2.2.2.2.2.2.2.2.2.2.2.2.2.2.2.2.2.2.2.2.2.2.2.2.2.2.2.2.2.2.1.a x62.2.2.2.2.2.2.2.2.2.2.2.2.2.2.2.2.2.2.2.2.2.2.2.2.2.2.2.2.2.2.2.1.len x62.2.2.2.2.2.2.2.2.2.2.2.2.2.2.2.2.2.2.2.2.2.2.2.2.2.2.2.2.2.2.2.1.cap x62.2.2.2.2.2.2.2.2.2.2.2.2.2.2.2.2.2.2.2.2.2.2.2.2.2.2.2.2.2.2.2.1.sz]) fun h63=>bindV (.val (.agg [(.int .i64),(.int .i64),.bool,.str,(.int .i64),.str,.slice,.slice,.bool,.str,.slice,(.int .i64),(.int .i64),(.int .i64),.str,.slice,(.int .i64),(.int .i64),.str,.slice,(.int .i64),.str,.slice,.str,.slice,.slice,(.int .i64),(.int .i64),.str,.slice,.slice,.slice])) (h63.cells (R,0) 32) fun x66=>some (x66,h63))=some (r,h')∧PC T P X h' z.2.1 (z.2.2:Int)∧Chg [P] h h'∧Dt h' (fun C=>R≤C) z.1 (smx r):=by
  rintro h60 z ⟨r,d,s,e⟩
  have hle:=s.le
  refine ⟨smv r,h60.put R (.row (smx (smv r)) .own),?_,?_,?_,?_⟩
  ·rw [cellsS (r:=smv r) s.oO]
   exact finS s.oR (smv r) (fun x h=>some (x,h))
  ·exact (s.pc.chg1 (s.oR.put _) (by simp)).sub (by simp +contextual)
  ·exact s.chg.step (s.oR.put _) (fun A hA hl=>by rw [List.mem_singleton] at hA;omega)
  ·show Dt _ _ z.1 _
   rw [show z.1=smD r d from e]
   exact (s.dt.chg (s.oR.put _) (fun C hC=>by simp;omega)).weak fun C hC _=>by omega
 obtain ⟨h10,e10,c10,y10⟩:=f92_pc (N:=N) hT s8.pc (w:=[108,101,116]) (by decide)
 rw [e10,bind2_some]
 have s10:=s8.step c10 y10
 cases hb1:(optS T [108,101,116] σ).1 with
 | true=>
  simp only [cond_true,if_true]
  obtain ⟨h12,e12,sm⟩:=f207_pc (N:=N) hT hN s10
  rw [e12,bind2_some]
  simp only [bind2_some,need_some]
  exact fin (z:=((letS T at_ (optS T [108,101,116] σ).2).1,((letS T at_ (optS T [108,101,116] σ).2).2,c))) sm
 | false=>
 rw [optS_false hb1] at s10 ⊢
 simp only [cond_false,Bool.false_eq_true,if_false]
 obtain ⟨h14,e14,c14,y14⟩:=f92_pc (N:=N) hT s10.pc (w:=[105,102]) (by decide)
 rw [e14,bind2_some]
 have s14:=s10.step c14 y14
 cases hb2:(optS T [105,102] σ).1 with
 | true=>
  have hc:=hk.opt hb2
  simp only [cond_true,if_true]
  obtain ⟨co,h16,e16,y16,c16,d16⟩:=f208_pc (N:=N) hT hN s14.pc
  rw [e16,bind2_some]
  have s16:=s14.step c16 y16
  have hlt:=s14.lt
  generalize (operS T (optS T [105,102] σ).2)=o at *
  simp only [Nat.zero_add]
  obtain ⟨h17,e17,s17,c17⟩:=s16.setK 4
  rw [e17,need_some]
  obtain ⟨h18,e18,s18,c18⟩:=s17.setC co ((d16.weak (W:=fun C=>O<C) fun C hC _=>by omega).chg c17 (fun C hC=>by simp;omega))
  rw [e18,need_some,wrap_succ (by omega)]
  obtain ⟨v,h21,e21,y21,c21,d21⟩:=hB _ h18 _ c s18.pc (KS.le hc)
  rw [e21,bind2_some]
  have s21:=s18.step c21 y21
  have hlt2:=s18.lt
  have hk2:=hK (o.2,c) (KS.le hc)
  generalize blk (o.2,c)=t at *
  obtain ⟨h22,e22,s22,c22⟩:=s21.setTh v (d21.weak fun C hC _=>by omega)
  rw [e22,need_some]
  obtain ⟨h24,e24,c24,y24⟩:=f92_pc (N:=N) hT s22.pc (w:=[101,108,115,101]) (by decide)
  rw [e24,bind2_some]
  have s24:=s22.step c24 y24
  obtain ⟨h25,e25,s25,c25⟩:=s24.setH (optS T [101,108,115,101] t.2.1).1
  rw [e25,need_some]
  have r25:h25.cell (O,8)=some (.bool (optS T [101,108,115,101] t.2.1).1):=s25.oO.cell 8
  simp only [r25,bindV_some,cast_bool]
  cases hb3:(optS T [101,108,115,101] t.2.1).1 with
  | true=>
   rw [hb3] at s25
   simp only [cond_true,if_true]
   have hk3:KS ((optS T [101,108,115,101] t.2.1).2,t.2.2):=KS.err (σ:=t.2.1) hk2 (fun i e h=>by rw [h];rfl)
   obtain ⟨v2,h29,e29,y29,c29,d29⟩:=hB _ h25 _ t.2.2 s25.pc hk3
   rw [e29,bind2_some]
   have s29:=s25.step c29 y29
   have hlt3:=s25.lt
   obtain ⟨h30,e30,s30,c30⟩:=s29.setEl v2 (d29.weak fun C hC _=>by omega)
   rw [e30,need_some]
   simp only [bind2_some,need_some]
   exact fin (z:=(smD { smR0 at_ with k:=4,has:=true } { smT0 with co:=o.1,th:=t.1,el:=(blk ((optS T [101,108,115,101] t.2.1).2,t.2.2)).1 },(blk ((optS T [101,108,115,101] t.2.1).2,t.2.2)).2)) ⟨_,_,s30,smD_eq ⟨rfl,rfl,rfl,rfl,rfl⟩⟩
  | false=>
   rw [hb3] at s25
   simp only [cond_false,Bool.false_eq_true,if_false]
   simp only [bind2_some,need_some]
   exact fin (z:=(smD { smR0 at_ with k:=4 } { smT0 with co:=o.1,th:=t.1 },((optS T [101,108,115,101] t.2.1).2,t.2.2))) ⟨_,_,s25,smD_eq ⟨rfl,rfl,rfl,rfl,rfl⟩⟩
 | false=>
 rw [optS_false hb2] at s14 ⊢
 simp only [cond_false,Bool.false_eq_true,if_false]
 obtain ⟨h32,e32,c32,y32⟩:=f92_pc (N:=N) hT s14.pc (w:=[119,104,105,108,101]) (by decide)
 rw [e32,bind2_some]
 have s32:=s14.step c32 y32
 cases hb3:(optS T [119,104,105,108,101] σ).1 with
 | true=>
  have hc:=hk.opt hb3
  simp only [cond_true,if_true]
  obtain ⟨co,h34,e34,y34,c34,d34⟩:=f208_pc (N:=N) hT hN s32.pc
  rw [e34,bind2_some]
  have s34:=s32.step c34 y34
  have hlt:=s32.lt
  generalize (operS T (optS T [119,104,105,108,101] σ).2)=o at *
  simp only [Nat.zero_add]
  obtain ⟨h35,e35,s35,c35⟩:=s34.setK 5
  rw [e35,need_some]
  obtain ⟨h36,e36,s36,c36⟩:=s35.setC co ((d34.weak (W:=fun C=>O<C) fun C hC _=>by omega).chg c35 (fun C hC=>by simp;omega))
  rw [e36,need_some,wrap_succ (by omega)]
  obtain ⟨v,h39,e39,y39,c39,d39⟩:=hB _ h36 _ c s36.pc (KS.le hc)
  rw [e39,bind2_some]
  have s39:=s36.step c39 y39
  have hlt2:=s36.lt
  obtain ⟨h40,e40,s40,c40⟩:=s39.setTh v (d39.weak fun C hC _=>by omega)
  rw [e40,need_some]
  simp only [bind2_some,need_some]
  exact fin (z:=(smD { smR0 at_ with k:=5 } { smT0 with co:=o.1,th:=(blk (o.2,c)).1 },(blk (o.2,c)).2)) ⟨_,_,s40,smD_eq ⟨rfl,rfl,rfl,rfl,rfl⟩⟩
 | false=>
 rw [optS_false hb3] at s32 ⊢
 simp only [cond_false,Bool.false_eq_true,if_false]
 obtain ⟨h42,e42,c42,y42⟩:=f92_pc (N:=N) hT s32.pc (w:=[108,111,111,112]) (by decide)
 rw [e42,bind2_some]
 have s42:=s32.step c42 y42
 cases hb4:(optS T [108,111,111,112] σ).1 with
 | true=>
  have hc:=hk.opt hb4
  simp only [cond_true,if_true,Nat.zero_add]
  rw [wrap_succ (by omega)]
  obtain ⟨v,h45,e45,y45,c45,d45⟩:=hB _ h42 _ c s42.pc (KS.le hc)
  rw [e45,bind2_some]
  have s45:=s42.step c45 y45
  have hlt2:=s42.lt
  obtain ⟨h46,e46,s46,c46⟩:=s45.setK 6
  rw [e46,need_some]
  obtain ⟨h47,e47,s47,c47⟩:=s46.setTh v ((d45.weak (W:=fun C=>O<C) fun C hC _=>by omega).chg c46 (fun C hC=>by simp;omega))
  rw [e47,need_some]
  simp only [bind2_some,need_some]
  exact fin (z:=(smD { smR0 at_ with k:=6 } { smT0 with th:=(blk ((optS T [108,111,111,112] σ).2,c)).1 },(blk ((optS T [108,111,111,112] σ).2,c)).2)) ⟨_,_,s47,smD_eq ⟨rfl,rfl,rfl,rfl,rfl⟩⟩
 | false=>
 rw [optS_false hb4] at s42 ⊢
 simp only [cond_false,Bool.false_eq_true,if_false]
 obtain ⟨h49,e49,c49⟩:=f146_pc (N:=N) hT s42.pc (w:=[123]) (by decide)
 rw [e49,bind2_some]
 have s49:=s42.step0 c49
 cases hb5:(optS T [123] σ).1 with
 | true=>
  have hc:=hk.opt hb5
  simp only [cond_true,if_true,Nat.zero_add]
  rw [wrap_succ (by omega)]
  obtain ⟨v,h45,e45,y45,c45,d45⟩:=hB _ h49 _ c s49.pc (KS.le hc)
  rw [e45,bind2_some]
  have s45:=s49.step c45 y45
  have hlt2:=s49.lt
  obtain ⟨h46,e46,s46,c46⟩:=s45.setK 7
  rw [e46,need_some]
  obtain ⟨h47,e47,s47,c47⟩:=s46.setTh v ((d45.weak (W:=fun C=>O<C) fun C hC _=>by omega).chg c46 (fun C hC=>by simp;omega))
  rw [e47,need_some]
  simp only [bind2_some,need_some]
  exact fin (z:=(smD { smR0 at_ with k:=7 } { smT0 with th:=(blk (σ,c)).1 },(blk (σ,c)).2)) ⟨_,_,s47,smD_eq ⟨rfl,rfl,rfl,rfl,rfl⟩⟩
 | false=>
  simp only [cond_false,Bool.false_eq_true,if_false]
  obtain ⟨h56,e56,r,d,s56,hs⟩:=f209_pc (N:=N) hT hN s49
  rw [e56,bind2_some]
  obtain ⟨h58,e58,c58,y58⟩:=f149_pc (N:=N) hT s56.pc (w:=[59]) (by decide)
  rw [e58,bind2_some]
  simp only [bind2_some,need_some]
  exact fin (z:=((plainS T at_ σ).1,(wantS T [59] (plainS T at_ σ).2,c))) ⟨r,d,s56.step c58 y58,hs⟩
end
end Go.Proofs.YtkcjphhjmlienaaGreatDoor.Qp

set_option linter.unusedVariables false
set_option linter.unusedSimpArgs false
open Go Go.Proofs.YtkcjphhjmlienaaGreatDoor.Ai Go.Proofs
namespace Go.Proofs.YtkcjphhjmlienaaGreatDoor.Qp
def stmtsS (T:List Tok) (one:SC→D×SC):Nat→SC→(List D×Bool)×SC
 | 0,s=>(([],false),s)
 | f+1,s=>
  if s.1.2.isSome=true then (([],false),s) else
  let b:=optS T [125] s.1
  if b.1=true then (([],false),(b.2,s.2)) else
  if s.2=2000∧(tk T s.1.1).1≠0 then (([],true),(failS T 5 s.1,s.2)) else
  let x:=one (s.1,s.2+1)
  ((x.1::(stmtsS T one f x.2).1.1,(stmtsS T one f x.2).1.2),(stmtsS T one f x.2).2)
def blockS (T:List Tok):Nat→SC→List D×SC
 | 0,s=>([],(failS T 6 s.1,s.2))
 | g+1,s=>
  let r:=stmtsS T (stmtS T (blockS T g)) 2001 (wantS T [123] s.1,s.2)
  (if r.1.2=true then [] else r.1.1,r.2)
section
variable {T:List Tok}
theorem plainS_end {i:Nat} (h:(tk T i).1=0) (a:Int):(plainS T a (i,none)).2.2.isSome=true:=by
 have hc:callsS T (i,none)=false:=by simp [callsS,behindS,h]
 have ht:textS T 1 (i,none)=([],(i,some (21,((tk T i).2.2:Int)))):=by simp [textS,failS,h]
 simp only [plainS,optS_end h,Bool.false_eq_true,if_false,hc,placeS,ht,pathS_err,wantS_err,valueS_err,Option.isSome_some]
theorem err_isSome {σ τ:St} (h:σ.2.isSome=true) (hs:∀ i e,σ=(i,some e)→τ=(i,some e)):τ.2.isSome=true:=by
 obtain ⟨i,e,rfl⟩:=isSome_err h
 rw [hs i e rfl];rfl
theorem stmtS_K {blk:SC→List D×SC} (hK:∀ s,KS s→KS (blk s).2∧s.2≤(blk s).2.2) {σ:St} {c:Nat} (hk:KE T (σ,c)):KS (stmtS T blk (σ,c)).2∧c≤(stmtS T blk (σ,c)).2.2:=by
 simp only [stmtS]
 cases hb1:(optS T [108,101,116] σ).1 with
 | true=>
  simp only [if_true]
  exact ⟨.inl (hk.opt hb1),Nat.le_refl _⟩
 | false=>
 rw [optS_false hb1]
 simp only [Bool.false_eq_true,if_false]
 cases hb2:(optS T [105,102] σ).1 with
 | true=>
  have hc:=hk.opt hb2
  simp only [if_true]
  have k1:=hK ((operS T (optS T [105,102] σ).2).2,c) (.inl hc)
  generalize blk ((operS T (optS T [105,102] σ).2).2,c)=t at *
  cases hb3:(optS T [101,108,115,101] t.2.1).1 with
  | true=>
   simp only [if_true]
   have k2:=hK ((optS T [101,108,115,101] t.2.1).2,t.2.2) (KS.err (σ:=t.2.1) k1.1 (fun i e h=>by rw [h,optS_err]))
   exact ⟨k2.1,Nat.le_trans k1.2 k2.2⟩
  | false=>
   simp only [Bool.false_eq_true,if_false]
   exact ⟨KS.err (σ:=t.2.1) k1.1 (fun i e h=>by rw [h,optS_err]),k1.2⟩
 | false=>
 rw [optS_false hb2]
 simp only [Bool.false_eq_true,if_false]
 cases hb3:(optS T [119,104,105,108,101] σ).1 with
 | true=>
  simp only [if_true]
  exact hK _ (.inl (hk.opt hb3))
 | false=>
 rw [optS_false hb3]
 simp only [Bool.false_eq_true,if_false]
 cases hb4:(optS T [108,111,111,112] σ).1 with
 | true=>
  simp only [if_true]
  exact hK _ (.inl (hk.opt hb4))
 | false=>
 rw [optS_false hb4]
 simp only [Bool.false_eq_true,if_false]
 cases hb5:(optS T [123] σ).1 with
 | true=>
  simp only [if_true]
  exact hK _ (.inl (hk.opt hb5))
 | false=>
  simp only [Bool.false_eq_true,if_false]
  refine ⟨?_,Nat.le_refl _⟩
  rcases hk with (hk | hk) | ⟨hk,he⟩
  ·exact .inl hk
  ·obtain ⟨i,e,rfl⟩:=isSome_err hk
   refine .inr ?_
   show (wantS T [59] (plainS T _ (i,some e)).2).2.isSome=true
   rw [plainS_err,wantS_err];rfl
  ·obtain ⟨i,e⟩:=σ
   refine .inr ?_
   show (wantS T [59] (plainS T _ (i,e)).2).2.isSome=true
   have:(plainS T ((tk T i).2.2:Int) (i,e)).2.2.isSome=true:=by
    cases e with
    | some e=>rw [plainS_err];rfl
    | none=>exact plainS_end he _
   exact err_isSome this (fun j f h=>by
    show wantS T [59] (plainS T ((tk T i).2.2:Int) (i,e)).2=_
    rw [h,wantS_err])
theorem stmtsS_K {one:SC→D×SC} (hO:∀ s,KE T s→KS (one s).2∧s.2≤(one s).2.2):∀ (f:Nat) (s:SC),KS s→KS (stmtsS T one f s).2∧s.2≤(stmtsS T one f s).2.2
 | 0,s,hk=>⟨hk,Nat.le_refl _⟩
 | f+1,(σ,c),hk=>by
  simp only [stmtsS]
  cases hn:σ.2.isSome with
  | true=>simp only [if_true];exact ⟨hk,Nat.le_refl _⟩
  | false=>
  simp only [Bool.false_eq_true,if_false]
  have hc:c≤2000:=by
   rcases hk with hk | hk
   ·exact hk
   ·rw [hn] at hk;cases hk
  cases hb:(optS T [125] σ).1 with
  | true=>simp only [if_true];exact ⟨.inl hc,Nat.le_refl _⟩
  | false=>
  simp only [Bool.false_eq_true,if_false]
  by_cases q:c=2000∧(tk T σ.1).1≠0
  ·rw [if_pos q];exact ⟨.inl hc,Nat.le_refl _⟩
  ·rw [if_neg q]
   have h1:=hO (σ,c+1) (by
    by_cases q1:c=2000
    ·refine .inr ⟨by show c+1≤2001;omega,?_⟩
     by_cases q2:(tk T σ.1).1=0
     ·exact q2
     ·exact absurd ⟨q1,q2⟩ q
    ·exact .inl (.inl (by show c+1≤2000;omega)))
   have h2:=stmtsS_K hO f (one (σ,c+1)).2 h1.1
   exact ⟨h2.1,Nat.le_trans (Nat.le_of_succ_le h1.2) h2.2⟩
theorem blockS_K:∀ (g:Nat) (s:SC),KS s→KS (blockS T g s).2∧s.2≤(blockS T g s).2.2
 | 0,(σ,c),hk=>⟨KS.err hk (fun i e h=>by
   show failS T 6 σ=_
   rw [h,failS_err]),Nat.le_refl _⟩
 | g+1,(σ,c),hk=>by
  simp only [blockS]
  have:=stmtsS_K (T:=T) (one:=stmtS T (blockS T g)) (fun s hs=>stmtS_K (blockS_K g) (σ:=s.1) (c:=s.2) hs) 2001 (wantS T [123] σ,c) (KS.err hk (fun i e h=>by rw [h,wantS_err]))
  exact this
end
theorem app42:AppN E 42 106 32 10000:=AppN.of (by kernel_rfl)
section
variable {N:Nat} {T:List Tok} {P:Nat} {X:List Nat} {h:Heap} {σ:St} {st:Int}
theorem PC.setSt (x:PC T P X h σ st) (st':Int):∃ h',h.store (P,2) [.int .i64 st']=some h'∧Chg [P] h h'∧PC T P X h' σ st':=by
 obtain ⟨⟨⟨s,v,h1,h2,h3,h4⟩,h5,h6⟩,hp,p4⟩:=x
 have c:=h1.put [SL.av s,.int .i64 (σ.1:Int),.int .i64 st',v]
 have hl:=h1.2
 refine ⟨_,h1.store1 (j:=2) (by show 2<4;omega) _,c,⟨⟨s,v,own_put h1 _,h2.chg c (fun A hA=>by simp;omega),h3,h4.chg c (fun A hA=>.inl (by simpa using hA))⟩,h5,fun A hA=>h6 A hA⟩,pin_chg c (by simp;omega) (by omega) hp,p4⟩
theorem PC.readSt (x:PC T P X h σ st):h.cell (P,2)=some (.int .i64 st):=by
 obtain ⟨⟨⟨s,v,h1,_⟩,_⟩,_⟩:=x
 exact h1.cell 2
def OneOK (T:List Tok) (P:Nat) (G:Option (Nat×Nat)→Int→Heap→Option (SmV×Heap)) (one:SC→D×SC) (deep:Int):Prop:=∀ (X:List Nat) (h:Heap) (σ:St) (c:Nat),PC T P X h σ (c:Int)→KE T (σ,c)→∃ r h',G (some (P,0)) deep h=some (r,h')∧PC T P X h' (one (σ,c)).2.1 ((one (σ,c)).2.2:Int)∧Chg [P] h h'∧Dt h' (fun C=>h.next≤C) (one (σ,c)).1 (smx r)
theorem stmts_loop (hT:Toks T) {F} {G:Option (Nat×Nat)→Int→Heap→Option (SmV×Heap)} {one:SC→D×SC} {deep:Int} (hG:OneOK T P G one deep) (hO:∀ s,KE T s→KS (one s).2∧s.2≤(one s).2.2) {h0:Heap} {v4:SL} (hP0:P<h0.next):∀ (f M:Nat) (h:Heap) (σ:St) (c:Nat) (v:SL) (xs:List D),f<M→2001≤c+f→xs.length≤c→KS (σ,c)→PC T P X h σ (c:Int)→Chg [P] h0 h→Ow h0.next h v 32 xs→
  ∃ o r h',f158_l1 N F G M (some (P,0)) deep ⟨none,0,0,0⟩ v h=some (o,r,h')∧PC T P X h' (stmtsS T one f (σ,c)).2.1 ((stmtsS T one f (σ,c)).2.2:Int)∧Chg [P] h0 h'∧
   (((stmtsS T one f (σ,c)).1.2=false∧o=.exit 0∧Ow h0.next h' r.2.1 32 (xs++(stmtsS T one f (σ,c)).1.1))∨((stmtsS T one f (σ,c)).1.2=true∧o=.ret∧r.1=⟨none,0,0,0⟩)):=by
 intro f
 induction f with
 | zero=>
  intro M h σ c v xs hM hc hx hk x ch w
  obtain ⟨M,rfl⟩:∃ m,M=m+1:=⟨M-1,by omega⟩
  rw [f158_l1_succ]
  unfold f158_l1_b
  obtain ⟨e,k3,hv⟩:=x.pa.readE
  have hs:σ.2.isSome=true:=by
   rcases hk with hk | hk
   ·have hk:c≤2000:=hk;omega
   ·exact hk
  have hs':σ.2.isNone=false:=by cases hh:σ.2 <;> simp_all
  simp only [need_some,Nat.zero_add,k3,bindV_some,cast_any,hv.eq 15,cast_bool,hs',cond_false,stmtsS]
  exact ⟨_,_,h,rfl,x,ch,.inl ⟨trivial,rfl,by rw [List.append_nil];exact w⟩⟩
 | succ f ih=>
  intro M h σ c v xs hM hc hx hk x ch w
  obtain ⟨M,rfl⟩:∃ m,M=m+1:=⟨M-1,by omega⟩
  rw [f158_l1_succ]
  unfold f158_l1_b
  obtain ⟨e,k3,hv⟩:=x.pa.readE
  simp only [need_some,Nat.zero_add,k3,bindV_some,cast_any,hv.eq 15,cast_bool,stmtsS]
  cases hn:σ.2 with
  | some q=>
   simp only [Option.isNone_some,cond_false,Option.isSome_some,if_true]
   exact ⟨_,_,h,rfl,x,ch,.inl ⟨trivial,rfl,by rw [List.append_nil];exact w⟩⟩
  | none=>
  simp only [Option.isNone_none,cond_true,Option.isSome_none,Bool.false_eq_true,if_false]
  have hc2:c≤2000:=by
   rcases hk with hk | hk
   ·exact hk
   ·simp [hn] at hk
  obtain ⟨h12,e12,c12,x12⟩:=f93_pc (N:=N) hT x (w:=[125]) (by decide)
  rw [e12,bind2_some]
  have w12:=w.chg c12 (by intro A hA;rw [List.mem_singleton] at hA;omega)
  have ch12:=ch.trans c12
  cases hb:(optS T [125] σ).1 with
  | true=>
   simp only [Bool.not_true,cond_false,if_true]
   exact ⟨_,_,h12,rfl,x12,ch12,.inl ⟨trivial,rfl,by rw [List.append_nil];exact w12⟩⟩
  | false=>
  rw [optS_false hb] at x12
  simp only [Bool.not_false,cond_true,Bool.false_eq_true,if_false,x12.readSt,bindV_some,cast_int,eqI]
  -- is it too long?
  have hlong:∃ h21,(bif decide ((c:Int)=2000) then
    (bind2 (f56 N (some (P,0)) h12) fun (x17:(Int×List UInt8×Int×Unit)) h18=>
    let x19:Bool:=!decide (x17.1=0)
    some ((some (P,0),deep,(⟨none,0,0,0⟩:SL),v,x19,()),h18))
    else
    some ((some (P,0),deep,(⟨none,0,0,0⟩:SL),v,false,()),h12))=some ((some (P,0),deep,(⟨none,0,0,0⟩:SL),v,decide (c=2000∧(tk T σ.1).1≠0),()),h21)∧Chg [] h12 h21:=by
   by_cases q:c=2000
   ·obtain ⟨h18,e18,c18⟩:=f56_eq (N:=N) x12.pa
    have q':((c:Int)=2000):=by omega
    simp only [q',decide_true,cond_true]
    rw [e18,bind2_some]
    refine ⟨h18,?_,c18⟩
    simp only [ttOf,q,true_and]
    by_cases q2:(tk T σ.1).1=0
    ·simp [q2]
    ·simp [q2]
   ·have q':¬ ((c:Int)=2000):=by omega
    simp only [q',decide_false,cond_false,q,false_and]
    exact ⟨h12,rfl,Chg.refl _ _⟩
  obtain ⟨h21,e21,c21⟩:=hlong
  rw [e21,bind2_some]
  have x21:=x12.chg c21
  have w21:=w12.chg c21 (by simp)
  have ch21:=ch12.trans (c21.mono (N:=[P]) (by simp))
  by_cases q:c=2000∧(tk T σ.1).1≠0
  ·simp only [q,decide_true,cond_true,if_true,ne_eq,not_false_eq_true,and_self]
   obtain ⟨h23,e23,c23,x23⟩:=f57_pc (N:=N) x21 (c:=5) (by decide)
   rw [e23,bind2_some]
   have q1:=q.1
   subst q1
   exact ⟨_,_,h23,rfl,x23,ch21.trans c23,.inr ⟨trivial,rfl,rfl⟩⟩
  ·rw [if_neg q]
   simp only [q,decide_false,cond_false,need_some,Nat.zero_add,x21.readSt,bindV_some,cast_int]
   rw [wrap_succ (by omega)]
   obtain ⟨h28,e28,c28,x28⟩:=x21.setSt ((c+1:Nat):Int)
   rw [e28,need_some]
   have w28:=w21.chg c28 (by intro A hA;rw [List.mem_singleton] at hA;omega)
   have ch28:=ch21.trans c28
   have hge:∀ A∈v.blk.toList,h0.next≤A∧A<h28.next:=fun A hA=>w28.ge A (by simpa using hA)
   obtain ⟨i,er⟩:=σ
   simp only at hn;subst hn
   have hke:KE T ((i,none),c+1):=by
    by_cases q1:c=2000
    ·refine .inr ⟨by show c+1≤2001;omega,?_⟩
     by_cases q2:(tk T i).1=0
     ·exact q2
     ·exact absurd ⟨q1,q2⟩ q
    ·exact .inl (.inl (by show c+1≤2000;omega))
   obtain ⟨r,h30,e30,x30,c30,d30⟩:=hG (v.blk.toList++X) h28 (i,none) (c+1) (x28.free fun A hA=>by
    rcases List.mem_append.1 hA with hA | hA
    ·have:=hge A hA;omega
    ·exact x28.pa.xl A hA) hke
   rw [e30,bind2_some]
   have hk1:=hO ((i,none),c+1) hke
   have w30:=w28.chg c30 (by intro A hA;rw [List.mem_singleton] at hA;omega)
   have ch30:=ch28.trans c30
   have hn28:=ch28.next
   obtain ⟨v',h33,eK,w33,c33,hb33⟩:=app_sl app42 (by decide) ch30 w30 (d30.weak (W:=fun C=>h0.next≤C∧v.blk≠some C) fun C hC _=>⟨by omega,fun e=>by have:=hge C (by simpa using e);omega⟩) rfl (by
    have:(xs.length+1) * 10000≤2001 * 10000:=Nat.mul_le_mul_right _ (by omega)
    omega)
   have x33:=(x30.chgM c33 (fun A hA=>List.mem_append_left _ hA)).sub (X':=X) (fun A hA=>List.mem_append_right _ hA)
   have ch33:=ch30.step c33 (fun A hA hl=>by have:=hge A hA;omega)
   generalize one ((i,none),c+1)=z at *
   have:=ih M h33 z.2.1 z.2.2 v' (xs++[z.1]) (by omega) (by have:c+1≤z.2.2:=hk1.2;omega) (by simp;have:c+1≤z.2.2:=hk1.2;omega) hk1.1 x33 ch33 w33
   rw [List.append_assoc] at this
   obtain ⟨o,rr,h',e',x',c',hres⟩:=this
   exact ⟨o,rr,h',(eK _).trans e',x',c',hres⟩
end
end Go.Proofs.YtkcjphhjmlienaaGreatDoor.Qp

set_option linter.unusedVariables false
set_option linter.unusedSimpArgs false
open Go Go.Proofs.YtkcjphhjmlienaaGreatDoor.Ai Go.Proofs
namespace Go.Proofs.YtkcjphhjmlienaaGreatDoor.Qp
theorem failS_isSome (T:List Tok) (k:Int) (σ:St):(failS T k σ).2.isSome=true:=by
 obtain ⟨i,e⟩:=σ
 cases e <;> rfl
theorem wantS_of {T:List Tok} {w:Bs} {σ:St} (h:σ.2.isSome=true):wantS T w σ=σ:=by
 obtain ⟨i,e,rfl⟩:=isSome_err h
 exact wantS_err T i e w
section
variable {N:Nat} {T:List Tok} {P:Nat} {X:List Nat} {h:Heap} {σ:St} {st:Int}
theorem block_ok (hT:Toks T) (hN:3000≤N):∀ (g M:Nat),g≤64→2 * g+1≤M→BlkOK N T P (f158 N M) (blockS T g) ((65-g:Nat):Int):=by
 intro g
 induction g with
 | zero=>
  intro M hg hM X h σ c x hk
  obtain ⟨M,rfl⟩:∃ m,M=m+1:=⟨M-1,by omega⟩
  rw [f158_succ]
  unfold f158_r
  simp only [show ltInt 64 ((65-0:Nat):Int)=true from rfl,cond_true]
  obtain ⟨h3,e3,c3,x3⟩:=f57_pc (N:=N) x (c:=6) (by decide)
  rw [e3,bind2_some,bind2_some]
  dsimp only
  obtain ⟨h7,e7,c7,x7⟩:=f149_pc (N:=N) hT x3 (w:=[123]) (by decide)
  rw [e7,bind2_some]
  have hs:=failS_isSome T 6 σ
  rw [wantS_of hs] at x7
  obtain ⟨n,hn⟩:∃ n,N=n+1:=⟨N-1,by omega⟩
  have hl:∀ (F G) (M:Nat),f158_l1 N F G (M+1) (some (P,0)) ((65-0:Nat):Int) ⟨none,0,0,0⟩ ⟨none,0,0,0⟩ h7=some (.exit 0,(⟨none,0,0,0⟩,⟨none,0,0,0⟩,()),h7):=by
   intro F G M
   rw [f158_l1_succ]
   unfold f158_l1_b
   obtain ⟨e,k3,hv⟩:=x7.pa.readE
   have hs':(failS T 6 σ).2.isNone=false:=by cases hh:(failS T 6 σ).2 <;> simp_all
   simp only [need_some,Nat.zero_add,k3,bindV_some,cast_any,hv.eq 15,cast_bool,hs',cond_false]
  have hl':=hl (f158 N M) (f190 N M) n
  rw [← hn] at hl'
  rw [hl']
  simp only [bind3_some]
  exact ⟨sl0,h7,rfl,x7,c3.trans c7,Sl.nil _ _ _⟩
 | succ g ih=>
  intro M hg hM X h σ c x hk
  obtain ⟨M,rfl⟩:∃ m,M=m+2:=⟨M-2,by omega⟩
  rw [f158_succ]
  unfold f158_r
  have hlt:ltInt 64 ((65-(g+1):Nat):Int)=false:=by rw [ltI];exact decide_eq_false (by omega)
  simp only [hlt,cond_false,bind2_some]
  obtain ⟨h7,e7,c7,x7⟩:=f149_pc (N:=N) hT x (w:=[123]) (by decide)
  rw [e7,bind2_some]
  have hB:=ih M (by omega) (by omega)
  have hd:65-g=(65-(g+1))+1:=by omega
  rw [hd] at hB
  have hone:OneOK T P (f190 N (M+1)) (stmtS T (blockS T g)) ((65-(g+1):Nat):Int):=by
   intro X h σ c x hk
   rw [f190_succ]
   exact f190_pc hT (by omega) (by omega) hB (fun s hs=>(blockS_K g s hs).1) x hk
  have hk7:KS (wantS T [123] σ,c):=hk.err (fun i e h=>by rw [h,wantS_err])
  obtain ⟨o,r,h',e',x',c',hres⟩:=stmts_loop (N:=N) hT (F:=f158 N (M+1)) hone (fun s hs=>stmtS_K (blockS_K g) (σ:=s.1) (c:=s.2) hs) (h0:=h7) (v4:=sl0) x7.P_lt 2001 N h7 _ c sl0 [] (by omega) (by omega) (by simp) hk7 x7 (Chg.refl _ _) (Ow.nil _ _ _ _)
  rw [e']
  simp only [bind3_some,blockS]
  have hn7:=c7.next
  rcases hres with ⟨e1,rfl,w⟩ | ⟨e1,rfl,e2⟩
  ·rw [e1]
   rw [List.nil_append] at w
   exact ⟨_,h',rfl,x',c7.trans c',w.sl.weak fun C hC _=>by omega⟩
  ·rw [e1]
   exact ⟨_,h',rfl,x',c7.trans c',by rw [e2];exact Sl.nil _ _ _⟩
end
structure FuR where
 pub:Bool
 nm:Bs
 lv:SL
 ps:SL
 ty:TyV
 bd:SL
 at_:Int
structure FuT where
 lv:List D
 ps:List D
 ty:D
 bd:List D
abbrev FuV:=Bool×List UInt8×SL×SL×Int×List UInt8×SL×SL×SL×Int×Unit
def fux (x:FuV):List AV:=[.bool x.1,.str x.2.1,.slice x.2.2.1.a x.2.2.1.len x.2.2.1.cap x.2.2.1.sz,.slice x.2.2.2.1.a x.2.2.2.1.len x.2.2.2.1.cap x.2.2.2.1.sz,.int .i64 x.2.2.2.2.1,.str x.2.2.2.2.2.1,.slice x.2.2.2.2.2.2.1.a x.2.2.2.2.2.2.1.len x.2.2.2.2.2.2.1.cap x.2.2.2.2.2.2.1.sz,.slice x.2.2.2.2.2.2.2.1.a x.2.2.2.2.2.2.2.1.len x.2.2.2.2.2.2.2.1.cap x.2.2.2.2.2.2.2.1.sz,.slice x.2.2.2.2.2.2.2.2.1.a x.2.2.2.2.2.2.2.2.1.len x.2.2.2.2.2.2.2.2.1.cap x.2.2.2.2.2.2.2.2.1.sz,.int .i64 x.2.2.2.2.2.2.2.2.2.1]
def fuv (r:FuR):FuV:=(r.pub,r.nm,r.lv,r.ps,r.ty.1,r.ty.2.1,r.ty.2.2.1,r.ty.2.2.2.1,r.bd,r.at_,())
def fuc (r:FuR):List AV:=fux (fuv r)
def fuD (r:FuR) (d:FuT):D:=.t [.b r.pub,.s r.nm,.l d.lv,.l d.ps,d.ty,.l d.bd,.i r.at_]
def fuR0 (pub:Bool) (nm:Bs) (at_:Int):FuR:=⟨pub,nm,sl0,sl0,ty00,sl0,at_⟩
def fuT0:FuT:=⟨[],[],ty0D,[]⟩
theorem aggF {β:Type} (r:FuV) (K:FuV→Option β):bindV (.val (.agg [.bool,.str,.slice,.slice,(.int .i64),.str,.slice,.slice,.slice,(.int .i64)])) (some (.agg (fux r))) K=K r:=by
 obtain ⟨x1,x2,x3,x4,x5,x6,x7,x8,x9,x10,_⟩:=r
 simp [fux]
theorem cellsF {H:Heap} {A:Nat} {r:FuV} (o:H.own A (fux r)) {β:Type} (K:FuV→Option β):bindV (.val (.agg [.bool,.str,.slice,.slice,(.int .i64),.str,.slice,.slice,.slice,(.int .i64)])) (H.cells (A,0) 10) K=K r:=by
 have:H.cells (A,0) 10=some (.agg (fux r)):=o.cells (j:=0) (m:=10) (Nat.le_refl _)
 rw [this,aggF]
theorem finF {H:Heap} {A:Nat} {r0:FuV} (o:H.own A (fux r0)) (x:FuV) {β:Type} (K:FuV→Heap→Option β) :
  (need (H.store (A,0) [.bool x.1,.str x.2.1,.slice x.2.2.1.a x.2.2.1.len x.2.2.1.cap x.2.2.1.sz,.slice x.2.2.2.1.a x.2.2.2.1.len x.2.2.2.1.cap x.2.2.2.1.sz,.int .i64 x.2.2.2.2.1,.str x.2.2.2.2.2.1,.slice x.2.2.2.2.2.2.1.a x.2.2.2.2.2.2.1.len x.2.2.2.2.2.2.1.cap x.2.2.2.2.2.2.1.sz,.slice x.2.2.2.2.2.2.2.1.a x.2.2.2.2.2.2.2.1.len x.2.2.2.2.2.2.2.1.cap x.2.2.2.2.2.2.2.1.sz,.slice x.2.2.2.2.2.2.2.2.1.a x.2.2.2.2.2.2.2.2.1.len x.2.2.2.2.2.2.2.2.1.cap x.2.2.2.2.2.2.2.2.1.sz,.int .i64 x.2.2.2.2.2.2.2.2.2.1]) fun h7=>bindV (.val (.agg [.bool,.str,.slice,.slice,(.int .i64),.str,.slice,.slice,.slice,(.int .i64)])) (h7.cells (A,0) 10) fun x8=>K x8 h7)=K x (H.put A (.row (fux x) .own)):=by
 have:H.store (A,0) (fux x)=some (H.put A (.row (fux x) .own)):=o.store rfl
 show (need (H.store (A,0) (fux x)) _)=_
 rw [this,need_some,cellsF (own_put o _)]
structure FI (T:List Tok) (P:Nat) (X:List Nat) (hb:Heap) (Q R O:Nat) (r:FuR) (d:FuT) (h:Heap) (σ:St) (st:Int):Prop where
 pc:PC T P (O::R::X) h σ st
 chg:Chg [P] hb h
 oQ:h.own Q [.ptr (some (P,0))]
 oR:h.own R (fuc (fuR0 false [] 0))
 oO:h.own O (fuc r)
 le:hb.next≤Q∧Q<R∧R<O∧P<hb.next
 dlv:Sl h (fun C=>O<C) r.lv d.lv
 dps:Sl h (fun C=>O<C) r.ps d.ps
 dty:Dt h (fun C=>O<C) d.ty (tyc r.ty)
 dbd:Sl h (fun C=>O<C) r.bd d.bd
section
variable {T:List Tok} {P:Nat} {X:List Nat} {st st':Int} {hb h h':Heap} {Q R O:Nat} {r r':FuR} {d d':FuT} {σ σ':St}
theorem FI.dt (x:FI T P X hb Q R O r d h σ st):Dt h (fun C=>O<C) (fuD r d) (fuc r):=
 dt_t (dp_cons (a:=[_]) (dt_b h _ r.pub) (dp_cons (a:=[_]) (dt_str h _ r.nm) (dp_cons (a:=[_]) (dt_av.2 x.dlv) (dp_cons (a:=[_]) (dt_av.2 x.dps) (dp_cons (a:=tyc r.ty) x.dty (dp_cons (a:=[_]) (dt_av.2 x.dbd) (dp_cons (a:=[_]) (b:=[]) (dt_i h _ r.at_) (dp_nil h _))))))))
theorem FI.old (x:FI T P X hb Q R O r d h σ st) (c:Chg [P,O] h h'):Chg [P] hb h'∧h'.own Q [.ptr (some (P,0))]∧h'.own R (fuc (fuR0 false [] 0))∧Sl h' (fun C=>O<C) r.lv d.lv∧Sl h' (fun C=>O<C) r.ps d.ps∧Dt h' (fun C=>O<C) d.ty (tyc r.ty)∧Sl h' (fun C=>O<C) r.bd d.bd:=by
 obtain ⟨x1,x2,x3,x4,x5,x6,x7,x8,x9,x10⟩:=x
 have hM:∀ A,O<A→A ∉ [P,O]:=fun C hC=>by simp;omega
 exact ⟨x2.step c (fun A hA hl=>by simp only [List.mem_cons,List.not_mem_nil,or_false] at hA ⊢;omega),x3.chg c (by simp;omega),x4.chg c (by simp;omega),x7.chg c hM,x8.chg c hM,x9.chg c hM,x10.chg c hM⟩
theorem FI.step (x:FI T P X hb Q R O r d h σ st) (c:Chg [P] h h') (y:PC T P (O::R::X) h' σ' st'):FI T P X hb Q R O r d h' σ' st':=by
 have hle:=x.le
 obtain ⟨g1,g2,g3,g4,g5,g6,g7⟩:=x.old (c.mono (by simp))
 exact ⟨y,g1,g2,g3,x.oO.chg c (by simp;omega),x.le,g4,g5,g6,g7⟩
theorem FI.lt (x:FI T P X hb Q R O r d h σ st):O<h.next:=x.oO.2
end
def funcS (T:List Tok) (pub:Bool) (at_:Int) (σ:St):D×SC:=
 let n:=textS T 1 σ
 let a:=optS T [60] n.2
 let l:=if a.1=true then ((listE T (lifS T) [44] a.2).1,wantS T [62] (listE T (lifS T) [44] a.2).2) else ([],a.2)
 let b:=optS T [41] (wantS T [40] l.2)
 let p:=if b.1=true then ([],b.2) else ((listE T (paramS T) [44] b.2).1,wantS T [41] (listE T (paramS T) [44] b.2).2)
 let c:=optS T [45,62] p.2
 let t:=if c.1=true then typS T 64 c.2 else (ty0D,c.2)
 let k:=blockS T 64 (t.2,0)
 (fuD (fuR0 pub n.1 at_) ⟨l.1,p.1,t.1,k.1⟩,k.2)
theorem fu2 (r:FuR) (v:SL):(fuc { r with lv:=v })[2]? = some (SL.av v):=by simp [fuc,fux,fuv,SL.av]
theorem fs2 (r:FuR) (v v':SL):(fuc { r with lv:=v }).set 2 (SL.av v')=fuc { r with lv:=v' }:=by simp [fuc,fux,fuv,SL.av]
theorem fu3 (r:FuR) (v:SL):(fuc { r with ps:=v })[3]? = some (SL.av v):=by simp [fuc,fux,fuv,SL.av]
theorem fs3 (r:FuR) (v v':SL):(fuc { r with ps:=v }).set 3 (SL.av v')=fuc { r with ps:=v' }:=by simp [fuc,fux,fuv,SL.av]
end Go.Proofs.YtkcjphhjmlienaaGreatDoor.Qp

set_option linter.unusedVariables false
set_option linter.unusedSimpArgs false
open Go Go.Proofs.YtkcjphhjmlienaaGreatDoor.Ai Go.Proofs
namespace Go.Proofs.YtkcjphhjmlienaaGreatDoor.Qp
section
variable {N:Nat} {T:List Tok} {P:Nat} {X:List Nat} {h:Heap} {σ:St} {st:Int}
theorem f103_pc (hT:Toks T) (hN:3000≤N) (x:PC T P X h σ st) (pub:Bool) (at_:Int):∃ r h',f103 N (some (P,0)) pub at_ h=some (r,h')∧PC T P X h' (funcS T pub at_ σ).2.1 ((funcS T pub at_ σ).2.2:Int)∧Chg [P] h h'∧Dt h' (fun C=>h.next≤C) (funcS T pub at_ σ).1 (fux r):=by
 unfold f103
 have hN1:100≤N:=by omega
 have hP:=x.P_lt
 have oQ:=own_push h [AV.ptr (some (P,0))]
 have cQ:=chg_push h (.row [AV.ptr (some (P,0))] .own)
 have nQ:(h.push (.row [AV.ptr (some (P,0))] .own)).next=h.next+1:=rfl
 dsimp only
 generalize h.push (.row [AV.ptr (some (P,0))] .own)=h1 at *
 have oR:=own_push h1 (fuc (fuR0 false [] 0))
 have cR:=chg_push h1 (.row (fuc (fuR0 false [] 0)) .own)
 have eR:h1.push (.row [(.bool false),(.str []),(.slice none 0 0 0),(.slice none 0 0 0),(.int .i64 0),(.str []),(.slice none 0 0 0),(.slice none 0 0 0),(.slice none 0 0 0),(.int .i64 0)] .own)=h1.push (.row (fuc (fuR0 false [] 0)) .own):=rfl
 have nR:(h1.push (.row (fuc (fuR0 false [] 0)) .own)).next=h1.next+1:=rfl
 have x2:=(x.chg cQ).add cR (A:=h1.next) (Nat.le_refl _) (Nat.lt_succ_self _)
 rw [eR]
 generalize h1.push (.row (fuc (fuR0 false [] 0)) .own)=h2 at *
 have oQ2:=oQ.chg cR (by simp)
 have c02:=cQ.trans cR
 have r2:h2.cell (h.next,0)=some (.ptr (some (P,0))):=oQ2.cell 0
 simp only [r2,bindV_some,cast_ptr,need_some,Nat.zero_add]
 obtain ⟨h5,e5,c5,x5⟩:=x2.setSt 0
 rw [e5,need_some]
 have oQ5:=oQ2.chg c5 (by simp;omega)
 have r5:h5.cell (h.next,0)=some (.ptr (some (P,0))):=oQ5.cell 0
 simp only [r5,bindV_some,cast_ptr]
 obtain ⟨h8,e8,c8,x8⟩:=f94_pc (N:=N) hT x5 (k:=1) (by decide)
 rw [e8,bind2_some]
 have c28:=c5.trans c8
 have oQ8:=oQ5.chg c8 (by simp;omega)
 have oR8:=oR.chg c28 (by simp;omega)
 have hn8:=c28.next
 simp only [funcS]
 generalize (textS T 1 σ).1=nm at *
 generalize (textS T 1 σ).2=σ1 at *
 have oO0:=own_push h8 (fuc (fuR0 false [] 0))
 have cO0:=chg_push h8 (.row (fuc (fuR0 false [] 0)) .own)
 have eO:h8.push (.row [(.bool false),(.str []),(.slice none 0 0 0),(.slice none 0 0 0),(.int .i64 0),(.str []),(.slice none 0 0 0),(.slice none 0 0 0),(.slice none 0 0 0),(.int .i64 0)] .own)=h8.push (.row (fuc (fuR0 false [] 0)) .own):=rfl
 have hstO:(h8.push (.row (fuc (fuR0 false [] 0)) .own)).store (h8.next,0) [(.bool pub),(.str nm),(.slice none 0 0 0),(.slice none 0 0 0),(.int .i64 0),(.str []),(.slice none 0 0 0),(.slice none 0 0 0),(.slice none 0 0 0),(.int .i64 at_)]=some ((h8.push (.row (fuc (fuR0 false [] 0)) .own)).put h8.next (.row (fuc (fuR0 pub nm at_)) .own)):=oO0.store rfl
 rw [eO,hstO,need_some]
 have oO:=own_put oO0 (fuc (fuR0 pub nm at_))
 have cO:Chg [] h8 ((h8.push (.row (fuc (fuR0 false [] 0)) .own)).put h8.next (.row (fuc (fuR0 pub nm at_)) .own)):=cO0.put (.inr (Nat.le_refl _)) _
 have nO:((h8.push (.row (fuc (fuR0 false [] 0)) .own)).put h8.next (.row (fuc (fuR0 pub nm at_)) .own)).next=h8.next+1:=rfl
 have x10:=x8.add cO (A:=h8.next) (Nat.le_refl _) (Nat.lt_succ_self _)
 have oQ10:=oQ8.chg cO (by simp)
 have oR10:=oR8.chg cO (by simp)
 have c010:Chg [P] h ((h8.push (.row (fuc (fuR0 false [] 0)) .own)).put h8.next (.row (fuc (fuR0 pub nm at_)) .own)):=((c02.mono (by simp)).trans c28).trans (cO.mono (by simp))
 generalize (h8.push (.row (fuc (fuR0 false [] 0)) .own)).put h8.next (.row (fuc (fuR0 pub nm at_)) .own)=h10 at *
 have i10:FI T P X h h.next h1.next h8.next (fuR0 pub nm at_) fuT0 h10 σ1 0:=⟨x10,c010,oQ10,oR10,oO,⟨Nat.le_refl _,by omega,by omega,hP⟩,Sl.nil _ _ _,Sl.nil _ _ _,dt_ty0 _ _ _ _,Sl.nil _ _ _⟩
 generalize hQe:h.next=Q at *
 generalize h1.next=R at *
 generalize h8.next=O at *
 have q10:h10.cell (Q,0)=some (.ptr (some (P,0))):=i10.oQ.cell 0
 simp only [q10,bindV_some,cast_ptr]
 obtain ⟨h13,e13,c13,y13⟩:=f93_pc (N:=N) hT i10.pc (w:=[60]) (by decide)
 rw [e13,bind2_some]
 have i13:=i10.step c13 y13
 have q13:h13.cell (Q,0)=some (.ptr (some (P,0))):=i13.oQ.cell 0
 -- lifetimes
 have h21s:∃ v h21,(bif (optS T [60] σ1).1 then
    (bindV (.val (.one .ptr)) (h13.cell (Q,0)) fun (x14:Option (Nat×Nat))=>
    (bind2 (f147c155 N x14 [44] ((some (O,0)),(some (Q,0)),()) h13) fun (x15:(Unit)) h16=>
    (bindV (.val (.one .ptr)) (h16.cell (Q,0)) fun (x17:Option (Nat×Nat))=>
    (bind2 (f149 N x17 [62] h16) fun (x18:(Unit)) h19=>
    some (((some (Q,0)),(some (R,0)),(some (O,0)),()),h19)))))
    else
    some (((some (Q,0)),(some (R,0)),(some (O,0)),()),h13))=some (((some (Q,0)),(some (R,0)),(some (O,0)),()),h21)∧
   FI T P X h Q R O { fuR0 pub nm at_ with lv:=v } { fuT0 with lv:=(if (optS T [60] σ1).1=true then ((listE T (lifS T) [44] (optS T [60] σ1).2).1,wantS T [62] (listE T (lifS T) [44] (optS T [60] σ1).2).2) else ([],(optS T [60] σ1).2)).1 } h21 (if (optS T [60] σ1).1=true then ((listE T (lifS T) [44] (optS T [60] σ1).2).1,wantS T [62] (listE T (lifS T) [44] (optS T [60] σ1).2).2) else ([],(optS T [60] σ1).2)).2 0:=by
  have hle:=i13.le
  cases hb:(optS T [60] σ1).1 with
  | false=>exact ⟨sl0,h13,rfl,i13⟩
  | true=>
   simp only [cond_true,if_true,q13,bindV_some,cast_ptr]
   have hl:=i13.lt
   have f:CF P (O::R::X) h13 O Q 2 2 (fun v=>fuc { fuR0 pub nm at_ with lv:=v }):=⟨by omega,by omega,by simp,fun v=>fu2 _ v,fun v v'=>fs2 _ v v'⟩
   obtain ⟨h16,e16,ci⟩:=lifs_list (N:=N) hT hN1 f ⟨i13.pc,Chg.refl _ _,i13.oQ,sl0,i13.oO,Ow.nil _ _ _ _⟩
   rw [e16,bind2_some]
   obtain ⟨v,oO16,w16⟩:=ci.ex
   have q16:h16.cell (Q,0)=some (.ptr (some (P,0))):=ci.q.cell 0
   simp only [q16,bindV_some,cast_ptr]
   obtain ⟨g1,g2,g3,g4,g5,g6,g7⟩:=i13.old ci.chg
   have i16:FI T P X h Q R O { fuR0 pub nm at_ with lv:=v } { fuT0 with lv:=(listE T (lifS T) [44] (optS T [60] σ1).2).1 } h16 (listE T (lifS T) [44] (optS T [60] σ1).2).2 0:=⟨ci.pc,g1,g2,g3,oO16,i13.le,w16.sl.weak (fun C hC _=>by omega),g5,g6,g7⟩
   obtain ⟨h19,e19,c19,y19⟩:=f149_pc (N:=N) hT i16.pc (w:=[62]) (by decide)
   rw [e19,bind2_some]
   exact ⟨v,h19,rfl,i16.step c19 y19⟩
 obtain ⟨lv,h21,e21,i21⟩:=h21s
 rw [e21,bind2_some]
 generalize (if (optS T [60] σ1).1=true then ((listE T (lifS T) [44] (optS T [60] σ1).2).1,wantS T [62] (listE T (lifS T) [44] (optS T [60] σ1).2).2) else ([],(optS T [60] σ1).2))=zl at *
 have q21:h21.cell (Q,0)=some (.ptr (some (P,0))):=i21.oQ.cell 0
 simp only [need_some,q21,bindV_some,cast_ptr]
 obtain ⟨h25,e25,c25,y25⟩:=f149_pc (N:=N) hT i21.pc (w:=[40]) (by decide)
 rw [e25,bind2_some]
 have i25:=i21.step c25 y25
 have q25:h25.cell (Q,0)=some (.ptr (some (P,0))):=i25.oQ.cell 0
 simp only [q25,bindV_some,cast_ptr]
 obtain ⟨h29,e29,c29,y29⟩:=f93_pc (N:=N) hT i25.pc (w:=[41]) (by decide)
 rw [e29,bind2_some]
 have i29:=i25.step c29 y29
 have q29:h29.cell (Q,0)=some (.ptr (some (P,0))):=i29.oQ.cell 0
 have h40s:∃ v h40,(bif !(optS T [41] (wantS T [40] zl.2)).1 then
    (bindV (.val (.one .ptr)) (h29.cell (Q,0)) fun (x32:Option (Nat×Nat))=>
    (bind2 (f147c157 N x32 [44] ((some (Q,0)),(some (O,0)),()) h29) fun (x33:(Unit)) h34=>
    (bindV (.val (.one .ptr)) (h34.cell (Q,0)) fun (x36:Option (Nat×Nat))=>
    (bind2 (f149 N x36 [41] h34) fun (x37:(Unit)) h38=>
    some (((some (Q,0)),(some (R,0)),(some (O,0)),()),h38)))))
    else
    some (((some (Q,0)),(some (R,0)),(some (O,0)),()),h29))=some (((some (Q,0)),(some (R,0)),(some (O,0)),()),h40)∧
   FI T P X h Q R O { fuR0 pub nm at_ with lv:=lv,ps:=v } { fuT0 with lv:=zl.1,ps:=(if (optS T [41] (wantS T [40] zl.2)).1=true then ([],(optS T [41] (wantS T [40] zl.2)).2) else ((listE T (paramS T) [44] (optS T [41] (wantS T [40] zl.2)).2).1,wantS T [41] (listE T (paramS T) [44] (optS T [41] (wantS T [40] zl.2)).2).2)).1 } h40 (if (optS T [41] (wantS T [40] zl.2)).1=true then ([],(optS T [41] (wantS T [40] zl.2)).2) else ((listE T (paramS T) [44] (optS T [41] (wantS T [40] zl.2)).2).1,wantS T [41] (listE T (paramS T) [44] (optS T [41] (wantS T [40] zl.2)).2).2)).2 0:=by
  have hle:=i29.le
  cases hb:(optS T [41] (wantS T [40] zl.2)).1 with
  | true=>exact ⟨sl0,h29,rfl,i29⟩
  | false=>
   simp only [Bool.not_false,cond_true,Bool.false_eq_true,if_false,q29,bindV_some,cast_ptr]
   have hl:=i29.lt
   have f:CF P (O::R::X) h29 O Q 6 3 (fun v=>fuc { fuR0 pub nm at_ with lv:=lv,ps:=v }):=⟨by omega,by omega,by simp,fun v=>fu3 { fuR0 pub nm at_ with lv:=lv } v,fun v v'=>fs3 { fuR0 pub nm at_ with lv:=lv } v v'⟩
   obtain ⟨h34,e34,ci⟩:=params_list (N:=N) hT hN1 f ⟨i29.pc,Chg.refl _ _,i29.oQ,sl0,i29.oO,Ow.nil _ _ _ _⟩
   rw [e34,bind2_some]
   obtain ⟨v,oO34,w34⟩:=ci.ex
   have q34:h34.cell (Q,0)=some (.ptr (some (P,0))):=ci.q.cell 0
   simp only [q34,bindV_some,cast_ptr]
   obtain ⟨g1,g2,g3,g4,g5,g6,g7⟩:=i29.old ci.chg
   have i34:FI T P X h Q R O { fuR0 pub nm at_ with lv:=lv,ps:=v } { fuT0 with lv:=zl.1,ps:=(listE T (paramS T) [44] (optS T [41] (wantS T [40] zl.2)).2).1 } h34 (listE T (paramS T) [44] (optS T [41] (wantS T [40] zl.2)).2).2 0:=⟨ci.pc,g1,g2,g3,oO34,i29.le,g4,w34.sl.weak (fun C hC _=>by omega),g6,g7⟩
   obtain ⟨h38,e38,c38,y38⟩:=f149_pc (N:=N) hT i34.pc (w:=[41]) (by decide)
   rw [e38,bind2_some]
   exact ⟨v,h38,rfl,i34.step c38 y38⟩
 obtain ⟨ps,h40,e40,i40⟩:=h40s
 rw [e40,bind2_some]
 generalize (if (optS T [41] (wantS T [40] zl.2)).1=true then ([],(optS T [41] (wantS T [40] zl.2)).2) else ((listE T (paramS T) [44] (optS T [41] (wantS T [40] zl.2)).2).1,wantS T [41] (listE T (paramS T) [44] (optS T [41] (wantS T [40] zl.2)).2).2))=zp at *
 have q40:h40.cell (Q,0)=some (.ptr (some (P,0))):=i40.oQ.cell 0
 simp only [need_some,q40,bindV_some,cast_ptr]
 obtain ⟨h44,e44,c44,y44⟩:=f93_pc (N:=N) hT i40.pc (w:=[45,62]) (by decide)
 rw [e44,bind2_some]
 have i44:=i40.step c44 y44
 have q44:h44.cell (Q,0)=some (.ptr (some (P,0))):=i44.oQ.cell 0
 have h52s:∃ v h52,(bif (optS T [45,62] zp.2).1 then
    (bindV (.val (.one .ptr)) (h44.cell (Q,0)) fun (x46:Option (Nat×Nat))=>
    (bind2 (f55 N N x46 1 h44) fun (x47:(Int×List UInt8×SL×SL×Unit)) h48=>
    (need (h48.store (O,4) [(.int .i64 x47.1),(.str x47.2.1),(.slice x47.2.2.1.a x47.2.2.1.len x47.2.2.1.cap x47.2.2.1.sz),(.slice x47.2.2.2.1.a x47.2.2.2.1.len x47.2.2.2.1.cap x47.2.2.2.1.sz)]) fun h50=>
    some (((some (Q,0)),(some (R,0)),(some (O,0)),()),h50))))
    else
    some (((some (Q,0)),(some (R,0)),(some (O,0)),()),h44))=some (((some (Q,0)),(some (R,0)),(some (O,0)),()),h52)∧
   FI T P X h Q R O { fuR0 pub nm at_ with lv:=lv,ps:=ps,ty:=v } { fuT0 with lv:=zl.1,ps:=zp.1,ty:=(if (optS T [45,62] zp.2).1=true then typS T 64 (optS T [45,62] zp.2).2 else (ty0D,(optS T [45,62] zp.2).2)).1 } h52 (if (optS T [45,62] zp.2).1=true then typS T 64 (optS T [45,62] zp.2).2 else (ty0D,(optS T [45,62] zp.2).2)).2 0:=by
  have hle:=i44.le
  cases hb:(optS T [45,62] zp.2).1 with
  | false=>exact ⟨ty00,h44,rfl,i44⟩
  | true=>
   simp only [cond_true,if_true,q44,bindV_some,cast_ptr]
   have hl:=i44.lt
   obtain ⟨t,h48,e48,y48,c48,d48⟩:=f55_pc (N:=N) hT hN1 i44.pc
   rw [e48,bind2_some]
   have i48:=i44.step c48 y48
   have hst:h48.store (O,4) [(.int .i64 t.1),(.str t.2.1),(.slice t.2.2.1.a t.2.2.1.len t.2.2.1.cap t.2.2.1.sz),(.slice t.2.2.2.1.a t.2.2.2.1.len t.2.2.2.1.cap t.2.2.2.1.sz)]=some (h48.put O (.row (fuc { fuR0 pub nm at_ with lv:=lv,ps:=ps,ty:=t }) .own)):=own_storeN i48.oO (by simp only [fuc,fux,fuv,over_succ,over_zero,over_nil,Option.map_some])
   rw [hst,need_some]
   have cp:=i48.oO.put (fuc { fuR0 pub nm at_ with lv:=lv,ps:=ps,ty:=t })
   obtain ⟨g1,g2,g3,g4,g5,g6,g7⟩:=i48.old (cp.mono (N:=[P,O]) (by simp))
   exact ⟨t,_,rfl,i48.pc.chg1 cp (by simp),g1,g2,g3,own_put i48.oO _,i48.le,g4,g5,(d48.chg cp (fun C hC=>by simp;omega)).weak (fun C hC _=>by omega),g7⟩
 obtain ⟨t,h52,e52,i52⟩:=h52s
 rw [e52,bind2_some]
 generalize (if (optS T [45,62] zp.2).1=true then typS T 64 (optS T [45,62] zp.2).2 else (ty0D,(optS T [45,62] zp.2).2))=zt at *
 have q52:h52.cell (Q,0)=some (.ptr (some (P,0))):=i52.oQ.cell 0
 simp only [need_some,q52,bindV_some,cast_ptr]
 have hlt:=i52.lt
 have hle:=i52.le
 obtain ⟨v,h56,e56,y56,c56,s56⟩:=block_ok (N:=N) (P:=P) hT hN 64 N (Nat.le_refl _) (by omega) (O::R::X) h52 zt.2 0 i52.pc (.inl (by show 0≤2000;omega))
 rw [show ((65-64:Nat):Int)=1 from rfl] at e56
 rw [e56,bind2_some]
 have i56:=i52.step c56 y56
 have hst:h56.store (O,8) [.slice v.a v.len v.cap v.sz]=some (h56.put O (.row (fuc { fuR0 pub nm at_ with lv:=lv,ps:=ps,ty:=t,bd:=v }) .own)):=own_storeN i56.oO (by simp only [fuc,fux,fuv,over_succ,over_zero,over_nil,Option.map_some])
 simp only [Nat.zero_add]
 rw [hst,need_some]
 have cp:=i56.oO.put (fuc { fuR0 pub nm at_ with lv:=lv,ps:=ps,ty:=t,bd:=v })
 obtain ⟨g1,g2,g3,g4,g5,g6,g7⟩:=i56.old (cp.mono (N:=[P,O]) (by simp))
 have i58:FI T P X h Q R O { fuR0 pub nm at_ with lv:=lv,ps:=ps,ty:=t,bd:=v } ⟨zl.1,zp.1,zt.1,(blockS T 64 (zt.2,0)).1⟩ (h56.put O (.row (fuc { fuR0 pub nm at_ with lv:=lv,ps:=ps,ty:=t,bd:=v }) .own)) (blockS T 64 (zt.2,0)).2.1 ((blockS T 64 (zt.2,0)).2.2:Int):=⟨i56.pc.chg1 cp (by simp),g1,g2,g3,own_put i56.oO _,i56.le,g4,g5,g6,(s56.chg cp (fun C hC=>by simp;omega)).weak (fun C hC _=>by omega)⟩
 generalize h56.put O (.row (fuc { fuR0 pub nm at_ with lv:=lv,ps:=ps,ty:=t,bd:=v }) .own)=h58 at *
 rw [cellsF (r:=fuv { fuR0 pub nm at_ with lv:=lv,ps:=ps,ty:=t,bd:=v }) i58.oO]
 refine ⟨fuv { fuR0 pub nm at_ with lv:=lv,ps:=ps,ty:=t,bd:=v },_,finF i58.oR (fuv { fuR0 pub nm at_ with lv:=lv,ps:=ps,ty:=t,bd:=v }) (fun x h=>some (x,h)),?_,?_,?_⟩
 ·exact (i58.pc.chg1 (i58.oR.put _) (by simp)).sub (by simp +contextual)
 ·exact i58.chg.step (i58.oR.put _) (fun A hA hl=>by rw [List.mem_singleton] at hA;omega)
 ·exact (i58.dt.chg (i58.oR.put _) (fun C hC=>by simp;omega)).weak fun C hC _=>by omega
end
end Go.Proofs.YtkcjphhjmlienaaGreatDoor.Qp

set_option linter.unusedVariables false
set_option linter.unusedSimpArgs false
open Go Go.Proofs.YtkcjphhjmlienaaGreatDoor.Ai Go.Proofs
namespace Go.Proofs.YtkcjphhjmlienaaGreatDoor.Qp
abbrev Er3:=Option (Int×Int×Option Int)
def ErrW (h:Heap) (v:AV):Er3→Prop
 | none=>v=AV.nilIface
 | some (c,a,none)=>FaultAt h v c a
 | some (c,a,some b)=>∃ A B,v=AV.iface 127 (.ptr (some (A,0)))∧h.own A [.int .i64 c,.int .i64 a,AV.iface 127 (.ptr (some (B,0)))]∧h.own B [.int .i64 c,.int .i64 b,AV.iface 78 (.int .i64 c)]
def inS (at_:Int):Er→Er3
 | none=>none
 | some (c,a)=>some (c,at_,some a)
def flatS:Er→Er3
 | none=>none
 | some (c,a)=>some (c,a,none)
theorem asF_fault {h:Heap} {A:Nat} {p:Nat×Nat} {v:AV} (hp:Qw.pinned h=true) (o:h.own A [v]):Qz.asF (AV.iface 127 (.ptr (some p))) (AV.iface 214 (.ptr (some (A,0)))) h=some (true,h.put A (.row [.ptr (some p)] .own)):=by
 simp only [Qw.pinned,Qx.pinned,Bool.and_eq_true] at hp
 obtain ⟨⟨⟨⟨b1,b2⟩,b3⟩,_⟩,_⟩:=hp
 have hr:Qa.rowOG h A=some ([v],.own):=by
  have:=o.1
  unfold Qa.rowOG
  unfold Heap.g at this
  rw [this]
 simp [Qz.asF,Qa.asN,b1,b2,b3,hr,over]
section
variable {N:Nat} {T:List Tok} {P:Nat} {X:List Nat} {h:Heap} {σ:St} {st:Int}
theorem f159_fault {B:Nat} {c:Int} {w:List AV} (hp:Qw.pinned h=true) (h4:4≤h.next) (o:h.own B (.int .i64 c::w)):∃ h',f159 N (AV.iface 127 (.ptr (some (B,0)))) h=some (c,h')∧Chg [] h h':=by
 unfold f159 f191
 simp only [eq_fault,bindV_some,cast_bool,cond_false,ne_fault,cond_true]
 have o1:=own_push h [AV.ptr none]
 have c1:=chg_push h (.row [AV.ptr none] .own)
 have p1:=pin_chg c1 (by simp) h4 hp
 have e2:f192 N (AV.iface 127 (.ptr (some (B,0)))) (AV.iface 214 (.ptr (some (h.next,0)))) (h.push (.row [AV.ptr none] .own))=_:=asF_fault p1 o1
 rw [e2,bind2_some]
 have o2:=own_put o1 [AV.ptr (some (B,0))]
 have c2:Chg [] h ((h.push (.row [AV.ptr none] .own)).put h.next (.row [AV.ptr (some (B,0))] .own)):=c1.put (.inr (Nat.le_refl _)) _
 have r2:((h.push (.row [AV.ptr none] .own)).put h.next (.row [AV.ptr (some (B,0))] .own)).cell (h.next,0)=some (.ptr (some (B,0))):=o2.cell 0
 have r3:((h.push (.row [AV.ptr none] .own)).put h.next (.row [AV.ptr (some (B,0))] .own)).cell (B,0)=some (.int .i64 c):=(o.chg c2 (by simp)).cell 0
 simp only [cond_true,r2,bindV_some,cast_ptr,bind2_some,Option.isNone_some,Bool.not_false,need_some,Nat.zero_add,r3,cast_int]
 exact ⟨_,rfl,c2⟩
theorem f104_pc (hp:Qw.pinned h=true) (h4:4≤h.next) {e:Er} {v:AV} (hv:ErrV h P X v e) (at_:Int):∃ v' h',f104 N v at_ h=some (v',h')∧Chg [] h h'∧ErrW h' v' (inS at_ e)∧AV.single v'=true:=by
 cases e with
 | none=>
  have hv:v=AV.nilIface:=hv
  subst hv
  exact ⟨AV.nilIface,h,f104_nil N at_ h,Chg.refl _ _,rfl,rfl⟩
 | some q=>
  obtain ⟨c,a⟩:=q
  obtain ⟨B,rfl,_,o⟩:=hv
  obtain ⟨h3,e3,c3⟩:=f159_fault (N:=N) hp h4 o
  rw [f104_fault,e3,bind2_some]
  have c4:=chg_push h3 (.row [(.int .i64 c),(.int .i64 at_),(AV.iface 127 (.ptr (some (B,0))))] .own)
  exact ⟨_,_,rfl,c3.trans c4,⟨h3.next,B,rfl,own_push h3 _,(o.chg c3 (by simp)).chg c4 (by simp)⟩,rfl⟩
theorem ErrW.chg {h h':Heap} {v:AV} {e:Er3} {M:List Nat} (x:ErrW h v e) (c:Chg M h h') (hM:∀ A∈M,∃ cs w,h.own A (cs::w)∧∀ n,cs≠.int .i64 n):ErrW h' v e:=by
 have key:∀ {A:Nat} {n:Int} {w:List AV},h.own A (.int .i64 n::w)→h'.own A (.int .i64 n::w):=fun {A n w} o=>o.chg c fun hm=>by
  obtain ⟨cs,w',o',hn⟩:=hM A hm
  have:=o.1.symm.trans o'.1
  simp only [Option.some.injEq,Blk.row.injEq,List.cons.injEq,and_true] at this
  exact hn n this.1.symm
 match e with
 | none=>exact x
 | some (c,a,none)=>
  obtain ⟨F,f1,f2⟩:=x
  exact ⟨F,f1,key f2⟩
 | some (c,a,some b)=>
  obtain ⟨A,B,f1,f2,f3⟩:=x
  exact ⟨A,B,f1,key f2,key f3⟩
theorem PC.chgC {h':Heap} {C:Nat} {a b:SL} (x:PC T P X h σ st) (o:h.own C [SL.av a,SL.av b]) (hC:C<P∧4≤C) (c:Chg [C] h h'):PC T P X h' σ st:=by
 obtain ⟨⟨⟨s,v,h1,h2,h3,h4⟩,h5,h6⟩,hp,p4⟩:=x
 have hs:∀ A,s.blk=some A→A≠C:=by
  intro A hA e
  subst e
  obtain ⟨vs,hse,hde⟩:=h2.els
  cases hq:s.a with
  | none=>simp [SL.blk,hq] at hA
  | some q=>
   obtain ⟨A',off⟩:=q
   simp [SL.blk,hq] at hA
   subst hA
   obtain ⟨_,cs,g1,g2⟩:=hse.2.2 A' off hq
   rw [o.1] at g1
   have g1':cs=[SL.av a,SL.av b]:=by
    have:(some [SL.av a,SL.av b]:Option (List AV))=some cs:=g1
    simpa using this.symm
   subst g1'
   cases T with
   | nil=>simp at h5
   | cons t r=>
    rw [List.map_cons] at hde
    simp only [De] at hde
    obtain ⟨x1,x2,hx,hl,hd,_⟩:=hde
    have hd':=dt_tok' hd
    subst hd'
    rw [hx] at g2
    have hm:AV.int .i64 t.1∈[SL.av a,SL.av b]:=by
     have:AV.int .i64 t.1∈([SL.av a,SL.av b].drop off).take (tkc t.1 t.2.1 (t.2.2:Int)++x2).length:=by
      rw [g2];simp [tkc]
     exact List.mem_of_mem_drop (List.mem_of_mem_take this)
    simp [SL.av] at hm
 have h2':Sl h (fun A=>A<P∧A≠C) s (T.map tokD):=by
  refine ⟨h2.len,h2.cap,fun A hA=>⟨h2.blk A hA,hs A hA⟩,?_⟩
  obtain ⟨vs,hse,hde⟩:=h2.els
  refine ⟨vs,hse,?_⟩
  have gen:∀ (l:List Tok) (vs:List AV),De h (fun C=>C<P) s.sz (l.map tokD) vs→De h (fun A=>A<P∧A≠C) s.sz (l.map tokD) vs:=by
   intro l
   induction l with
   | nil=>intro vs hd;exact hd
   | cons t r ih=>
    intro vs hd
    rw [List.map_cons] at hd ⊢
    simp only [De] at hd ⊢
    obtain ⟨x1,x2,e1,e2,e3,e4⟩:=hd
    refine ⟨x1,x2,e1,e2,?_,ih _ e4⟩
    have:=dt_tok' e3
    subst this
    exact dt_t (dp_cons (a:=[_]) (dt_i h _ _) (dp_cons (a:=[_]) (dt_str h _ _) (dp_cons (a:=[_]) (b:=[]) (dt_i h _ _) (dp_nil h _))))
  exact gen T vs hde
 have h4':ErrV h' P X v σ.2:=by
  cases he:σ.2 with
  | none=>rw [he] at h4;exact h4
  | some q=>
   rw [he] at h4
   obtain ⟨A,g1,g2,g3⟩:=h4
   refine ⟨A,g1,g2,g3.chg c fun hm=>?_⟩
   rw [List.mem_singleton] at hm;subst hm
   have:=g3.1.symm.trans o.1
   simp [SL.av] at this
 exact ⟨⟨⟨s,v,h1.chg c (by simp;omega),(h2'.chg c (fun A hA=>by simp;exact hA.2)).weak fun A hA _=>hA.1,h3,h4'⟩,h5,fun A hA=>⟨(h6 A hA).1,Nat.lt_of_lt_of_le (h6 A hA).2 c.next⟩⟩,pin_chg c (by simp;omega) (by have:=o.2;omega) hp,p4⟩
end
end Go.Proofs.YtkcjphhjmlienaaGreatDoor.Qp

set_option linter.unusedVariables false
set_option linter.unusedSimpArgs false
open Go Go.Proofs.YtkcjphhjmlienaaGreatDoor.Ai Go.Proofs
namespace Go.Proofs.YtkcjphhjmlienaaGreatDoor.Qp
structure ItS where
 d:Option (Bool×D)
 i:Nat
 e:Er3
 n:Nat
def itemS (T:List Tok) (σ:St):ItS:=
 let p:=optS T [112,117,98] σ
 let at_:Int:=((tk T p.2.1).2.2:Int)
 let b:=optS T [115,116,114,117,99,116] p.2
 if b.1=true then ⟨some (true,(structS T p.1 at_ b.2).1),(structS T p.1 at_ b.2).2.1,inS at_ (structS T p.1 at_ b.2).2.2,0⟩ else
 let f:=optS T [102,110] b.2
 if f.1=true then ⟨some (false,(funcS T p.1 at_ f.2).1),(funcS T p.1 at_ f.2).2.1.1,inS at_ (funcS T p.1 at_ f.2).2.1.2,(funcS T p.1 at_ f.2).2.2⟩
 else ⟨none,(failS T 21 f.2).1,flatS (failS T 21 f.2).2,0⟩
theorem app22:AppN E 22 72 5 1000:=AppN.of (by kernel_rfl)
theorem app23:AppN E 23 44 10 1000:=AppN.of (by kernel_rfl)
def CrOK (h0 h:Heap) (C:Nat) (xs ys:List D):Prop:=∃ v w,h.own C [SL.av v,SL.av w]∧OwV (fun A=>h0.next≤A∧w.blk≠some A) h v 5 xs∧OwV (fun A=>h0.next≤A∧v.blk≠some A) h w 10 ys
def addX (d:Option (Bool×D)) (xs:List D):List D:=match d with | some (true,x)=>xs++[x] | _=>xs
def addY (d:Option (Bool×D)) (ys:List D):List D:=match d with | some (false,y)=>ys++[y] | _=>ys
def PE (T:List Tok) (P:Nat) (h:Heap) (i:Nat) (e:Er3):Prop:=(∃ v,h.cell (P,3)=some v∧ErrW h v e)∧(e=none→∃ st,PC T P [] h (i,none) st)
section
variable {N:Nat} {T:List Tok} {P:Nat} {X:List Nat} {h:Heap} {σ:St} {st:Int}
theorem wrap_step (x:PC T P X h σ st) (at_:Int):∃ h',(need (some (P,0)) fun q16=>
   (bindV (.val (.one .any)) (h.cell (q16.1,q16.2+3)) fun (x17:AV)=>
   (bind2 (f104 N x17 at_ h) fun (x18:AV) h19=>
   (need (some (P,0)) fun q20=>
   (guardB (AV.single x18)
   (need (h19.store (q20.1,q20.2+3) [x18]) fun h21=>
   some ((()),h21)))))))=some ((),h')∧Chg [P] h h'∧PE T P h' σ.1 (inS at_ σ.2):=by
 obtain ⟨v,k3,hv⟩:=x.pa.readE
 have hP:=x.P_lt
 obtain ⟨v',h19,e19,c19,w19,s19⟩:=f104_pc (N:=N) x.pin (by have:=x.p4;omega) hv at_
 simp only [need_some,Nat.zero_add,k3,bindV_some,cast_any]
 rw [e19,bind2_some,s19,guardB_true]
 have x19:=x.chg c19
 obtain ⟨⟨⟨s,v0,h1,h2,h3,h4⟩,h5,h6⟩,hp,p4⟩:=x19
 have hst:h19.store (P,3) [v']=some (h19.put P (.row [SL.av s,.int .i64 (σ.1:Int),.int .i64 st,v'] .own)):=h1.store1 (j:=3) (by show 3<4;omega) _
 rw [hst,need_some]
 have cp:=h1.put [SL.av s,.int .i64 (σ.1:Int),.int .i64 st,v']
 have hl:=h1.2
 refine ⟨_,rfl,(c19.mono (by simp)).trans cp,⟨v',(own_put h1 _).cell 3,w19.chg cp fun A hA=>by
  rw [List.mem_singleton] at hA;subst hA
  exact ⟨_,_,h1,fun n=>by simp [SL.av]⟩⟩,fun he=>?_⟩
 obtain ⟨i,e⟩:=σ
 cases e with
 | some q=>obtain ⟨c,a⟩:=q;cases he
 | none=>
  have hv':v'=AV.nilIface:=w19
  subst hv'
  exact ⟨st,⟨⟨⟨s,AV.nilIface,own_put h1 _,h2.chg cp (fun A hA=>by simp;omega),h3,rfl⟩,h5,by simp⟩,pin_chg cp (by simp;omega) (by omega) hp,p4⟩⟩
theorem f63_pc (hT:Toks T) (hN:3000≤N) {h0:Heap} {C:Nat} {xs ys:List D} {i:Nat} (x:PC T P [] h (i,none) st) (hC:C<P∧4≤C) (hP0:P<h0.next) (ch:Chg [P,C] h0 h) (cr:CrOK h0 h C xs ys) (hx:xs.length≤1000) (hy:ys.length≤1000) :
  ∃ h',f63 N (some (P,0)) (some (C,0)) h=some ((),h')∧Chg [P,C] h0 h'∧PE T P h' (itemS T (i,none)).i (itemS T (i,none)).e∧CrOK h0 h' C (addX (itemS T (i,none)).d xs) (addY (itemS T (i,none)).d ys):=by
 unfold f63
 obtain ⟨h2,e2,c2,x2⟩:=f92_pc (N:=N) hT x (w:=[112,117,98]) (by decide)
 rw [e2,bind2_some]
 simp only [itemS]
 obtain ⟨h4,e4,c4⟩:=f56_eq (N:=N) x2.pa
 rw [e4,bind2_some]
 have x4:=x2.chg c4
 obtain ⟨h6,e6,c6,x6⟩:=f92_pc (N:=N) hT x4 (w:=[115,116,114,117,99,116]) (by decide)
 rw [e6,bind2_some]
 have c06:Chg [P] h h6:=(c2.trans (c4.mono (by simp))).trans c6
 have ch6:=ch.trans (c06.mono (N:=[P,C]) (by simp))
 have crStep:∀ {h1 h2:Heap},Chg [P] h1 h2→CrOK h0 h1 C xs ys→CrOK h0 h2 C xs ys:=by
  rintro h1 h2 c ⟨v,w,o,w1,w2⟩
  exact ⟨v,w,o.chg c (by simp;omega),w1.chg c (by intro A hA _;simp;omega),w2.chg c (by intro A hA _;simp;omega)⟩
 have cr6:=crStep c06 cr
 have hn06:=ch6.next
 generalize (optS T [112,117,98] (i,none)).1=pub at *
 generalize (optS T [112,117,98] (i,none)).2=σ2 at *
 simp only [ttOf]
 generalize ((tk T σ2.1).2.2:Int)=at_ at *
 cases hb:(optS T [115,116,114,117,99,116] σ2).1 with
 | true=>
  obtain ⟨v,w,o6,w1,w2⟩:=cr6
  have hs:=(optS_none hb).1
  rw [hs] at x6
  rw [hs]
  simp only [cond_true,if_true,need_some,Nat.zero_add]
  have r6:h6.cell (C,0)=some (.slice v.a v.len v.cap v.sz):=o6.cell 0
  simp only [r6,bindV_some,cast_slice]
  have hv:∀ A∈v.blk.toList,h0.next≤A∧A<h6.next∧w.blk≠some A:=fun A hA=>by
   have:=w1.ge A (by simpa using hA);exact ⟨this.1.1,this.2,this.1.2⟩
  have y6:PC T P v.blk.toList h6 (σ2.1+1,none) st:=x6.free fun A hA=>by have:=hv A hA;omega
  obtain ⟨r,h10,e10,x10,c10,d10⟩:=f102_pc (N:=N) hT (by omega) y6 pub at_
  rw [e10,bind2_some]
  have o10:=o6.chg c10 (by simp;omega)
  have w1_10:=w1.chg c10 (by intro A hA _;simp;omega)
  have w2_10:=w2.chg c10 (by intro A hA _;simp;omega)
  have hn10:=c10.next
  have hw:∀ A∈w.blk.toList,h0.next≤A∧A<h6.next:=fun A hA=>by have:=w2.ge A (by simpa using hA);exact ⟨this.1.1,this.2⟩
  obtain ⟨v',h13,eA,w1_13,c13,hb13⟩:=append_owV (cs:=stc r) app22 (by decide) w1_10 (d10.weak fun A hA _=>⟨⟨by omega,fun e=>by have:=hw A (by simpa using e);omega⟩,fun e=>by have:=hv A (by simpa using e);omega⟩) rfl (fun A hA=>⟨by omega,fun e=>by have:=hw A (by simpa using e);omega⟩) (by omega)
  have eA':appendA E 22 22 (.slice v.a v.len v.cap v.sz) (.slice (some (h10.next,0)) 1 1 5) (h10.push (.row [(.bool r.1),(.str r.2.1),(.slice r.2.2.1.a r.2.2.1.len r.2.2.1.cap r.2.2.1.sz),(.slice r.2.2.2.1.a r.2.2.2.1.len r.2.2.2.1.cap r.2.2.2.1.sz),(.int .i64 r.2.2.2.2.1)] .own))=some (.slice v'.a v'.len v'.cap v'.sz,h13):=eA
  rw [eA',bindT_some,cast_slice]
  have o13:=o10.chg c13 (fun hm=>by have:=hv C hm;omega)
  have o11:=o10.chg (chg_push h10 (.row (stc r) .own)) (by simp)
  have k11:(h10.push (.row [(.bool r.1),(.str r.2.1),(.slice r.2.2.1.a r.2.2.1.len r.2.2.1.cap r.2.2.1.sz),(.slice r.2.2.2.1.a r.2.2.2.1.len r.2.2.2.1.cap r.2.2.2.1.sz),(.int .i64 r.2.2.2.2.1)] .own)).cell (C,0)=some (.slice v.a v.len v.cap v.sz):=o11.cell 0
  have k10:h10.cell (C,0)=some (.slice v.a v.len v.cap v.sz):=o10.cell 0
  have hst:h13.store (C,0) [.slice v'.a v'.len v'.cap v'.sz]=some (h13.put C (.row [SL.av v',SL.av w] .own)):=o13.store1 (j:=0) (by show 0<2;omega) _
  rw [hst,need_some]
  simp only [k11,k10,r6,sameO_some,cond_true,guardB_true]
  have cp:=o13.put [SL.av v',SL.av w]
  have x13:=(x10.chgM c13 (fun A hA=>hA)).sub (X':=[]) (by simp)
  have x15:=x13.chgC o13 hC cp
  have ch13:Chg [P,C] h0 h13:=(ch6.trans (c10.mono (by simp))).step c13 (fun A hA hl=>by have:=hv A hA;omega)
  have ch15:=ch13.trans (cp.mono (N:=[P,C]) (by simp))
  have w2_13:OwV (fun A=>h0.next≤A∧v'.blk≠some A) h13 w 10 ys:=by
   have a1:OwV (fun A=>(h0.next≤A∧v.blk≠some A)∧A<h10.next) h10 w 10 ys:=w2_10.weak fun A hA hl=>⟨hA,hl⟩
   have a2:=a1.chg c13 (by intro A hA _ hm;exact hA.1.2 (by simpa using hm))
   exact a2.weak fun A hA _=>⟨hA.1.1,fun e=>by rcases hb13 A e with e | e;exact hA.1.2 e;omega⟩
  have hn13:=ch13.next
  have cr15:CrOK h0 (h13.put C (.row [SL.av v',SL.av w] .own)) C (xs++[(structS T pub at_ (σ2.1+1,none)).1]) ys:=⟨v',w,own_put o13 _,w1_13.chg cp (by intro A hA _;simp;omega),w2_13.chg cp (by intro A hA _;simp;omega)⟩
  obtain ⟨h21,e21,c21,pe⟩:=wrap_step (N:=N) x15 at_
  simp only [need_some,Nat.zero_add] at e21
  refine ⟨h21,e21,ch15.trans (c21.mono (by simp)),pe,?_⟩
  obtain ⟨v1,w1',o1,z1,z2⟩:=cr15
  exact ⟨v1,w1',o1.chg c21 (by simp;omega),z1.chg c21 (by intro A hA _;simp;omega),z2.chg c21 (by intro A hA _;simp;omega)⟩
 | false=>
 rw [optS_false hb] at x6 ⊢
 simp only [cond_false,Bool.false_eq_true,if_false]
 obtain ⟨h23,e23,c23,x23⟩:=f92_pc (N:=N) hT x6 (w:=[102,110]) (by decide)
 rw [e23,bind2_some]
 have cr23:=crStep c23 cr6
 have ch23:=ch6.trans (c23.mono (N:=[P,C]) (by simp))
 have hn23:=ch23.next
 cases hb2:(optS T [102,110] σ2).1 with
 | true=>
  obtain ⟨v,w,o6,w1,w2⟩:=cr23
  have hs:=(optS_none hb2).1
  rw [hs] at x23
  rw [hs]
  simp only [cond_true,if_true,need_some,Nat.zero_add]
  have r6:h23.cell (C,1)=some (.slice w.a w.len w.cap w.sz):=o6.cell 1
  simp only [r6,bindV_some,cast_slice]
  have hv:∀ A∈v.blk.toList,h0.next≤A∧A<h23.next:=fun A hA=>by have:=w1.ge A (by simpa using hA);exact ⟨this.1.1,this.2⟩
  have hw:∀ A∈w.blk.toList,h0.next≤A∧A<h23.next∧v.blk≠some A:=fun A hA=>by
   have:=w2.ge A (by simpa using hA);exact ⟨this.1.1,this.2,this.1.2⟩
  have y6:PC T P w.blk.toList h23 (σ2.1+1,none) st:=x23.free fun A hA=>by have:=hw A hA;omega
  obtain ⟨r,h10,e10,x10,c10,d10⟩:=f103_pc (N:=N) hT hN y6 pub at_
  rw [e10,bind2_some]
  have o10:=o6.chg c10 (by simp;omega)
  have w1_10:=w1.chg c10 (by intro A hA _;simp;omega)
  have w2_10:=w2.chg c10 (by intro A hA _;simp;omega)
  have hn10:=c10.next
  obtain ⟨w',h13,eA,w2_13,c13,hb13⟩:=append_owV (cs:=fux r) app23 (by decide) w2_10 (d10.weak fun A hA _=>⟨⟨by omega,fun e=>by have:=hv A (by simpa using e);omega⟩,fun e=>by have:=hw A (by simpa using e);omega⟩) rfl (fun A hA=>⟨by omega,fun e=>by have:=hv A (by simpa using e);omega⟩) (by omega)
  have eA':appendA E 23 23 (.slice w.a w.len w.cap w.sz) (.slice (some (h10.next,0)) 1 1 10) (h10.push (.row [(.bool r.1),(.str r.2.1),(.slice r.2.2.1.a r.2.2.1.len r.2.2.1.cap r.2.2.1.sz),(.slice r.2.2.2.1.a r.2.2.2.1.len r.2.2.2.1.cap r.2.2.2.1.sz),(.int .i64 r.2.2.2.2.1),(.str r.2.2.2.2.2.1),(.slice r.2.2.2.2.2.2.1.a r.2.2.2.2.2.2.1.len r.2.2.2.2.2.2.1.cap r.2.2.2.2.2.2.1.sz),(.slice r.2.2.2.2.2.2.2.1.a r.2.2.2.2.2.2.2.1.len r.2.2.2.2.2.2.2.1.cap r.2.2.2.2.2.2.2.1.sz),(.slice r.2.2.2.2.2.2.2.2.1.a r.2.2.2.2.2.2.2.2.1.len r.2.2.2.2.2.2.2.2.1.cap r.2.2.2.2.2.2.2.2.1.sz),(.int .i64 r.2.2.2.2.2.2.2.2.2.1)] .own))=some (.slice w'.a w'.len w'.cap w'.sz,h13):=eA
  rw [eA',bindT_some,cast_slice]
  have o13:=o10.chg c13 (fun hm=>by have:=hw C hm;omega)
  have o11:=o10.chg (chg_push h10 (.row (fux r) .own)) (by simp)
  have k11:(h10.push (.row [(.bool r.1),(.str r.2.1),(.slice r.2.2.1.a r.2.2.1.len r.2.2.1.cap r.2.2.1.sz),(.slice r.2.2.2.1.a r.2.2.2.1.len r.2.2.2.1.cap r.2.2.2.1.sz),(.int .i64 r.2.2.2.2.1),(.str r.2.2.2.2.2.1),(.slice r.2.2.2.2.2.2.1.a r.2.2.2.2.2.2.1.len r.2.2.2.2.2.2.1.cap r.2.2.2.2.2.2.1.sz),(.slice r.2.2.2.2.2.2.2.1.a r.2.2.2.2.2.2.2.1.len r.2.2.2.2.2.2.2.1.cap r.2.2.2.2.2.2.2.1.sz),(.slice r.2.2.2.2.2.2.2.2.1.a r.2.2.2.2.2.2.2.2.1.len r.2.2.2.2.2.2.2.2.1.cap r.2.2.2.2.2.2.2.2.1.sz),(.int .i64 r.2.2.2.2.2.2.2.2.2.1)] .own)).cell (C,1)=some (.slice w.a w.len w.cap w.sz):=o11.cell 1
  have k10:h10.cell (C,1)=some (.slice w.a w.len w.cap w.sz):=o10.cell 1
  have hst:h13.store (C,1) [.slice w'.a w'.len w'.cap w'.sz]=some (h13.put C (.row [SL.av v,SL.av w'] .own)):=o13.store1 (j:=1) (by show 1<2;omega) _
  rw [hst,need_some]
  simp only [k11,k10,r6,sameO_some,cond_true,guardB_true]
  have cp:=o13.put [SL.av v,SL.av w']
  have x13:=(x10.chgM c13 (fun A hA=>hA)).sub (X':=[]) (by simp)
  have x15:=x13.chgC o13 hC cp
  have ch13:Chg [P,C] h0 h13:=(ch23.trans (c10.mono (by simp))).step c13 (fun A hA hl=>by have:=hw A hA;omega)
  have ch15:=ch13.trans (cp.mono (N:=[P,C]) (by simp))
  have w1_13:OwV (fun A=>h0.next≤A∧w'.blk≠some A) h13 v 5 xs:=by
   have a1:OwV (fun A=>(h0.next≤A∧w.blk≠some A)∧A<h10.next) h10 v 5 xs:=w1_10.weak fun A hA hl=>⟨hA,hl⟩
   have a2:=a1.chg c13 (by intro A hA _ hm;exact hA.1.2 (by simpa using hm))
   exact a2.weak fun A hA _=>⟨hA.1.1,fun e=>by rcases hb13 A e with e | e;exact hA.1.2 e;omega⟩
  have hn13:=ch13.next
  have cr15:CrOK h0 (h13.put C (.row [SL.av v,SL.av w'] .own)) C xs (ys++[(funcS T pub at_ (σ2.1+1,none)).1]):=⟨v,w',own_put o13 _,w1_13.chg cp (by intro A hA _;simp;omega),w2_13.chg cp (by intro A hA _;simp;omega)⟩
  obtain ⟨h21,e21,c21,pe⟩:=wrap_step (N:=N) x15 at_
  simp only [need_some,Nat.zero_add] at e21
  refine ⟨h21,e21,ch15.trans (c21.mono (by simp)),pe,?_⟩
  obtain ⟨v1,w1',o1,z1,z2⟩:=cr15
  exact ⟨v1,w1',o1.chg c21 (by simp;omega),z1.chg c21 (by intro A hA _;simp;omega),z2.chg c21 (by intro A hA _;simp;omega)⟩
 | false=>
  rw [optS_false hb2] at x23 ⊢
  simp only [cond_false,Bool.false_eq_true,if_false]
  obtain ⟨h40,e40,c40,x40⟩:=f57_pc (N:=N) x23 (c:=21) (by decide)
  rw [e40,bind2_some]
  obtain ⟨v,k3,hv⟩:=x40.pa.readE
  refine ⟨h40,rfl,ch23.trans (c40.mono (by simp)),⟨⟨v,k3,?_⟩,fun he=>?_⟩,crStep c40 cr23⟩
  ·cases hh:(failS T 21 σ2).2 with
   | none=>rw [hh] at hv;exact hv
   | some q=>
    rw [hh] at hv
    obtain ⟨A,g1,_,g3⟩:=hv
    exact ⟨A,g1,g3⟩
  ·have:=failS_isSome T 21 σ2
   cases hh:(failS T 21 σ2).2 with
   | none=>rw [hh] at this;cases this
   | some q=>rw [hh] at he;cases he
end
end Go.Proofs.YtkcjphhjmlienaaGreatDoor.Qp

set_option linter.unusedVariables false
set_option linter.unusedSimpArgs false
open Go Go.Proofs.YtkcjphhjmlienaaGreatDoor.Ai Go.Proofs
namespace Go.Proofs.YtkcjphhjmlienaaGreatDoor.Qp
def itemsS (T:List Tok):Nat→Nat→(List D×List D)×Er3
 | 0,i=>if (tk T i).1=0 then (([],[]),none) else (([],[]),flatS (failS T 5 (i,none)).2)
 | f+1,i=>if (tk T i).1=0 then (([],[]),none) else
  let z:=itemS T (i,none)
  match z.e with
  | some q=>(([],[]),some q)
  | none=>let r:=itemsS T f z.i;((addX z.d []++r.1.1,addY z.d []++r.1.2),r.2)
def crateT (T:List Tok):(List D×List D)×Er3:=
 let r:=itemsS T 256 0
 match r.2 with
 | some q=>(([],[]),some q)
 | none=>(r.1,none)
def crateS (N:Nat) (s:Bs):(List D×List D)×Er3:=match lexT N s with
 | .inr a=>(([],[]),some (20,(a:Int),none))
 | .inl T=>crateT T
theorem addX_app (d:Option (Bool×D)) (xs:List D):addX d xs=xs++addX d []:=by
 unfold addX;split <;> simp
theorem addY_app (d:Option (Bool×D)) (ys:List D):addY d ys=ys++addY d []:=by
 unfold addY;split <;> simp
theorem addX_len (d:Option (Bool×D)) (xs:List D):(addX d xs).length≤xs.length+1:=by
 unfold addX;split <;> simp
theorem addY_len (d:Option (Bool×D)) (ys:List D):(addY d ys).length≤ys.length+1:=by
 unfold addY;split <;> simp
section
variable {N:Nat} {T:List Tok} {P:Nat} {X:List Nat} {h:Heap} {σ:St} {st:Int}
theorem ErrW.eq {h:Heap} {v:AV} {e:Er3} (x:ErrW h v e) (k:Nat):binA E .eql 29 (.tmp k) (.const .nilIface) v AV.nilIface=some (.bool e.isNone):=by
 match e with
 | none=>rw [show v=AV.nilIface from x];exact eq_nil k
 | some (c,a,none)=>obtain ⟨A,h1,_⟩:=x;rw [h1];exact eq_fault k _
 | some (c,a,some b)=>obtain ⟨A,B,h1,_⟩:=x;rw [h1];exact eq_fault k _
theorem ErrW.ne {h:Heap} {v:AV} {e:Er3} (x:ErrW h v e) (k:Nat):binA E .neq 29 (.tmp k) (.const .nilIface) v AV.nilIface=some (.bool e.isSome):=by
 match e with
 | none=>rw [show v=AV.nilIface from x];exact ne_nil k
 | some (c,a,none)=>obtain ⟨A,h1,_⟩:=x;rw [h1];exact ne_fault k _
 | some (c,a,some b)=>obtain ⟨A,B,h1,_⟩:=x;rw [h1];exact ne_fault k _
theorem PE.of (x:PC T P X h σ st) (hx:σ.2.isSome=true):PE T P h σ.1 (flatS σ.2):=by
 obtain ⟨v,k3,hv⟩:=x.pa.readE
 refine ⟨⟨v,k3,?_⟩,fun he=>?_⟩
 ·cases hh:σ.2 with
  | none=>rw [hh] at hv;exact hv
  | some q=>
   rw [hh] at hv
   obtain ⟨A,g1,_,g3⟩:=hv
   exact ⟨A,g1,g3⟩
 ·cases hh:σ.2 with
  | none=>rw [hh] at hx;cases hx
  | some q=>rw [hh] at he;cases he
theorem items_loop (hT:Toks T) (hN:3000≤N) {h0:Heap} {C:Nat} {R:Option (Nat×Nat)} (hC:C<P∧4≤C) (hP0:P<h0.next):∀ (f M:Nat) (h:Heap) (i:Nat) (st:Int) (xs ys:List D),f+1<M→f≤256→xs.length+f≤256→ys.length+f≤256→PC T P [] h (i,none) st→Chg [P,C] h0 h→CrOK h0 h C xs ys→
  ∃ h' xs' ys',f27_l1 N M R (some (C,0)) (some (P,0)) ((256-f:Nat):Int) h=some (.exit 0,(R,some (C,0),some (P,0),()),h')∧Chg [P,C] h0 h'∧CrOK h0 h' C xs' ys'∧(∃ v,h'.cell (P,3)=some v∧ErrW h' v (itemsS T f i).2)∧((itemsS T f i).2=none→xs'=xs++(itemsS T f i).1.1∧ys'=ys++(itemsS T f i).1.2):=by
 intro f
 induction f with
 | zero=>
  intro M h i st xs ys hM hf hx hy x ch cr
  obtain ⟨M,rfl⟩:∃ m,M=m+1:=⟨M-1,by omega⟩
  rw [f27_l1_succ]
  unfold f27_l1_b
  obtain ⟨v,k3,hv⟩:=x.pa.readE
  have hv:v=AV.nilIface:=hv
  subst hv
  simp only [need_some,Nat.zero_add,k3,bindV_some,cast_any,eq_nil,cast_bool,cond_true]
  obtain ⟨h13,e13,c13⟩:=f56_eq (N:=N) x.pa
  rw [e13,bind2_some]
  have x13:=x.chg c13
  have ch13:=ch.trans (c13.mono (N:=[P,C]) (by simp))
  have crS:∀ {h1 h2:Heap},Chg [P] h1 h2→CrOK h0 h1 C xs ys→CrOK h0 h2 C xs ys:=by
   rintro h1 h2 c ⟨v,w,o,w1,w2⟩
   exact ⟨v,w,o.chg c (by simp;omega),w1.chg c (by intro A hA _;simp;omega),w2.chg c (by intro A hA _;simp;omega)⟩
  have cr13:=crS (c13.mono (by simp)) cr
  simp only [ttOf,eqI,itemsS]
  by_cases q:(tk T i).1=0
  ·simp only [q,decide_true,Bool.not_true,cond_false,if_true]
   obtain ⟨v,k3,hv⟩:=x13.pa.readE
   exact ⟨h13,xs,ys,rfl,ch13,cr13,⟨v,k3,hv⟩,fun _=>⟨by simp,by simp⟩⟩
  ·simp only [q,decide_false,Bool.not_false,cond_true,if_false,show decide (((256-0:Nat):Int)=256)=true from rfl]
   obtain ⟨h17,e17,c17,x17⟩:=f57_pc (N:=N) x13 (c:=5) (by decide)
   rw [e17,bind2_some]
   have pe:=PE.of x17 (failS_isSome T 5 (i,none))
   exact ⟨h17,xs,ys,rfl,ch13.trans (c17.mono (by simp)),crS c17 cr13,pe.1,fun h=>by cases h⟩
 | succ f ih=>
  intro M h i st xs ys hM hf hx hy x ch cr
  obtain ⟨M,rfl⟩:∃ m,M=m+1:=⟨M-1,by omega⟩
  rw [f27_l1_succ]
  unfold f27_l1_b
  obtain ⟨v,k3,hv⟩:=x.pa.readE
  have hv:v=AV.nilIface:=hv
  subst hv
  simp only [need_some,Nat.zero_add,k3,bindV_some,cast_any,eq_nil,cast_bool,cond_true]
  obtain ⟨h13,e13,c13⟩:=f56_eq (N:=N) x.pa
  rw [e13,bind2_some]
  have x13:=x.chg c13
  have ch13:=ch.trans (c13.mono (N:=[P,C]) (by simp))
  have crS:∀ {h1 h2:Heap},Chg [P] h1 h2→CrOK h0 h1 C xs ys→CrOK h0 h2 C xs ys:=by
   rintro h1 h2 c ⟨v,w,o,w1,w2⟩
   exact ⟨v,w,o.chg c (by simp;omega),w1.chg c (by intro A hA _;simp;omega),w2.chg c (by intro A hA _;simp;omega)⟩
  have cr13:=crS (c13.mono (by simp)) cr
  simp only [ttOf,eqI,itemsS]
  by_cases q:(tk T i).1=0
  ·simp only [q,decide_true,Bool.not_true,cond_false,if_true]
   obtain ⟨v,k3,hv⟩:=x13.pa.readE
   exact ⟨h13,xs,ys,rfl,ch13,cr13,⟨v,k3,hv⟩,fun _=>⟨by simp,by simp⟩⟩
  ·have hne:decide (((256-(f+1):Nat):Int)=256)=false:=decide_eq_false (by omega)
   simp only [q,decide_false,Bool.not_false,cond_true,if_false,hne,cond_false]
   obtain ⟨h19,e19,ch19,pe,cr19⟩:=f63_pc (N:=N) hT hN x13 hC hP0 ch13 cr13 (by omega) (by omega)
   rw [e19,bind2_some]
   rw [wrap_succ (by omega),show 256-(f+1)+1=256-f by omega]
   generalize itemS T (i,none)=z at *
   cases he:z.e with
   | some q=>
    rw [he] at pe
    obtain ⟨⟨v,k3,hv⟩,_⟩:=pe
    -- the loop ends at once
    obtain ⟨M,rfl⟩:∃ m,M=m+1:=⟨M-1,by omega⟩
    rw [f27_l1_succ]
    unfold f27_l1_b
    simp only [need_some,Nat.zero_add,k3,bindV_some,cast_any,hv.eq 24,cast_bool,Option.isNone_some,cond_false]
    exact ⟨h19,_,_,rfl,ch19,cr19,⟨v,k3,hv⟩,fun h=>by cases h⟩
   | none=>
    obtain ⟨st',x19⟩:=pe.2 he
    have l1:=addX_len z.d xs
    have l2:=addY_len z.d ys
    obtain ⟨h',xs',ys',e',ch',cr',er',hres⟩:=ih M h19 z.i st' (addX z.d xs) (addY z.d ys) (by omega) (by omega) (by omega) (by omega) x19 ch19 cr19
    refine ⟨h',xs',ys',e',ch',cr',er',fun h=>?_⟩
    obtain ⟨h1,h2⟩:=hres h
    rw [addX_app] at h1
    rw [addY_app] at h2
    exact ⟨by rw [h1,List.append_assoc],by rw [h2,List.append_assoc]⟩
abbrev CrV:=SL×SL×Unit
theorem aggC {β:Type} (r:CrV) (K:CrV→Option β):bindV (.val (.agg [.slice,.slice])) (some (.agg [SL.av r.1,SL.av r.2.1])) K=K r:=by
 obtain ⟨x1,x2,_⟩:=r
 simp [SL.av]
theorem cellsC {H:Heap} {A:Nat} {v w:SL} (o:H.own A [SL.av v,SL.av w]) {β:Type} (K:CrV→Option β):bindV (.val (.agg [.slice,.slice])) (H.cells (A,0) 2) K=K (v,w,()):=by
 have:H.cells (A,0) 2=some (.agg [SL.av v,SL.av w]):=o.cells (j:=0) (m:=2) (Nat.le_refl _)
 rw [this,aggC (v,w,())]
theorem f27_eq {s:Bs} (hs:s.length≤1000000) (hN:s.length<N) (hN2:3000≤N) (hp:Qw.pinned h=true) (h4:4≤h.next) :
  ∃ v w e h',f27 N s h=some (((v,w,()),e,()),h')∧Chg [] h h'∧Sl h' (fun A=>h.next≤A) v (crateS N s).1.1∧Sl h' (fun A=>h.next≤A) w (crateS N s).1.2∧ErrW h' e (crateS N s).2:=by
 unfold f27 crateS
 have o1:=own_push h [SL.av sl0,SL.av sl0]
 have c1:=chg_push h (.row [SL.av sl0,SL.av sl0] .own)
 have e1:h.push (.row [(.slice none 0 0 0),(.slice none 0 0 0)] .own)=h.push (.row [SL.av sl0,SL.av sl0] .own):=rfl
 have n1:(h.push (.row [SL.av sl0,SL.av sl0] .own)).next=h.next+1:=rfl
 rw [e1]
 generalize h.push (.row [SL.av sl0,SL.av sl0] .own)=h1 at *
 dsimp only
 obtain ⟨r2,h3,e3,c3,p3⟩:=f54_eq (by omega) hN (by omega) h1
 rw [e3,bind2_some]
 have o3:=o1.chg c3 (by simp)
 have c03:=c1.trans c3
 have hn3:=c3.next
 cases hl:lexT N s with
 | inr a=>
  rw [hl] at p3
  obtain ⟨F,f1,f2⟩:=p3
  rw [f1,ne_fault]
  simp only [bindV_some,cast_bool,cond_true]
  have hne:=own_ne o3 f2 (by show (2:Nat)≠3;decide)
  have cp:=o3.put [SL.av sl0,SL.av sl0]
  have hst:h3.store (h.next,0) [(.slice none 0 0 0),(.slice none 0 0 0)]=some (h3.put h.next (.row [SL.av sl0,SL.av sl0] .own)):=o3.store rfl
  rw [hst,need_some,cellsC (own_put o3 _)]
  exact ⟨sl0,sl0,_,_,rfl,c03.put (.inr (Nat.le_refl _)) _,Sl.nil _ _ _,Sl.nil _ _ _,F,rfl,f2.chg cp (by simpa using fun e=>hne e.symm)⟩
 | inl T=>
  rw [hl] at p3
  obtain ⟨pe,po,pl⟩:=p3
  obtain ⟨hT,hT0⟩:=lexT_toks (by omega) hl (by omega)
  rw [pe,ne_nil]
  simp only [bindV_some,cast_bool,cond_false]
  have sl3:=po.sl
  have hz:r2.1.sz=3:=by
   rcases po with ⟨_,_,_,h4⟩ | ⟨A,cs,st',vs,_,h2,_⟩
   ·have:T.length=0:=by rw [← List.length_map (f:=tokD),h4];rfl
    omega
   ·exact h2
  have oC:=own_push h3 [SL.av sl0,SL.av sl0]
  have cC:=chg_push h3 (.row [SL.av sl0,SL.av sl0] .own)
  have eC:h3.push (.row [(.slice none 0 0 0),(.slice none 0 0 0)] .own)=h3.push (.row [SL.av sl0,SL.av sl0] .own):=rfl
  have nC:(h3.push (.row [SL.av sl0,SL.av sl0] .own)).next=h3.next+1:=rfl
  rw [eC]
  have o7:=o3.chg cC (by simp)
  have sl7:=(sl3.weak (W:=fun A=>A<h3.next) (fun C _ hlt=>hlt)).chg cC (by simp)
  generalize h3.push (.row [SL.av sl0,SL.av sl0] .own)=h7 at *
  have oP:=own_push h7 [SL.av r2.1,.int .i64 0,.int .i64 0,AV.nilIface]
  have cP:=chg_push h7 (.row [SL.av r2.1,.int .i64 0,.int .i64 0,AV.nilIface] .own)
  have eP:h7.push (.row [(.slice r2.1.a r2.1.len r2.1.cap r2.1.sz),(.int .i64 0),(.int .i64 0),AV.nilIface] .own)=h7.push (.row [SL.av r2.1,.int .i64 0,.int .i64 0,AV.nilIface] .own):=rfl
  have nP:(h7.push (.row [SL.av r2.1,.int .i64 0,.int .i64 0,AV.nilIface] .own)).next=h7.next+1:=rfl
  rw [eP]
  have oC8:=oC.chg cP (by simp)
  have o8:=o7.chg cP (by simp)
  have c08:=(c03.trans cC).trans cP
  have p8:=pin_chg c08 (by simp) h4 hp
  have sl8:=(sl7.weak (W:=fun A=>A<h7.next) (fun A hA _=>by omega)).chg cP (by simp)
  generalize h7.push (.row [SL.av r2.1,.int .i64 0,.int .i64 0,AV.nilIface] .own)=h8 at *
  have x8:PC T h7.next [] h8 (0,none) 0:=⟨⟨⟨r2.1,AV.nilIface,oP,sl8,hz,rfl⟩,hT0,by simp⟩,p8,by omega⟩
  have cr8:CrOK h8 h8 h3.next [] []:=⟨sl0,sl0,oC8,OwV.nil _ _ _ _,OwV.nil _ _ _ _⟩
  obtain ⟨h23,xs',ys',e23,c23,⟨v,w,o23,w1,w2⟩,⟨er,k23,her⟩,hres⟩:=items_loop (N:=N) hT hN2 (R:=some (h.next,0)) (C:=h3.next) (P:=h7.next) (by omega) (by omega) 256 N h8 0 0 [] [] (by omega) (Nat.le_refl _) (by simp) (by simp) x8 (Chg.refl _ _) cr8
  rw [show ((256-256:Nat):Int)=0 from rfl] at e23
  rw [e23]
  simp only [bind3_some,need_some,Nat.zero_add,k23,bindV_some,cast_any,her.ne 43,cast_bool,crateT]
  have o23':=o8.chg c23 (by simp;omega)
  have c023:Chg [] h h23:=c08.step c23 (fun A hA hl=>by simp only [List.mem_cons,List.not_mem_nil,or_false] at hA;omega)
  have hn8:=c23.next
  have herC:∀ {hh:Heap} {vs:List AV},Chg [h.next] h23 hh→ErrW hh er (itemsS T 256 0).2:=fun c=>her.chg c fun A hA=>by
   rw [List.mem_singleton] at hA;subst hA
   exact ⟨_,_,o23',fun n=>by simp [SL.av]⟩
  cases he:(itemsS T 256 0).2 with
  | some q=>
   simp only [Option.isSome_some,cond_true]
   have hst:h23.store (h.next,0) [(.slice none 0 0 0),(.slice none 0 0 0)]=some (h23.put h.next (.row [SL.av sl0,SL.av sl0] .own)):=o23'.store rfl
   rw [hst,need_some]
   have cp:=o23'.put [SL.av sl0,SL.av sl0]
   have hPP:∀ x,h23.cell (h7.next,3)=some x→(h23.put h.next (.row [SL.av sl0,SL.av sl0] .own)).cell (h7.next,3)=some x:=by
    intro x hx
    rw [Heap.cell_g,cp.g h7.next (by have:=c23.next;omega) (by simp;omega),← Heap.cell_g];exact hx
   rw [hPP _ k23]
   simp only [sameO_some,cond_true,guardB_true]
   rw [cellsC (own_put o23' _)]
   exact ⟨sl0,sl0,er,_,rfl,c023.put (.inr (Nat.le_refl _)) _,Sl.nil _ _ _,Sl.nil _ _ _,by rw [← he];exact herC (vs:=[]) cp⟩
  | none=>
   obtain ⟨hx1,hy1⟩:=hres he
   rw [List.nil_append] at hx1 hy1
   subst hx1;subst hy1
   simp only [Option.isSome_none,cond_false]
   rw [cellsC o23]
   have hst:h23.store (h.next,0) [(.slice v.a v.len v.cap v.sz),(.slice w.a w.len w.cap w.sz)]=some (h23.put h.next (.row [SL.av v,SL.av w] .own)):=o23'.store rfl
   rw [hst,need_some,cellsC (own_put o23' _)]
   have cp:=o23'.put [SL.av v,SL.av w]
   refine ⟨v,w,AV.nilIface,_,rfl,c023.put (.inr (Nat.le_refl _)) _,?_,?_,rfl⟩
   ·exact (w1.sl.chg cp (fun A hA=>by have:=hA.1;simp;omega)).weak fun A hA _=>by have:=hA.1;omega
   ·exact (w2.sl.chg cp (fun A hA=>by have:=hA.1;simp;omega)).weak fun A hA _=>by have:=hA.1;omega
end
end Go.Proofs.YtkcjphhjmlienaaGreatDoor.Qp

set_option linter.unusedVariables false
set_option linter.unusedSimpArgs false
open Go Go.Proofs.YtkcjphhjmlienaaGreatDoor.Ai Go.Proofs
namespace Go.Proofs.YtkcjphhjmlienaaGreatDoor.Qp
structure Cut (T' T:List Tok) (E:Nat) (Bd:Int×Int→Prop):Prop where
 k:(tk T' E).1=0
 lt:∀ i,i<E→tk T' i=tk T i
 bad:Bd (21,((tk T' E).2.2:Int))
def bnd {σ α β:Type} (f:σ→α×σ) (g:α→σ→β×σ):σ→β×σ:=fun s=>g (f s).1 (f s).2
def mapR {σ α β:Type} (h:α→β) (f:σ→α×σ):σ→β×σ:=fun s=>(h (f s).1,(f s).2)
def retF {σ α:Type} (x:α):σ→α×σ:=fun s=>(x,s)
section
variable {α β γ:Type} {σ:Type} (st:σ→St) (inv:σ→Prop) (E:Nat) (Bd:Int×Int→Prop)
def ErrB (s:σ):Prop:=∃ j e,st s=(j,some e)∧Bd e
def Dead (F:σ→α×σ):Prop:=∀ s,(st (F s).2).2.isSome=true
def AtE (s:σ):Prop:=st s=(E,none)∧inv s
def RA (F' F:σ→α×σ) (s:σ):Prop:=F' s=F s∧(st (F s).2).2=none∧(st (F s).2).1≤E∧inv (F s).2
def RB (F' F:σ→α×σ) (s:σ):Prop:=∃ j e,st (F' s).2=(j,some e)∧((st (F s).2).2.isSome=true∨Bd e)
structure GD (F' F:σ→α×σ):Prop where
 e':∀ s,(st s).2.isSome=true→st (F' s).2=st s
 e:∀ s,(st s).2.isSome=true→st (F s).2=st s
 c:∀ s,AtE st inv E s→AtE st inv E (F' s).2∨ErrB st Bd (F' s).2∨((st (F' s).2).2.isSome=true∧Dead st F)
 a:∀ s,(st s).2=none→(st s).1<E→inv s→RA st inv E F' F s∨RB st Bd F' F s∨AtE st inv E (F' s).2
structure G (F' F:σ→α×σ):Prop extends GD st inv E Bd F' F where
 c1:∀ s,AtE st inv E s→AtE st inv E (F' s).2∨ErrB st Bd (F' s).2
def TE (F':σ→α×σ):Prop:=∀ s,st s=(E,none)→ErrB st Bd (F' s).2
def SE (F' F:σ→α×σ):Prop:=∀ s,(st s).2=none→(st s).1<E→inv s→RA st inv E F' F s∨RB st Bd F' F s
end
section
variable {α β γ:Type} {σ:Type} {st:σ→St} {inv:σ→Prop} {E:Nat} {Bd:Int×Int→Prop}
theorem ErrB.some {s:σ} (h:ErrB st Bd s):(st s).2.isSome=true:=by
 obtain ⟨j,e,h1,_⟩:=h;rw [h1];rfl
theorem isS_pair {τ:St} (h:τ.2.isSome=true):∃ j e,τ=(j,some e):=by
 obtain ⟨j,o⟩:=τ
 cases o with
 | none=>cases h
 | some e=>exact ⟨j,e,rfl⟩
theorem GD.dead_bnd {f:σ→α×σ} {g:α→σ→β×σ} (hf:Dead st f) (hg:∀ x s,(st s).2.isSome=true→st (g x s).2=st s):Dead st (bnd f g):=fun s=>by
 show (st (g (f s).1 (f s).2).2).2.isSome=true
 rw [hg _ _ (hf s)];exact hf s
theorem G.mk' {F' F:σ→α×σ} (e':∀ s,(st s).2.isSome=true→st (F' s).2=st s) (e:∀ s,(st s).2.isSome=true→st (F s).2=st s) (c:∀ s,AtE st inv E s→AtE st inv E (F' s).2∨ErrB st Bd (F' s).2) (a:∀ s,(st s).2=none→(st s).1<E→inv s→RA st inv E F' F s∨RB st Bd F' F s∨AtE st inv E (F' s).2):G st inv E Bd F' F:=
 ⟨⟨e',e,fun s h=>(c s h).elim .inl fun h=>.inr (.inl h),a⟩,c⟩
theorem ret_G (x:α):G st inv E Bd (retF x) (retF x):=G.mk' (fun _ _=>rfl) (fun _ _=>rfl) (fun s h=>.inl h) (fun s h1 h2 h3=>.inl ⟨rfl,h1,Nat.le_of_lt h2,h3⟩)
theorem RB.of_err {F' F:σ→α×σ} {s:σ} (h:ErrB st Bd (F' s).2):RB st Bd F' F s:=by
 obtain ⟨j,e,h1,h2⟩:=h;exact ⟨j,e,h1,.inr h2⟩
theorem RB.of_dead {F' F:σ→α×σ} {s:σ} (h:(st (F' s).2).2.isSome=true) (hd:(st (F s).2).2.isSome=true):RB st Bd F' F s:=by
 obtain ⟨j,e,h1⟩:=isS_pair h;exact ⟨j,e,h1,.inl hd⟩
theorem bnd_a {f' f:σ→α×σ} {g' g:α→σ→β×σ} (hf:GD st inv E Bd f' f) (hg:∀ x,GD st inv E Bd (g' x) (g x)) (hd:(∀ x,G st inv E Bd (g' x) (g x))∨(∀ x y,Dead st (g x)→Dead st (g y))) (s:σ) (h1:(st s).2=none) (h2:(st s).1<E) (h3:inv s) :
  RA st inv E (bnd f' g') (bnd f g) s∨RB st Bd (bnd f' g') (bnd f g) s∨AtE st inv E (bnd f' g' s).2:=by
 rcases hf.a s h1 h2 h3 with ⟨q1,q2,q3,q4⟩ | ⟨j,e,q1,q2⟩ | q
 ·have ee:bnd f' g' s=g' (f s).1 (f s).2:=by unfold bnd;rw [q1]
  by_cases q5:(st (f s).2).1<E
  ·rcases (hg (f s).1).a (f s).2 q2 q5 q4 with ⟨r1,r2⟩ | ⟨j,e,r1,r2⟩ | r
   ·exact .inl ⟨by rw [ee];exact r1,r2⟩
   ·exact .inr (.inl ⟨j,e,by rw [ee];exact r1,r2⟩)
   ·exact .inr (.inr (by rw [ee];exact r))
  ·have hE:AtE st inv E (f s).2:=⟨Prod.ext (by show _=E;omega) q2,q4⟩
   rcases (hg (f s).1).c (f s).2 hE with r | r | ⟨r,rd⟩
   ·exact .inr (.inr (by rw [ee];exact r))
   ·exact .inr (.inl (RB.of_err (by rw [ee];exact r)))
   ·exact .inr (.inl (RB.of_dead (by rw [ee];exact r) (rd _)))
 ·have r1:=(hg (f' s).1).e' (f' s).2 (by rw [q1];rfl)
  refine .inr (.inl ⟨j,e,by show st (g' (f' s).1 (f' s).2).2=_;rw [r1,q1],?_⟩)
  rcases q2 with q2 | q2
  ·left;show (st (g (f s).1 (f s).2).2).2.isSome=true
   rw [(hg (f s).1).e (f s).2 q2];exact q2
  ·exact .inr q2
 ·rcases hd with hd | hd
  ·rcases (hd (f' s).1).c1 (f' s).2 q with r | r
   ·exact .inr (.inr r)
   ·exact .inr (.inl (RB.of_err r))
  ·rcases (hg (f' s).1).c (f' s).2 q with r | r | ⟨r,rd⟩
   ·exact .inr (.inr r)
   ·exact .inr (.inl (RB.of_err r))
   ·exact .inr (.inl (RB.of_dead r (hd _ _ rd _)))
theorem bnd_e {f:σ→α×σ} {g:α→σ→β×σ} (hf:∀ s,(st s).2.isSome=true→st (f s).2=st s) (hg:∀ x s,(st s).2.isSome=true→st (g x s).2=st s) (s:σ) (h:(st s).2.isSome=true):st (bnd f g s).2=st s:=by
 show st (g (f s).1 (f s).2).2=st s
 rw [hg _ _ (by rw [hf s h];exact h),hf s h]
theorem G.bnd {f' f:σ→α×σ} {g' g:α→σ→β×σ} (hf:G st inv E Bd f' f) (hg:∀ x,G st inv E Bd (g' x) (g x)):G st inv E Bd (bnd f' g') (bnd f g):=
 G.mk' (bnd_e hf.e' fun x=>(hg x).e') (bnd_e hf.e fun x=>(hg x).e) (fun s h=>by
  rcases hf.c1 s h with q | ⟨j,e,q1,q2⟩
  ·exact (hg (f' s).1).c1 _ q
  ·exact .inr ⟨j,e,by show st (g' (f' s).1 (f' s).2).2=_;rw [(hg (f' s).1).e' _ (by rw [q1];rfl),q1],q2⟩)
  (bnd_a hf.toGD (fun x=>(hg x).toGD) (.inl hg))
theorem GD.bndG {f' f:σ→α×σ} {g' g:α→σ→β×σ} (hf:GD st inv E Bd f' f) (hg:∀ x,G st inv E Bd (g' x) (g x)):GD st inv E Bd (Qp.bnd f' g') (Qp.bnd f g):=
 ⟨bnd_e hf.e' fun x=>(hg x).e',bnd_e hf.e fun x=>(hg x).e,fun s h=>by
  rcases hf.c s h with q | ⟨j,e,q1,q2⟩ | ⟨q1,q2⟩
  ·exact ((hg (f' s).1).c1 _ q).elim .inl fun h=>.inr (.inl h)
  ·exact .inr (.inl ⟨j,e,by show st (g' (f' s).1 (f' s).2).2=_;rw [(hg (f' s).1).e' _ (by rw [q1];rfl),q1],q2⟩)
  ·exact .inr (.inr ⟨by show (st (g' (f' s).1 (f' s).2).2).2.isSome=true;rw [(hg (f' s).1).e' _ q1];exact q1,GD.dead_bnd q2 fun x=>(hg x).e⟩),
  bnd_a hf (fun x=>(hg x).toGD) (.inl hg)⟩
theorem GD.bndD {f' f:σ→α×σ} {g' g:α→σ→β×σ} (hf:GD st inv E Bd f' f) (hg:∀ x,GD st inv E Bd (g' x) (g x)) (hd:∀ x y,Dead st (g x)→Dead st (g y)):GD st inv E Bd (Qp.bnd f' g') (Qp.bnd f g):=
 ⟨bnd_e hf.e' fun x=>(hg x).e',bnd_e hf.e fun x=>(hg x).e,fun s h=>by
  rcases hf.c s h with q | ⟨j,e,q1,q2⟩ | ⟨q1,q2⟩
  ·rcases (hg (f' s).1).c _ q with r | r | ⟨r,rd⟩
   ·exact .inl r
   ·exact .inr (.inl r)
   ·exact .inr (.inr ⟨r,fun s=>hd _ _ rd _⟩)
  ·exact .inr (.inl ⟨j,e,by show st (g' (f' s).1 (f' s).2).2=_;rw [(hg (f' s).1).e' _ (by rw [q1];rfl),q1],q2⟩)
  ·exact .inr (.inr ⟨by show (st (g' (f' s).1 (f' s).2).2).2.isSome=true;rw [(hg (f' s).1).e' _ q1];exact q1,GD.dead_bnd q2 fun x=>(hg x).e⟩),
  bnd_a hf hg (.inr hd)⟩
theorem G.map {f' f:σ→α×σ} (hf:G st inv E Bd f' f) (h:α→β):G st inv E Bd (mapR h f') (mapR h f):=G.bnd (g':=fun x=>retF (h x)) (g:=fun x=>retF (h x)) hf fun x=>ret_G _
theorem GD.map {f' f:σ→α×σ} (hf:GD st inv E Bd f' f) (h:α→β):GD st inv E Bd (mapR h f') (mapR h f):=GD.bndG (g':=fun x=>retF (h x)) (g:=fun x=>retF (h x)) hf fun x=>ret_G _
theorem GD.seq {f' f:σ→α×σ} {g' g:σ→β×σ} (hf:GD st inv E Bd f' f) (hg:GD st inv E Bd g' g) (h:α→β→γ):GD st inv E Bd (Qp.bnd f' fun x=>mapR (h x) g') (Qp.bnd f fun x=>mapR (h x) g):=
 GD.bndD hf (fun x=>hg.map (h x)) fun x y hd=>hd
theorem TE.left {f':σ→α×σ} {g':α→σ→β×σ} (hf:TE st E Bd f') (hg:∀ x s,(st s).2.isSome=true→st (g' x s).2=st s):TE st E Bd (bnd f' g'):=fun s h=>by
 obtain ⟨j,e,q1,q2⟩:=hf s h
 exact ⟨j,e,by show st (g' (f' s).1 (f' s).2).2=_;rw [hg _ _ (by rw [q1];rfl),q1],q2⟩
theorem TE.right {f' f:σ→α×σ} {g':α→σ→β×σ} (hi:∀ s,inv s) (hf:G st inv E Bd f' f) (ht:∀ x,TE st E Bd (g' x)) (hg:∀ x s,(st s).2.isSome=true→st (g' x s).2=st s):TE st E Bd (bnd f' g'):=fun s h=>by
 rcases hf.c1 s ⟨h,hi s⟩ with q | ⟨j,e,q1,q2⟩
 ·exact ht _ _ q.1
 ·exact ⟨j,e,by show st (g' (f' s).1 (f' s).2).2=_;rw [hg _ _ (by rw [q1];rfl),q1],q2⟩
theorem SE.bnd {f' f:σ→α×σ} {g' g:α→σ→β×σ} (hf:G st inv E Bd f' f) (hg:∀ x,G st inv E Bd (g' x) (g x)) (hs:∀ x,SE st inv E Bd (g' x) (g x)) (ht:∀ x,TE st E Bd (g' x)):SE st inv E Bd (Qp.bnd f' g') (Qp.bnd f g):=fun s h1 h2 h3=>by
 rcases hf.a s h1 h2 h3 with ⟨q1,q2,q3,q4⟩ | ⟨j,e,q1,q2⟩ | q
 ·have ee:Qp.bnd f' g' s=g' (f s).1 (f s).2:=by unfold Qp.bnd;rw [q1]
  by_cases q5:(st (f s).2).1<E
  ·rcases hs (f s).1 (f s).2 q2 q5 q4 with ⟨r1,r2⟩ | ⟨j,e,r1,r2⟩
   ·exact .inl ⟨by rw [ee];exact r1,r2⟩
   ·exact .inr ⟨j,e,by rw [ee];exact r1,r2⟩
  ·exact .inr (RB.of_err (by rw [ee];exact ht _ _ (Prod.ext (by show _=E;omega) q2)))
 ·have r1:=(hg (f' s).1).e' (f' s).2 (by rw [q1];rfl)
  refine .inr ⟨j,e,by show st (g' (f' s).1 (f' s).2).2=_;rw [r1,q1],?_⟩
  rcases q2 with q2 | q2
  ·left;show (st (g (f s).1 (f s).2).2).2.isSome=true
   rw [(hg (f s).1).e (f s).2 q2];exact q2
  ·exact .inr q2
 ·exact .inr (RB.of_err (ht _ _ q.1))
theorem SE.map {f' f:σ→α×σ} (hs:SE st inv E Bd f' f) (h:α→β):SE st inv E Bd (mapR h f') (mapR h f):=fun s h1 h2 h3=>by
 rcases hs s h1 h2 h3 with ⟨q1,q2⟩ | ⟨j,e,q1,q2⟩
 ·exact .inl ⟨by unfold mapR;rw [q1],q2⟩
 ·exact .inr ⟨j,e,q1,q2⟩
theorem TE.map {f':σ→α×σ} (hs:TE st E Bd f') (h:α→β):TE st E Bd (mapR h f'):=fun s q=>hs s q
end
section
variable {T' T:List Tok} {E:Nat} {Bd:Int×Int→Prop} {α:Type}
abbrev Gt (E:Nat) (Bd:Int×Int→Prop) (F' F:St→α×St):Prop:=G id (fun _=>True) E Bd F' F
abbrev GDt (E:Nat) (Bd:Int×Int→Prop) (F' F:St→α×St):Prop:=GD id (fun _=>True) E Bd F' F
theorem e_of {F:St→α×St} (h:∀ i e,(F (i,some e)).2=(i,some e)):∀ s:St,(id s).2.isSome=true→id (F s).2=id s:=fun s q=>by
 obtain ⟨j,e,rfl⟩:=isS_pair q;exact h j e
theorem G.of {F' F:St→α×St} (e':∀ i e,(F' (i,some e)).2=(i,some e)) (e:∀ i e,(F (i,some e)).2=(i,some e)) (c:(F' (E,none)).2=(E,none)∨∃ j e,(F' (E,none)).2=(j,some e)∧Bd e)
  (a:∀ i,i<E→(F' (i,none)=F (i,none)∧(F (i,none)).2.2=none∧(F (i,none)).2.1≤E)∨(∃ j e,(F' (i,none)).2=(j,some e)∧((F (i,none)).2.2.isSome=true∨Bd e))∨(F' (i,none)).2=(E,none)):Gt E Bd F' F:=
 G.mk' (e_of e') (e_of e) (fun s h=>by
  obtain ⟨h,_⟩:=h
  have h:s=(E,none):=h
  subst h
  exact c.elim (fun h=>.inl ⟨h,trivial⟩) .inr) (fun s h1 h2 _=>by
  obtain ⟨i,o⟩:=s
  have h1:o=none:=h1
  subst h1
  rcases a i h2 with ⟨q1,q2,q3⟩ | q | q
  ·exact .inl ⟨q1,q2,q3,trivial⟩
  ·exact .inr (.inl q)
  ·exact .inr (.inr ⟨q,trivial⟩))
theorem Cut.is (hc:Cut T' T E Bd) {i:Nat} (h:i<E) (w:Bs):isS T' w i=isS T w i:=by unfold isS;rw [hc.lt i h]
theorem opt_G (hc:Cut T' T E Bd) (w:Bs):Gt E Bd (optS T' w) (optS T w):=G.of (fun i e=>by rw [optS_err]) (fun i e=>by rw [optS_err]) (.inl (by rw [optS_end hc.k])) fun i h=>by
 simp only [optS,hc.is h]
 cases isS T w i with
 | true=>exact .inl ⟨trivial,by simp,by simp;omega⟩
 | false=>exact .inl ⟨trivial,by simp,by simp;omega⟩
theorem wantS_at {T:List Tok} (w:Bs) (i:Nat):wantS T w (i,none)=if isS T w i=true then (i+1,none) else (i,some (21,((tk T i).2.2:Int))):=by
 by_cases h:isS T w i=true <;> simp [wantS,optS,failS,h]
theorem text_G (hc:Cut T' T E Bd) (k:Int) (hk:k≠0):Gt E Bd (textS T' k) (textS T k):=by
 refine G.of (fun i e=>by rw [textS_err]) (fun i e=>by rw [textS_err]) (.inr ⟨E,_,?_,hc.bad⟩) fun i h=>?_
 ·have:¬ (0:Int)=k:=fun h=>hk h.symm
  simp [textS,hc.k,this,failS]
 ·simp only [textS,hc.lt i h,failS]
  by_cases q:(tk T i).1=k
  ·simp only [q,if_true];exact .inl ⟨trivial,trivial,h⟩
  ·simp only [q,if_false];exact .inr (.inl ⟨_,_,rfl,.inl rfl⟩)
def wantF (T:List Tok) (w:Bs):St→Unit×St:=fun σ=>((),wantS T w σ)
theorem want_G (hc:Cut T' T E Bd) (w:Bs):Gt E Bd (wantF T' w) (wantF T w):=by
 refine G.of (fun i e=>by unfold wantF;rw [wantS_err]) (fun i e=>by unfold wantF;rw [wantS_err]) (.inr ⟨E,_,?_,hc.bad⟩) fun i h=>?_
 ·simp only [wantF,wantS,optS_end hc.k,Bool.false_eq_true,if_false,failS]
 ·simp only [wantF,wantS_at,hc.is h,hc.lt i h]
  cases isS T w i with
  | true=>exact .inl ⟨trivial,by simp,by simp;omega⟩
  | false=>exact .inr (.inl ⟨_,_,rfl,.inl rfl⟩)
theorem want_T (hc:Cut T' T E Bd) (w:Bs):TE id E Bd (wantF T' w):=fun s h=>by
 have h:s=(E,none):=h
 subst h
 refine ⟨E,_,?_,hc.bad⟩
 simp only [wantF,wantS,optS_end hc.k,Bool.false_eq_true,if_false,failS,id]
theorem want_S (hc:Cut T' T E Bd) (w:Bs):SE id (fun _=>True) E Bd (wantF T' w) (wantF T w):=fun s h1 h2 _=>by
 obtain ⟨i,o⟩:=s
 have h1:o=none:=h1
 subst h1
 have h2:i<E:=h2
 simp only [wantF,RA,RB,wantS_at,hc.is h2,hc.lt i h2,id]
 cases isS T w i with
 | true=>exact .inl ⟨trivial,by simp,by simp;omega,trivial⟩
 | false=>exact .inr ⟨_,_,rfl,.inl rfl⟩
def failF (T:List Tok) (c:Int) (x:α):St→α×St:=fun σ=>(x,failS T c σ)
theorem fail_dead (c:Int) (x:α):Dead id (failF T c x):=fun s=>by
 obtain ⟨i,o⟩:=s
 cases o <;> rfl
theorem fail_GD (hc:Cut T' T E Bd) (c:Int) (x:α):GDt E Bd (failF T' c x) (failF T c x):=
 ⟨e_of fun i e=>rfl,e_of fun i e=>rfl,fun s h=>.inr (.inr ⟨fail_dead c x s,fail_dead c x⟩),fun s h1 h2 _=>.inr (.inl (RB.of_dead (fail_dead c x s) (fail_dead c x s)))⟩
def optI (T:List Tok) (w:Bs) (Y X:St→α×St):St→α×St:=fun σ=>if (optS T w σ).1=true then Y (optS T w σ).2 else X (optS T w σ).2
theorem optI_e {w:Bs} {Y X:St→α×St} (hX:∀ s:St,(id s).2.isSome=true→id (X s).2=id s):∀ s:St,(id s).2.isSome=true→id (optI T w Y X s).2=id s:=fun s h=>by
 obtain ⟨j,e,rfl⟩:=isS_pair h
 simp only [optI,optS_err,Bool.false_eq_true,if_false]
 exact hX _ h
theorem optI_at {T:List Tok} {w:Bs} {Y X:St→α×St} {i:Nat}:optI T w Y X (i,none)=if isS T w i=true then Y (i+1,none) else X (i,none):=by
 by_cases h:isS T w i=true <;> simp [optI,optS,h]
theorem optI_G (hc:Cut T' T E Bd) (w:Bs) {Y' Y X' X:St→α×St} (hY:GDt E Bd Y' Y) (hX:Gt E Bd X' X):Gt E Bd (optI T' w Y' X') (optI T w Y X):=by
 refine G.mk' (optI_e hX.e') (optI_e hX.e) (fun s h=>?_) (fun s h1 h2 _=>?_)
 ·have h':=h
  obtain ⟨h,_⟩:=h'
  have h:s=(E,none):=h
  subst h
  have:optI T' w Y' X' (E,none)=X' (E,none):=by simp only [optI,optS_end hc.k,Bool.false_eq_true,if_false]
  rw [this]
  exact hX.c1 _ ⟨rfl,trivial⟩
 ·obtain ⟨i,o⟩:=s
  have h1:o=none:=h1
  subst h1
  have h2:i<E:=h2
  unfold RA RB
  rw [optI_at,optI_at,hc.is h2]
  cases isS T w i with
  | false=>exact hX.a (i,none) rfl h2 trivial
  | true=>
   simp only [if_true]
   by_cases q:i+1<E
   ·exact hY.a (i+1,none) rfl q trivial
   ·have:i+1=E:=by omega
    rw [this]
    rcases hY.c (E,none) ⟨rfl,trivial⟩ with r | ⟨j,e,r1,r2⟩ | ⟨r,rd⟩
    ·exact .inr (.inr r)
    ·exact .inr (.inl ⟨j,e,r1,.inr r2⟩)
    ·obtain ⟨j,e,r1⟩:=isS_pair r
     exact .inr (.inl ⟨j,e,r1,.inl (rd _)⟩)
theorem optI_S (hc:Cut T' T E Bd) (w:Bs) {y:α} {X' X:St→α×St} (hX:SE id (fun _=>True) E Bd X' X):SE id (fun _=>True) E Bd (optI T' w (retF y) X') (optI T w (retF y) X):=fun s h1 h2 _=>by
 obtain ⟨i,o⟩:=s
 have h1:o=none:=h1
 subst h1
 have h2:i<E:=h2
 unfold RA RB
 rw [optI_at,optI_at,hc.is h2]
 cases isS T w i with
 | false=>exact hX (i,none) rfl h2 trivial
 | true=>exact .inl ⟨rfl,rfl,h2,trivial⟩
theorem optI_T (hc:Cut T' T E Bd) (w:Bs) {Y' X':St→α×St} (hX:TE id E Bd X'):TE id E Bd (optI T' w Y' X'):=fun s h=>by
 have h':s=(E,none):=h
 subst h'
 have:optI T' w Y' X' (E,none)=X' (E,none):=by simp only [optI,optS_end hc.k,Bool.false_eq_true,if_false]
 rw [this]
 exact hX _ h
theorem peek_G (hc:Cut T' T E Bd) (p:Tok→Bool) {Y' Y X' X:St→α×St} (hY:Gt E Bd Y' Y) (hX:Gt E Bd X' X):Gt E Bd (fun σ=>if p (tk T' σ.1)=true then Y' σ else X' σ) (fun σ=>if p (tk T σ.1)=true then Y σ else X σ):=by
 refine G.mk' (fun s h=>?_) (fun s h=>?_) (fun s h=>?_) (fun s h1 h2 _=>?_)
 ·split
  ·exact hY.e' s h
  ·exact hX.e' s h
 ·split
  ·exact hY.e s h
  ·exact hX.e s h
 ·split
  ·exact hY.c1 s h
  ·exact hX.c1 s h
 ·have h2':s.1<E:=h2
  unfold RA RB
  simp only [hc.lt _ h2']
  split
  ·exact hY.a s h1 h2 trivial
  ·exact hX.a s h1 h2 trivial
end
end Go.Proofs.YtkcjphhjmlienaaGreatDoor.Qp

set_option linter.unusedVariables false
set_option linter.unusedSimpArgs false
open Go Go.Proofs.YtkcjphhjmlienaaGreatDoor.Ai Go.Proofs
namespace Go.Proofs.YtkcjphhjmlienaaGreatDoor.Qp
section
variable {T' T:List Tok} {E:Nat} {Bd:Int×Int→Prop}
theorem name_G (hc:Cut T' T E Bd):Gt E Bd (nameS T') (nameS T):=by
 have h:∀ T,nameS T=bnd (textS T 1) fun a=>optI T [58,58] (mapR (fun c=>a++[58,58]++c) (textS T 1)) (retF a):=fun T=>rfl
 rw [h,h]
 exact (text_G hc 1 (by decide)).bnd fun a=>optI_G hc _ ((text_G hc 1 (by decide)).map _).toGD (ret_G _)
theorem lives_G (hc:Cut T' T E Bd):∀ g,Gt E Bd (livesS T' (g+1)) (livesS T (g+1))∧GDt E Bd (livesS T' g) (livesS T g):=by
 have h0:∀ T,livesS T 0=failF T 5 ([]:List Bs):=fun T=>rfl
 have h1:∀ T g,livesS T (g+1)=bnd (textS T 3) fun a=>optI T [44] (mapR (a::·) (livesS T g)) (retF [a]):=fun T g=>rfl
 have key:∀ g,GDt E Bd (livesS T' g) (livesS T g)→Gt E Bd (livesS T' (g+1)) (livesS T (g+1)):=fun g ih=>by
  rw [h1,h1]
  exact (text_G hc 3 (by decide)).bnd fun a=>optI_G hc _ (ih.map _) (ret_G _)
 have all:∀ g,GDt E Bd (livesS T' g) (livesS T g):=fun g=>by
  induction g with
  | zero=>rw [h0,h0];exact fail_GD hc 5 _
  | succ g ih=>exact (key g ih).toGD
 exact fun g=>⟨key g (all g),all g⟩
theorem lifes_G (hc:Cut T' T E Bd):Gt E Bd (lifesS T') (lifesS T):=by
 have h:∀ T,lifesS T=optI T [60] (bnd (livesS T 64) fun l=>mapR (fun _=>l) (wantF T [62])) (retF []):=fun T=>by
  funext σ
  rfl
 rw [h,h]
 exact optI_G hc _ (((lives_G hc 63).1).bnd fun l=>(want_G hc _).map _).toGD (ret_G _)
theorem list_G (hc:Cut T' T E Bd) {one' one:St→D×St} (ho:Gt E Bd one' one) (sep:Bs):∀ g,Gt E Bd (listS T' one' sep (g+1)) (listS T one sep (g+1))∧GDt E Bd (listS T' one' sep g) (listS T one sep g):=by
 have h0:∀ T one,listS T one sep 0=failF T 5 ([]:List D):=fun T one=>rfl
 have h1:∀ T one g,listS T one sep (g+1)=bnd one fun a=>optI T sep (mapR (a::·) (listS T one sep g)) (retF [a]):=fun T one g=>rfl
 have key:∀ g,GDt E Bd (listS T' one' sep g) (listS T one sep g)→Gt E Bd (listS T' one' sep (g+1)) (listS T one sep (g+1)):=fun g ih=>by
  rw [h1,h1]
  exact ho.bnd fun a=>optI_G hc _ (ih.map _) (ret_G _)
 have all:∀ g,GDt E Bd (listS T' one' sep g) (listS T one sep g):=fun g=>by
  induction g with
  | zero=>rw [h0,h0];exact fail_GD hc 5 _
  | succ g ih=>exact (key g ih).toGD
 exact fun g=>⟨key g (all g),all g⟩
theorem listE_G (hc:Cut T' T E Bd) {one' one:St→D×St} (ho:Gt E Bd one' one) (sep:Bs):Gt E Bd (listE T' one' sep) (listE T one sep):=by
 have hl:=(list_G hc ho sep 63).1
 have h:∀ (T:List Tok) (one:St→D×St) s,(id s:St).2=none→listE T one sep s=listS T one sep 64 s:=fun T one s h=>by
  obtain ⟨i,o⟩:=s
  have h:o=none:=h
  subst h;rfl
 refine G.mk' (e_of fun i e=>rfl) (e_of fun i e=>rfl) (fun s q=>?_) (fun s h1 h2 h3=>?_)
 ·rw [h _ _ _ (by rw [show id s=(E,none) from q.1])];exact hl.c1 s q
 ·unfold RA RB
  rw [h _ _ _ h1,h _ _ _ h1];exact hl.a s h1 h2 h3
theorem life_G (hc:Cut T' T E Bd):Gt E Bd (lifeS T') (lifeS T):=by
 have h:∀ T,lifeS T=fun σ=>if (fun q:Tok=>decide (q.1=3)) (tk T σ.1)=true then mapR (fun x=>[x]) (textS T 3) σ else retF [] σ:=fun T=>by
  funext σ
  simp only [lifeS,mapR,retF,decide_eq_true_eq]
 rw [h,h]
 exact peek_G hc (fun q:Tok=>decide (q.1=3)) ((text_G hc 3 (by decide)).map _) (ret_G _)
theorem typ_G (hc:Cut T' T E Bd):∀ g,Gt E Bd (typS T' (g+1)) (typS T (g+1))∧GDt E Bd (typS T' g) (typS T g):=by
 have h0:∀ T,typS T 0=failF T 6 (tyD 0 [] [] []):=fun T=>rfl
 have key:∀ g,GDt E Bd (typS T' g) (typS T g)→Gt E Bd (typS T' (g+1)) (typS T (g+1)):=fun g ih=>by
  let F:=fun T:List Tok=>optI T [105,110,116] (retF (tyD 1 [] [] [])) (optI T [98,111,111,108] (retF (tyD 2 [] [] []))
   (optI T [38] (bnd (lifeS T) fun d=>bnd (optS T [109,117,116]) fun m=>mapR (fun t=>tyD (if m=true then 5 else 4) [] d [t]) (typS T g))
    (bnd (nameS T) fun n=>mapR (fun l=>tyD 3 n l []) (lifesS T))))
  have hF:Gt E Bd (F T') (F T):=by
   refine optI_G hc _ (ret_G _).toGD (optI_G hc _ (ret_G _).toGD (optI_G hc _ ?_ ((name_G hc).bnd fun n=>(lifes_G hc).map _)))
   exact GD.bndD (life_G hc).toGD (fun d=>GD.bndD (opt_G hc _).toGD (fun m=>ih.map _) fun x y h=>h) fun x y h s=>h s
  have he:∀ (T:List Tok) (i:Nat),typS T (g+1) (i,none)=F T (i,none):=fun T i=>by
   simp only [typS,F,optI,bnd,mapR,retF]
  have ha:∀ (T:List Tok) (s:St),s.2=none→typS T (g+1) s=F T s:=fun T s h=>by
   obtain ⟨i,o⟩:=s
   have h:o=none:=h
   subst h;exact he T i
  refine G.mk' (e_of fun i e=>by rw [typS_err]) (e_of fun i e=>by rw [typS_err]) (fun s q=>?_) (fun s h1 h2 h3=>?_)
  ·rw [ha T' s (by rw [show s=(E,none) from q.1])];exact hF.c1 s q
  ·unfold RA RB
   rw [ha T' s h1,ha T s h1];exact hF.a s h1 h2 h3
 have all:∀ g,GDt E Bd (typS T' g) (typS T g):=fun g=>by
  induction g with
  | zero=>rw [h0,h0];exact fail_GD hc 6 _
  | succ g ih=>exact (key g ih).toGD
 exact fun g=>⟨key g (all g),all g⟩
theorem typ64_G (hc:Cut T' T E Bd):Gt E Bd (typS T' 64) (typS T 64):=(typ_G hc 63).1
theorem field_G (hc:Cut T' T E Bd):Gt E Bd (fieldS T') (fieldS T):=by
 have h:∀ T,fieldS T=bnd (textS T 1) fun a=>bnd (wantF T [58]) fun _=>mapR (fun r=>fdD false a r) (typS T 64):=fun T=>rfl
 rw [h,h]
 exact (text_G hc 1 (by decide)).bnd fun a=>(want_G hc _).bnd fun _=>(typ64_G hc).map _
theorem textD_G (hc:Cut T' T E Bd):Gt E Bd (textD T' 3) (textD T 3):=(text_G hc 3 (by decide)).map D.s
theorem lif_G (hc:Cut T' T E Bd):Gt E Bd (lifS T') (lifS T):=by
 have h:∀ T,lifS T=bnd (textS T 3) fun a=>optI T [58] (mapR (fun l=>pairD a l) (listE T (textD T 3) [43])) (retF (pairD a [])):=fun T=>rfl
 rw [h,h]
 exact (text_G hc 3 (by decide)).bnd fun a=>optI_G hc _ ((listE_G hc (textD_G hc) _).map _).toGD (ret_G _)
theorem param_G (hc:Cut T' T E Bd):Gt E Bd (paramS T') (paramS T):=by
 have h:∀ T,paramS T=bnd (optS T [109,117,116]) fun m=>bnd (textS T 1) fun a=>bnd (wantF T [58]) fun _=>mapR (fun r=>fdD m a r) (typS T 64):=fun T=>rfl
 rw [h,h]
 exact (opt_G hc _).bnd fun m=>(text_G hc 1 (by decide)).bnd fun a=>(want_G hc _).bnd fun _=>(typ64_G hc).map _
theorem path_G (hc:Cut T' T E Bd):∀ g,Gt E Bd (pathS T' g) (pathS T g):=fun g=>by
 induction g with
 | zero=>
  have h:∀ T,pathS T 0=optI T [46] (failF T 5 ([]:List Bs)) (retF []):=fun T=>rfl
  rw [h,h]
  exact optI_G hc _ (fail_GD hc 5 _) (ret_G _)
 | succ g ih=>
  have h:∀ T,pathS T (g+1)=optI T [46] (optI T [42] (mapR ([42]::·) (pathS T g)) (bnd (textS T 1) fun x=>mapR (x::·) (pathS T g))) (retF []):=fun T=>rfl
  rw [h,h]
  exact optI_G hc _ (optI_G hc _ (ih.map _).toGD ((text_G hc 1 (by decide)).bnd fun x=>ih.map _)).toGD (ret_G _)
theorem place_G (hc:Cut T' T E Bd):Gt E Bd (placeS T') (placeS T):=by
 have h:∀ T,placeS T=bnd (textS T 1) fun a=>mapR (fun p=>pairD a (p.map D.s)) (pathS T 64):=fun T=>rfl
 rw [h,h]
 exact (text_G hc 1 (by decide)).bnd fun a=>(path_G hc 64).map _
theorem oper_G (hc:Cut T' T E Bd):Gt E Bd (operS T') (operS T):=by
 have h:∀ T,operS T=optI T [116,114,117,101] (retF (opD 2 1 pl0)) (optI T [102,97,108,115,101] (retF (opD 2 0 pl0)) (fun σ=>if (fun q:Tok=>decide (q.1=4)) (tk T σ.1)=true then mapR (fun x=>opD 1 ((valN x 0:Nat):Int) pl0) (textS T 4) σ else mapR (fun p=>opD 3 0 p) (placeS T) σ)):=fun T=>by
  funext σ
  simp only [operS,optI,mapR,retF,decide_eq_true_eq]
 rw [h,h]
 exact optI_G hc _ (ret_G _).toGD (optI_G hc _ (ret_G _).toGD (peek_G hc (fun q:Tok=>decide (q.1=4)) ((text_G hc 4 (by decide)).map _) ((place_G hc).map _)))
theorem args_G (hc:Cut T' T E Bd):Gt E Bd (argsS T') (argsS T)∧TE id E Bd (argsS T'):=by
 have h:∀ T,argsS T=bnd (wantF T [40]) fun _=>optI T [41] (retF []) (bnd (listE T (operS T) [44]) fun l=>mapR (fun _=>l) (wantF T [41])):=fun T=>by
  funext σ
  rfl
 have g:=fun _:Unit=>optI_G hc [41] (ret_G ([]:List D)).toGD ((listE_G hc (oper_G hc) [44]).bnd fun l=>(want_G hc [41]).map fun _=>l)
 rw [h,h]
 exact ⟨(want_G hc _).bnd g,(want_T hc _).left fun x=>(g x).e'⟩
theorem pair_G (hc:Cut T' T E Bd):Gt E Bd (pairS T') (pairS T):=by
 have h:∀ T,pairS T=bnd (textS T 1) fun a=>bnd (wantF T [58]) fun _=>mapR (fun o=>D.t [.s a,o]) (operS T):=fun T=>rfl
 rw [h,h]
 exact (text_G hc 1 (by decide)).bnd fun a=>(want_G hc _).bnd fun _=>(oper_G hc).map _
theorem made_G (hc:Cut T' T E Bd):Gt E Bd (madeS T') (madeS T):=by
 have h:∀ T,madeS T=bnd (wantF T [123]) fun _=>optI T [125] (retF []) (bnd (listE T (pairS T) [44]) fun l=>mapR (fun _=>l) (wantF T [125])):=fun T=>by
  funext σ
  rfl
 rw [h,h]
 exact (want_G hc _).bnd fun _=>optI_G hc [125] (ret_G ([]:List D)).toGD ((listE_G hc (pair_G hc) [44]).bnd fun l=>(want_G hc [125]).map fun _=>l)
theorem isat_G (hc:Cut T' T E Bd) (w:Bs) {α:Type} {Y' Y X' X:St→α×St} (hY:GDt E Bd Y' Y) (hX:Gt E Bd X' X):Gt E Bd (fun σ=>if (optS T' w σ).1=true then Y' σ else X' σ) (fun σ=>if (optS T w σ).1=true then Y σ else X σ):=by
 have er:∀ (T:List Tok) (Y X:St→α×St),(∀ s:St,(id s).2.isSome=true→id (X s).2=id s)→∀ s:St,(id s).2.isSome=true→id ((fun σ=>if (optS T w σ).1=true then Y σ else X σ) s).2=id s:=fun T Y X hX s h=>by
  obtain ⟨j,e,rfl⟩:=isS_pair h
  simp only [optS_err,Bool.false_eq_true,if_false]
  exact hX _ h
 refine G.mk' (er T' Y' X' hX.e') (er T Y X hX.e) (fun s h=>?_) (fun s h1 h2 _=>?_)
 ·have h':s=(E,none):=h.1
  subst h'
  simp only [optS_end hc.k,Bool.false_eq_true,if_false]
  exact hX.c1 _ h
 ·obtain ⟨i,o⟩:=s
  have h1:o=none:=h1
  subst h1
  have h2:i<E:=h2
  unfold RA RB
  have q:(optS T' w (i,none)).1=(optS T w (i,none)).1:=by simp only [optS,hc.is h2]
  simp only [q]
  split
  ·exact hY.a (i,none) rfl h2 trivial
  ·exact hX.a (i,none) rfl h2 trivial
theorem named_G (hc:Cut T' T E Bd):Gt E Bd (namedS T') (namedS T):=by
 have h:∀ T,namedS T=bnd (nameS T) fun a=>fun σ=>if (optS T [123] σ).1=true then mapR (fun l:List D=>vaD 7 op0 op0 0 pl0 a (l.map d1) (l.map d2)) (madeS T) σ else mapR (fun l=>vaD 6 op0 op0 0 pl0 a [] l) (argsS T) σ:=fun T=>by
  funext σ
  rfl
 rw [h,h]
 exact (name_G hc).bnd fun a=>isat_G hc _ ((made_G hc).map _).toGD ((args_G hc).1.map _)
theorem op_G (hc:Cut T' T E Bd):∀ (l:List Bs) (k:Int),Gt E Bd (opS T' l k) (opS T l k)
 | [],k=>ret_G none
 | s::r,k=>by
  have h:∀ T,opS T (s::r) k=optI T s (mapR (fun o=>some (k,o)) (operS T)) (opS T r (k+1)):=fun T=>rfl
  rw [h,h]
  exact optI_G hc _ ((oper_G hc).map _).toGD (op_G hc r (k+1))
theorem behind_ne (hc:Cut T' T E Bd) {w:Bs} {i:Nat} (hi:i<E) (h:behindS T' w (i,none)≠behindS T w (i,none)):i+1=E∧(tk T' i).1=1:=by
 simp only [behindS,hc.lt i hi] at h ⊢
 by_cases q:i+1<E
 ·rw [hc.lt _ q] at h;exact absurd rfl h
 ·refine ⟨by omega,?_⟩
  by_cases q2:(tk T i).1=1
  ·exact q2
  ·simp [q2] at h
theorem behind_end (hc:Cut T' T E Bd) (w:Bs):behindS T' w (E,none)=false:=by simp [behindS,hc.k]
theorem place_last (hc:Cut T' T E Bd) {i:Nat} (h:i+1=E) (h1:(tk T' i).1=1):(placeS T' (i,none)).2=(E,none):=by
 have e1:(textS T' 1 (i,none)).2=(E,none):=by simp only [textS,h1,if_true,h]
 simp only [placeS,e1]
 rw [show (64:Nat)=63+1 from rfl,pathS]
 simp only [optS_end hc.k,Bool.false_eq_true,if_false]
theorem calls_pk (hc:Cut T' T E Bd) {α:Type} (p:List Tok→St→Bool) (pe:p T' (E,none)=false) (per:∀ (T:List Tok) (i:Nat) (e:Int×Int),p T (i,some e)=false) (pn:∀ i,i<E→p T' (i,none)≠p T (i,none)→i+1=E∧(tk T' i).1=1) {Y' Y X' X:St→α×St} (hY:Gt E Bd Y' Y) (hX:Gt E Bd X' X)
  (hn:∀ i,i+1=E→(tk T' i).1=1→p T' (i,none)=false→(X' (i,none)).2=(E,none)∨ErrB id Bd (X' (i,none)).2) (hp:∀ i,i+1=E→p T' (i,none)=false):Gt E Bd (fun σ=>if p T' σ=true then Y' σ else X' σ) (fun σ=>if p T σ=true then Y σ else X σ):=by
 have er:∀ (T:List Tok) (Y X:St→α×St),(∀ s:St,(id s).2.isSome=true→id (X s).2=id s)→∀ s:St,(id s).2.isSome=true→id ((fun σ=>if p T σ=true then Y σ else X σ) s).2=id s:=fun T Y X hX s h=>by
  obtain ⟨j,e,rfl⟩:=isS_pair h
  simp only [per,Bool.false_eq_true,if_false]
  exact hX _ h
 refine G.mk' (er T' Y' X' hX.e') (er T Y X hX.e) (fun s h=>?_) (fun s h1 h2 _=>?_)
 ·have h':s=(E,none):=h.1
  subst h'
  simp only [pe,Bool.false_eq_true,if_false]
  exact hX.c1 _ h
 ·obtain ⟨i,o⟩:=s
  have h1:o=none:=h1
  subst h1
  have h2:i<E:=h2
  by_cases q:p T' (i,none)=p T (i,none)
  ·unfold RA RB
   simp only [q]
   split
   ·exact hY.a (i,none) rfl h2 trivial
   ·exact hX.a (i,none) rfl h2 trivial
  ·obtain ⟨k1,k2⟩:=pn i h2 q
   have k3:=hp i k1
   rcases hn i k1 k2 k3 with r | ⟨j,e,r1,r2⟩
   ·refine .inr (.inr ⟨?_,trivial⟩)
    simp only [k3,Bool.false_eq_true,if_false];exact r
   ·refine .inr (.inl ⟨j,e,?_,.inr r2⟩)
    simp only [k3,Bool.false_eq_true,if_false];exact r1
theorem behind_last (hc:Cut T' T E Bd) (w:Bs) {i:Nat} (h:i+1=E):behindS T' w (i,none)=false:=by simp [behindS,h,hc.k]
theorem callsS_errS (T:List Tok) (i:Nat) (e:Int×Int):callsS T (i,some e)=false:=by simp [callsS,behindS]
theorem oper_last (hc:Cut T' T E Bd) {i:Nat} (h:i+1=E) (h1:(tk T' i).1=1):(operS T' (i,none)).2=(E,none):=by
 have n:∀ w,optS T' w (i,none)=(false,(i,none)):=fun w=>by
  have:isS T' w i=false:=by simp [isS,h1]
  simp [optS,this]
 simp only [operS,n,Bool.false_eq_true,if_false,h1,show ¬ (1:Int)=4 by decide,place_last hc h h1]
theorem op_end (hc:Cut T' T E Bd):∀ (l:List Bs) (k:Int),opS T' l k (E,none)=(none,(E,none))
 | [],k=>rfl
 | s::r,k=>by simp only [opS,optS_end hc.k,Bool.false_eq_true,if_false,op_end hc r (k+1)]
theorem value_G (hc:Cut T' T E Bd):Gt E Bd (valueS T') (valueS T):=by
 have h:∀ T,valueS T=optI T [38] (bnd (optS T [109,117,116]) fun m=>mapR (fun p=>vaD (if m=true then 3 else 2) op0 op0 0 p [] [] []) (placeS T))
   (optI T [33] (mapR (fun o=>vaD 4 o op0 0 pl0 [] [] []) (operS T)) (fun σ=>if (fun T σ=>callsS T σ||behindS T [123] σ) T σ=true then namedS T σ else (bnd (operS T) fun o=>mapR (fun s=>opV o s) (opS T signsL 1)) σ)):=fun T=>by
  funext σ
  rfl
 rw [h,h]
 refine optI_G hc _ ((opt_G hc _).bnd fun m=>(place_G hc).map _).toGD (optI_G hc _ ((oper_G hc).map _).toGD (calls_pk hc (fun T σ=>callsS T σ||behindS T [123] σ) ?_ (fun T i e=>?_) (fun i hi hn=>?_) (named_G hc) ((oper_G hc).bnd fun o=>(op_G hc _ _).map _) (fun i k1 k2 k3=>.inl ?_) fun i k1=>?_))
 ·simp [callsS,behind_end hc]
 ·simp [callsS,behindS]
 ·by_cases q1:behindS T' [58,58] (i,none)=behindS T [58,58] (i,none)
  ·by_cases q2:behindS T' [40] (i,none)=behindS T [40] (i,none)
   ·by_cases q3:behindS T' [123] (i,none)=behindS T [123] (i,none)
    ·exact absurd (by simp only [callsS,q1,q2,q3]) hn
    ·exact behind_ne hc hi q3
   ·exact behind_ne hc hi q2
  ·exact behind_ne hc hi q1
 ·simp only [bnd,mapR,oper_last hc k1 k2,op_end hc]
 ·simp [callsS,behind_last hc _ k1]
theorem let_G (hc:Cut T' T E Bd) (a:Int):Gt E Bd (letS T' a) (letS T a):=by
 have h:∀ T,letS T a=bnd (optS T [109,117,116]) fun m=>bnd (textS T 1) fun n=>bnd (wantF T [58]) fun _=>bnd (typS T 64) fun t=>optI T [61] (bnd (valueS T) fun v=>mapR (fun _=>smD { smR0 a with k:=1,m:=m,nm:=n,has:=true } { smT0 with ty:=t,va:=v }) (wantF T [59])) (mapR (fun _=>smD { smR0 a with k:=1,m:=m,nm:=n } { smT0 with ty:=t }) (wantF T [59])):=fun T=>by
  funext σ
  rfl
 rw [h,h]
 exact (opt_G hc _).bnd fun m=>(text_G hc 1 (by decide)).bnd fun n=>(want_G hc _).bnd fun _=>(typ64_G hc).bnd fun t=>optI_G hc _ ((value_G hc).bnd fun v=>(want_G hc _).map _).toGD ((want_G hc _).map _)
theorem plain_G (hc:Cut T' T E Bd) (a:Int):Gt E Bd (plainS T' a) (plainS T a):=by
 have h:∀ T,plainS T a=optI T [98,114,101,97,107] (retF (smD { smR0 a with k:=8 } smT0)) (optI T [99,111,110,116,105,110,117,101] (retF (smD { smR0 a with k:=9 } smT0))
   (optI T [114,101,116,117,114,110] (fun σ=>if (optS T [59] σ).1=true then retF (smD { smR0 a with k:=10 } smT0) σ else mapR (fun v=>smD { smR0 a with k:=10,has:=true } { smT0 with va:=v }) (valueS T) σ)
   (optI T [100,114,111,112] (mapR (fun p=>smD { smR0 a with k:=11 } { smT0 with pl:=p }) (placeS T)) (fun σ=>if callsS T σ=true then (bnd (nameS T) fun n=>mapR (fun l=>smD { smR0 a with k:=3 } { smT0 with va:=vaD 6 op0 op0 0 pl0 n [] l }) (argsS T)) σ
    else (bnd (placeS T) fun p=>bnd (wantF T [61]) fun _=>mapR (fun v=>smD { smR0 a with k:=2 } { smT0 with pl:=p,va:=v }) (valueS T)) σ)))):=fun T=>by
  funext σ
  rfl
 rw [h,h]
 refine optI_G hc _ (ret_G _).toGD (optI_G hc _ (ret_G _).toGD (optI_G hc _ (isat_G hc _ (ret_G _).toGD ((value_G hc).map _)).toGD (optI_G hc _ ((place_G hc).map _).toGD (calls_pk hc callsS ?_ (fun T i e=>callsS_errS T i e) (fun i hi hn=>?_) ((name_G hc).bnd fun n=>(args_G hc).1.map _) ((place_G hc).bnd fun p=>(want_G hc _).bnd fun _=>(value_G hc).map _) (fun i k1 k2 k3=>.inr ?_) fun i k1=>?_))))
 ·simp [callsS,behind_end hc]
 ·by_cases q1:behindS T' [58,58] (i,none)=behindS T [58,58] (i,none)
  ·by_cases q2:behindS T' [40] (i,none)=behindS T [40] (i,none)
   ·exact absurd (by simp only [callsS,q1,q2]) hn
   ·exact behind_ne hc hi q2
  ·exact behind_ne hc hi q1
 ·refine ⟨E,_,?_,hc.bad⟩
  simp only [id,bnd,mapR,place_last hc k1 k2,wantF]
  rw [show wantS T' [61] (E,none)=(E,some (21,((tk T' E).2.2:Int))) by simp only [wantS,optS_end hc.k,Bool.false_eq_true,if_false,failS],valueS_err]
 ·simp [callsS,behind_last hc _ k1]
theorem plain_end (hc:Cut T' T E Bd) (a:Int):(plainS T' a (E,none)).2=(E,some (21,((tk T' E).2.2:Int))):=by
 have hcl:callsS T' (E,none)=false:=by simp [callsS,behind_end hc]
 have ht:textS T' 1 (E,none)=([],(E,some (21,((tk T' E).2.2:Int)))):=by simp [textS,failS,hc.k]
 simp only [plainS,optS_end hc.k,Bool.false_eq_true,if_false,hcl,placeS,ht,pathS_err,wantS_err,valueS_err]
end
end Go.Proofs.YtkcjphhjmlienaaGreatDoor.Qp

set_option linter.unusedVariables false
set_option linter.unusedSimpArgs false
set_option maxRecDepth 100000
open Go Go.Proofs.YtkcjphhjmlienaaGreatDoor.Ai Go.Proofs
namespace Go.Proofs.YtkcjphhjmlienaaGreatDoor.Qp
open Go.ChangeShapes Go.WideShapes
open Go.Proofs.YtkcjphhjmlienaaGreatDoor
section
variable {H:Type} {P:Program} {h:Heap} {S:List TypeId}
end
end Go.Proofs.YtkcjphhjmlienaaGreatDoor.Qp

set_option linter.unusedVariables false
set_option linter.unusedSimpArgs false
open Go Go.Proofs.YtkcjphhjmlienaaGreatDoor.Ai Go.Proofs
namespace Go.Proofs.YtkcjphhjmlienaaGreatDoor.Qp
inductive PT where
 | int | bool | st (nm:Bs) (lv:List Bs) | ref (mu:Bool) (lv:List Bs) (t:PT)
end Go.Proofs.YtkcjphhjmlienaaGreatDoor.Qp

set_option linter.unusedVariables false
set_option linter.unusedSimpArgs false
open Go Go.Proofs.YtkcjphhjmlienaaGreatDoor.Ai Go.Proofs
namespace Go.Proofs.YtkcjphhjmlienaaGreatDoor.Qp
end Go.Proofs.YtkcjphhjmlienaaGreatDoor.Qp

set_option linter.unusedVariables false
set_option linter.unusedSimpArgs false
open Go Go.Proofs.YtkcjphhjmlienaaGreatDoor.Ai Go.Proofs
namespace Go.Proofs.YtkcjphhjmlienaaGreatDoor.Qp
section
variable {N:Nat} {h:Heap} {V:Nat→Prop}
end
end Go.Proofs.YtkcjphhjmlienaaGreatDoor.Qp

set_option linter.unusedVariables false
set_option linter.unusedSimpArgs false
open Go Go.Proofs.YtkcjphhjmlienaaGreatDoor.Ai Go.Proofs
namespace Go.Proofs.YtkcjphhjmlienaaGreatDoor.Qp
abbrev KT:=Int×Bs
def kt (q:Tok):KT:=(q.1,q.2.1)
end Go.Proofs.YtkcjphhjmlienaaGreatDoor.Qp

set_option linter.unusedVariables false
set_option linter.unusedSimpArgs false
open Go Go.Proofs.YtkcjphhjmlienaaGreatDoor.Ai Go.Proofs
namespace Go.Proofs.YtkcjphhjmlienaaGreatDoor.Qp
def codeP:Er3→Int×Int
 | none=>(0,0)
 | some (c,a,none)=>(c,a)
 | some (c,_,some b)=>(c,b)
section
variable {N:Nat} {h:Heap}
theorem f29_end {B:Nat} {c a b k:Int} {M:Nat} (o:h.own B [.int .i64 c,.int .i64 a,AV.iface 78 (.int .i64 k)]) (v6 v7:Int) {n:Int} (hn:n<200):∃ o',f29_l1 N (M+1) (some (B,0)) v6 v7 n h=some (o',(v6,v7,()),h):=by
 have k2:h.cell (B,2)=some (AV.iface 78 (.int .i64 k)):=o.cell 2
 rw [f29_l1_succ]
 unfold f29_l1_b
 have:ltInt n 200=true:=by rw [ltI];exact decide_eq_true hn
 rw [this]
 simp only [cond_true,need_some,Nat.zero_add,k2,bindV_some,cast_any]
 rw [as_errno]
 simp only [Bool.not_false,cond_true]
 exact ⟨_,rfl⟩
theorem f29_w {v:AV} {e:Er3} (x:ErrW h v e) (hN:10≤N):f29 N v h=some (((codeP e).1,(codeP e).2,()),h):=by
 unfold f29
 obtain ⟨N,rfl⟩:∃ m,N=m+2:=⟨N-2,by omega⟩
 match e with
 | none=>rw [show v=AV.nilIface from x,eq_nil];rfl
 | some (c,a,none)=>
  obtain ⟨F,f1,f2⟩:=x
  rw [f1,eq_fault]
  simp only [bindV_some,cast_bool,cond_false]
  rw [as_fault]
  have k0:h.cell (F,0)=some (.int .i64 c):=f2.cell 0
  have k1:h.cell (F,1)=some (.int .i64 a):=f2.cell 1
  simp only [Bool.not_true,cond_false,Option.isNone_some,need_some,Nat.add_zero,Nat.zero_add,k0,k1,bindV_some,cast_int]
  obtain ⟨o',e'⟩:=f29_end (N:=N+2) (M:=N+1) (b:=0) f2 c a (n:=0) (by omega)
  rw [e'];rfl
 | some (c,a,some b)=>
  obtain ⟨A,B,f1,f2,f3⟩:=x
  rw [f1,eq_fault]
  simp only [bindV_some,cast_bool,cond_false]
  rw [as_fault]
  have k0:h.cell (A,0)=some (.int .i64 c):=f2.cell 0
  have k1:h.cell (A,1)=some (.int .i64 a):=f2.cell 1
  have k2:h.cell (A,2)=some (AV.iface 127 (.ptr (some (B,0)))):=f2.cell 2
  have j1:h.cell (B,1)=some (.int .i64 b):=f3.cell 1
  simp only [Bool.not_true,cond_false,Option.isNone_some,need_some,Nat.add_zero,Nat.zero_add,k0,k1,bindV_some,cast_int]
  rw [f29_l1_succ]
  unfold f29_l1_b
  rw [show ltInt 0 200=true from rfl]
  simp only [cond_true,need_some,Nat.zero_add,k2,bindV_some,cast_any]
  rw [as_fault]
  simp only [Bool.not_true,cond_false,Option.isNone_some,need_some,Nat.zero_add,j1,bindV_some,cast_int]
  rw [show wrapA .i64 (0+1)=1 from rfl]
  obtain ⟨o',e'⟩:=f29_end (N:=N+2) (M:=N) (b:=0) f3 c b (n:=1) (by omega)
  rw [e'];rfl
theorem f18_w {v:AV} {e:Er3} (x:ErrW h v e) (hN:10≤N) (c a:Int):f18 N v c a h=some (decide (codeP e=(c,a)),h):=by
 unfold f18
 rw [f29_w x hN,bind2_some]
 simp only [eqI]
 by_cases q:(codeP e).1=c
 ·simp only [q,decide_true,cond_true]
  by_cases q2:(codeP e).2=a
  ·have:codeP e=(c,a):=by rw [← q,← q2]
   simp only [q2,this,decide_true]
  ·have:¬ codeP e=(c,a):=fun h=>q2 (by rw [h])
   simp [q2,this]
 ·have:¬ codeP e=(c,a):=fun h=>q (by rw [h])
  simp [q,this]
end
section
variable {T l r:List Tok} {i:Nat} {k:Int} {x w:Bs} {a:Nat}
end
end Go.Proofs.YtkcjphhjmlienaaGreatDoor.Qp

set_option linter.unusedVariables false
set_option linter.unusedSimpArgs false
open Go Go.Proofs.YtkcjphhjmlienaaGreatDoor.Ai Go.Proofs
namespace Go.Proofs.YtkcjphhjmlienaaGreatDoor.Qp
section
variable {T r:List Tok} {i a c:Nat}
theorem stmts_err (one:SC→D×SC) (f:Nat) (e:Int×Int):stmtsS T one f ((i,some e),c)=(([],false),((i,some e),c)):=by
 cases f <;> simp [stmtsS]
end
end Go.Proofs.YtkcjphhjmlienaaGreatDoor.Qp

set_option linter.unusedVariables false
set_option linter.unusedSimpArgs false
open Go Go.Proofs.YtkcjphhjmlienaaGreatDoor.Ai Go.Proofs
namespace Go.Proofs.YtkcjphhjmlienaaGreatDoor.Qp
section
variable {T' T:List Tok} {E:Nat} {Bd:Int×Int→Prop} {α β γ:Type}
def invS (s:SC):Prop:=s.2≤2000
abbrev Gs (E:Nat) (Bd:Int×Int→Prop) (F' F:SC→α×SC):Prop:=G Prod.fst invS E Bd F' F
abbrev GDs (E:Nat) (Bd:Int×Int→Prop) (F' F:SC→α×SC):Prop:=GD Prod.fst invS E Bd F' F
def liftS (F:St→α×St):SC→α×SC:=fun s=>((F s.1).1,((F s.1).2,s.2))
theorem lift_G {F' F:St→α×St} (h:Gt E Bd F' F):Gs E Bd (liftS F') (liftS F):=
 G.mk' (fun s q=>h.e' s.1 q) (fun s q=>h.e s.1 q) (fun s q=>by
  rcases h.c1 s.1 ⟨q.1,trivial⟩ with r | r
  ·exact .inl ⟨r.1,q.2⟩
  ·exact .inr r) (fun s h1 h2 h3=>by
  rcases h.a s.1 h1 h2 trivial with ⟨r1,r2,r3,_⟩ | r | r
  ·exact .inl ⟨by unfold liftS;rw [r1],r2,r3,h3⟩
  ·exact .inr (.inl r)
  ·exact .inr (.inr ⟨r.1,h3⟩))
theorem lift_T {F':St→α×St} (h:TE id E Bd F'):TE Prod.fst E Bd (liftS F'):=fun s q=>h s.1 q
def optJ (T:List Tok) (w:Bs) (Y X:SC→α×SC):SC→α×SC:=fun s=>if (optS T w s.1).1=true then Y ((optS T w s.1).2,s.2) else X ((optS T w s.1).2,s.2)
def isJ (T:List Tok) (w:Bs) (Y X:SC→α×SC):SC→α×SC:=fun s=>if (optS T w s.1).1=true then Y s else X s
theorem optJ_at {w:Bs} {Y X:SC→α×SC} {i c:Nat}:optJ T w Y X ((i,none),c)=if isS T w i=true then Y ((i+1,none),c) else X ((i,none),c):=by
 by_cases h:isS T w i=true <;> simp [optJ,optS,h]
theorem isJ_at {w:Bs} {Y X:SC→α×SC} {i c:Nat}:isJ T w Y X ((i,none),c)=if isS T w i=true then Y ((i,none),c) else X ((i,none),c):=by
 by_cases h:isS T w i=true <;> simp [isJ,optS,h]
theorem optJ_end (hc:Cut T' T E Bd) {w:Bs} {Y X:SC→α×SC} {c:Nat}:optJ T' w Y X ((E,none),c)=X ((E,none),c):=by
 simp only [optJ,optS_end hc.k,Bool.false_eq_true,if_false]
theorem isJ_end (hc:Cut T' T E Bd) {w:Bs} {Y X:SC→α×SC} {c:Nat}:isJ T' w Y X ((E,none),c)=X ((E,none),c):=by
 simp only [isJ,optS_end hc.k,Bool.false_eq_true,if_false]
theorem sc_none {s:SC} (h:(Prod.fst s).2=none):∃ i c,s=((i,none),c):=by
 obtain ⟨⟨i,o⟩,c⟩:=s
 have h:o=none:=h
 subst h;exact ⟨i,c,rfl⟩
theorem sc_err {s:SC} (h:(Prod.fst s).2.isSome=true):∃ i e c,s=((i,some e),c):=by
 obtain ⟨⟨i,o⟩,c⟩:=s
 cases o with
 | none=>cases h
 | some e=>exact ⟨i,e,c,rfl⟩
theorem optJ_e {w:Bs} {Y X:SC→α×SC} (hX:∀ s:SC,(Prod.fst s).2.isSome=true→Prod.fst (X s).2=Prod.fst s):∀ s:SC,(Prod.fst s).2.isSome=true→Prod.fst (optJ T w Y X s).2=Prod.fst s:=fun s h=>by
 obtain ⟨i,e,c,rfl⟩:=sc_err h
 simp only [optJ,optS_err,Bool.false_eq_true,if_false]
 exact hX _ rfl
theorem isJ_e {w:Bs} {Y X:SC→α×SC} (hX:∀ s:SC,(Prod.fst s).2.isSome=true→Prod.fst (X s).2=Prod.fst s):∀ s:SC,(Prod.fst s).2.isSome=true→Prod.fst (isJ T w Y X s).2=Prod.fst s:=fun s h=>by
 obtain ⟨i,e,c,rfl⟩:=sc_err h
 simp only [isJ,optS_err,Bool.false_eq_true,if_false]
 exact hX _ rfl
theorem optJ_G (hc:Cut T' T E Bd) (w:Bs) {Y' Y X' X:SC→α×SC} (hY:GDs E Bd Y' Y) (hX:Gs E Bd X' X):Gs E Bd (optJ T' w Y' X') (optJ T w Y X):=by
 refine G.mk' (optJ_e hX.e') (optJ_e hX.e) (fun s h=>?_) (fun s h1 h2 h3=>?_)
 ·obtain ⟨⟨i,o⟩,c⟩:=s
  have q:(i,o)=(E,none):=h.1
  rw [q] at h ⊢
  rw [optJ_end hc]
  exact hX.c1 _ h
 ·obtain ⟨i,c,rfl⟩:=sc_none h1
  have h2:i<E:=h2
  unfold RA RB
  rw [optJ_at,optJ_at,hc.is h2]
  cases isS T w i with
  | false=>exact hX.a ((i,none),c) rfl h2 h3
  | true=>
   simp only [if_true]
   by_cases q:i+1<E
   ·exact hY.a ((i+1,none),c) rfl q h3
   ·have:i+1=E:=by omega
    rw [this]
    rcases hY.c ((E,none),c) ⟨rfl,h3⟩ with r | ⟨j,e,r1,r2⟩ | ⟨r,rd⟩
    ·exact .inr (.inr r)
    ·exact .inr (.inl ⟨j,e,r1,.inr r2⟩)
    ·obtain ⟨j,e,r1⟩:=isS_pair r
     exact .inr (.inl ⟨j,e,r1,.inl (rd _)⟩)
theorem isJ_G (hc:Cut T' T E Bd) (w:Bs) {Y' Y X' X:SC→α×SC} (hY:GDs E Bd Y' Y) (hX:Gs E Bd X' X):Gs E Bd (isJ T' w Y' X') (isJ T w Y X):=by
 refine G.mk' (isJ_e hX.e') (isJ_e hX.e) (fun s h=>?_) (fun s h1 h2 h3=>?_)
 ·obtain ⟨⟨i,o⟩,c⟩:=s
  have q:(i,o)=(E,none):=h.1
  rw [q] at h ⊢
  rw [isJ_end hc]
  exact hX.c1 _ h
 ·obtain ⟨i,c,rfl⟩:=sc_none h1
  have h2:i<E:=h2
  unfold RA RB
  rw [isJ_at,isJ_at,hc.is h2]
  cases isS T w i with
  | false=>exact hX.a ((i,none),c) rfl h2 h3
  | true=>exact hY.a ((i,none),c) rfl h2 h3
def ifF (T:List Tok) (blk:SC→List D×SC):SC→(List D×Option (List D))×SC:=bnd blk fun t=>optJ T [101,108,115,101] (mapR (fun f=>(t,some f)) blk) (retF (t,none))
def ifV (a:Int) (o:D):List D×Option (List D)→D
 | (t,some f)=>smD { smR0 a with k:=4,has:=true } { smT0 with co:=o,th:=t,el:=f }
 | (t,none)=>smD { smR0 a with k:=4 } { smT0 with co:=o,th:=t }
def stmtA (T:List Tok) (blk:SC→List D×SC) (a:Int):SC→D×SC:=
 optJ T [108,101,116] (liftS (letS T a)) (optJ T [105,102] (bnd (liftS (operS T)) fun o=>mapR (ifV a o) (ifF T blk))
  (optJ T [119,104,105,108,101] (bnd (liftS (operS T)) fun o=>mapR (fun t=>smD { smR0 a with k:=5 } { smT0 with co:=o,th:=t }) blk)
   (optJ T [108,111,111,112] (mapR (fun t=>smD { smR0 a with k:=6 } { smT0 with th:=t }) blk)
    (isJ T [123] (mapR (fun t=>smD { smR0 a with k:=7 } { smT0 with th:=t }) blk) (liftS (bnd (plainS T a) fun x=>mapR (fun _=>x) (wantF T [59])))))))
theorem stmtS_A (T:List Tok) (blk:SC→List D×SC) (s:SC):stmtS T blk s=stmtA T blk ((tk T s.1.1).2.2:Int) s:=by
 simp only [stmtS,stmtA,optJ,isJ,liftS,bnd,mapR,wantF,ifF,retF]
 split
 ·rfl
 ·split
  ·split
   ·rename_i h;simp only [h,if_true];rfl
   ·rename_i h;simp only [h,Bool.false_eq_true,if_false];rfl
  ·split
   ·rfl
   ·split
    ·rfl
    ·split
     ·rename_i hn hb
      rfl
     ·rfl
theorem stmtA_G (hc:Cut T' T E Bd) {blk' blk:SC→List D×SC} (hb:GDs E Bd blk' blk) (a:Int):Gs E Bd (stmtA T' blk' a) (stmtA T blk a):=by
 refine optJ_G hc _ (lift_G (let_G hc a)).toGD (optJ_G hc _ ?_ (optJ_G hc _ ?_ (optJ_G hc _ (hb.map _) (isJ_G hc _ (hb.map _) (lift_G ((plain_G hc a).bnd fun x=>(want_G hc _).map _))))))
 ·exact GD.seq (lift_G (oper_G hc)).toGD (hb.bndG fun t=>optJ_G hc _ (hb.map _) (ret_G _)) (ifV a)
 ·exact GD.seq (lift_G (oper_G hc)).toGD hb _
theorem stmtA_T (hc:Cut T' T E Bd) (blk':SC→List D×SC) (a:Int):TE Prod.fst E Bd (stmtA T' blk' a):=fun s h=>by
 obtain ⟨σ,c⟩:=s
 have h:σ=(E,none):=h
 subst h
 refine ⟨E,_,?_,hc.bad⟩
 simp only [stmtA,optJ_end hc,isJ_end hc,liftS,bnd,mapR,wantF,plain_end hc,wantS_err]
theorem stmt_G (hc:Cut T' T E Bd) {blk' blk:SC→List D×SC} (hb:GDs E Bd blk' blk):Gs E Bd (stmtS T' blk') (stmtS T blk):=
 G.mk' (fun s q=>by rw [stmtS_A];exact (stmtA_G hc hb _).e' s q) (fun s q=>by rw [stmtS_A];exact (stmtA_G hc hb _).e s q) (fun s q=>by rw [stmtS_A];exact (stmtA_G hc hb _).c1 s q) (fun s h1 h2 h3=>by
  have h2':s.1.1<E:=h2
  unfold RA RB
  rw [stmtS_A,stmtS_A,hc.lt _ h2']
  exact (stmtA_G hc hb _).a s h1 h2 h3)
theorem stmt_T (hc:Cut T' T E Bd) (blk':SC→List D×SC):TE Prod.fst E Bd (stmtS T' blk'):=fun s h=>by
 rw [stmtS_A];exact stmtA_T hc blk' _ s h
theorem stmts_at {one:SC→D×SC} {f i c:Nat}:stmtsS T one (f+1) ((i,none),c)=if isS T [125] i=true then (([],false),((i+1,none),c)) else if c=2000∧(tk T i).1≠0 then (([],true),(failS T 5 (i,none),c)) else (((one ((i,none),c+1)).1::(stmtsS T one f (one ((i,none),c+1)).2).1.1,(stmtsS T one f (one ((i,none),c+1)).2).1.2),(stmtsS T one f (one ((i,none),c+1)).2).2):=by
 by_cases h:isS T [125] i=true <;> simp [stmtsS,optS,h]
theorem stmts_e {one:SC→D×SC} {f:Nat} {s:SC} (h:(Prod.fst s).2.isSome=true):(stmtsS T one f s).2=s:=by
 obtain ⟨i,e,c,rfl⟩:=sc_err h
 rw [stmts_err]
theorem stmts_T (hc:Cut T' T E Bd) {one':SC→D×SC} (ht:TE Prod.fst E Bd one') (f c:Nat):ErrB Prod.fst Bd (stmtsS T' one' (f+1) ((E,none),c)).2:=by
 have h1:isS T' [125] E=false:=by simp [isS,hc.k]
 rw [stmts_at,h1,if_neg (by simp),if_neg (by simp [hc.k])]
 have h:=ht ((E,none),c+1) rfl
 show ErrB Prod.fst Bd (stmtsS T' one' f (one' ((E,none),c+1)).2).2
 rw [stmts_e h.some];exact h
theorem stmts_S (hc:Cut T' T E Bd) (nz:∀ i,i<E→(tk T i).1≠0) {one' one:SC→D×SC} (ho:Gs E Bd one' one) (ht:TE Prod.fst E Bd one') (hm:∀ i c,c≤2000→c≤(one' ((i,none),c)).2.2):∀ (f i c:Nat),i<E→c≤2000→2001≤c+f→RA Prod.fst invS E (stmtsS T' one' f) (stmtsS T one f) ((i,none),c)∨RB Prod.fst Bd (stmtsS T' one' f) (stmtsS T one f) ((i,none),c):=by
 intro f
 induction f with
 | zero=>intro i c h1 h2 h3;omega
 | succ f ih=>
  intro i c h1 h2 h3
  unfold RA RB
  rw [stmts_at,stmts_at,hc.is h1,hc.lt i h1]
  cases isS T [125] i with
  | true=>exact .inl ⟨rfl,rfl,h1,h2⟩
  | false=>
   simp only [Bool.false_eq_true,if_false]
   by_cases q:c=2000
   ·rw [if_pos ⟨q,nz i h1⟩,if_pos ⟨q,nz i h1⟩]
    simp only [failS]
    exact .inr ⟨i,_,rfl,.inl rfl⟩
   ·rw [if_neg (by omega),if_neg (by omega)]
    have hmm:=hm i (c+1) (by omega)
    rcases ho.a ((i,none),c+1) rfl h1 (by show c+1≤2000;omega) with ⟨r1,r2,r3,r4⟩ | ⟨j,e,r1,r2⟩ | ⟨r1,r2⟩
    ·rw [r1] at hmm ⊢
     generalize one ((i,none),c+1)=z at *
     obtain ⟨x,⟨j,o⟩,c2⟩:=z
     have r2:o=none:=r2
     subst r2
     have r3:j≤E:=r3
     have r4:c2≤2000:=r4
     have hmm:c+1≤c2:=hmm
     dsimp only
     by_cases q2:j<E
     ·rcases ih j c2 q2 r4 (by omega) with ⟨s1,s2⟩ | s
      ·rw [s1];exact .inl ⟨rfl,s2⟩
      ·exact .inr s
     ·have:j=E:=by omega
      subst this
      obtain ⟨f,rfl⟩:∃ m,f=m+1:=⟨f-1,by omega⟩
      obtain ⟨k,e,s1,s2⟩:=stmts_T hc ht f c2
      exact .inr ⟨k,e,s1,.inr s2⟩
    ·refine .inr ⟨j,e,?_,?_⟩
     ·rw [stmts_e (by rw [r1];rfl)];exact r1
     ·rcases r2 with r2 | r2
      ·left;rw [stmts_e r2];exact r2
      ·exact .inr r2
    ·generalize hz:one' ((i,none),c+1)=z at *
     obtain ⟨x,σ,c2⟩:=z
     have r1:σ=(E,none):=r1
     subst r1
     have r2:c2≤2000:=r2
     have hmm:c+1≤c2:=hmm
     obtain ⟨f,rfl⟩:∃ m,f=m+1:=⟨f-1,by omega⟩
     obtain ⟨k,e,s1,s2⟩:=stmts_T hc ht f c2
     exact .inr ⟨k,e,s1,.inr s2⟩
theorem blockS_2 (T:List Tok) (g:Nat) (s:SC):(blockS T (g+1) s).2=(stmtsS T (stmtS T (blockS T g)) 2001 (wantS T [123] s.1,s.2)).2:=by simp only [blockS]
theorem failB_dead:Dead Prod.fst (fun s:SC=>(([]:List D),(failS T 6 s.1,s.2))):=fun s=>by
 obtain ⟨⟨i,o⟩,c⟩:=s
 cases o <;> rfl
def stms (T:List Tok) (one:SC→D×SC) (f:Nat):SC→(List D×Bool)×SC:=stmtsS T one f
def noLong (r:List D×Bool):List D:=if r.2=true then [] else r.1
theorem form_gen (T:List Tok) (F:SC→(List D×Bool)×SC) (s:SC):mapR noLong (bnd (liftS (wantF T [123])) fun _=>F) s=(noLong (F (wantS T [123] s.1,s.2)).1,(F (wantS T [123] s.1,s.2)).2):=rfl
theorem blockS_1 (T:List Tok) (g:Nat) (s:SC) (x:(List D×Bool)×SC) (h:stmtsS T (stmtS T (blockS T g)) 2001 (wantS T [123] s.1,s.2)=x):blockS T (g+1) s=(noLong x.1,x.2):=by
 simp only [blockS,h,noLong]
theorem blockS_form (T:List Tok) (g:Nat):blockS T (g+1)=mapR noLong (bnd (liftS (wantF T [123])) fun _=>stms T (stmtS T (blockS T g)) 2001):=by
 funext s
 rw [form_gen]
 exact blockS_1 T g s _ rfl
theorem stms_cut (hc:Cut T' T E Bd) (nz:∀ i,i<E→(tk T i).1≠0) {one' one:SC→D×SC} (ho:Gs E Bd one' one) (ht:TE Prod.fst E Bd one') (hm:∀ i c,c≤2000→c≤(one' ((i,none),c)).2.2) (f:Nat) (hf:2001≤f):Gs E Bd (stms T' one' f) (stms T one f)∧SE Prod.fst invS E Bd (stms T' one' f) (stms T one f)∧TE Prod.fst E Bd (stms T' one' f):=by
 have s1:SE Prod.fst invS E Bd (stms T' one' f) (stms T one f):=fun s h1 h2 h3=>by
  obtain ⟨i,c,rfl⟩:=sc_none h1
  exact stmts_S hc nz ho ht hm f i c h2 h3 (by omega)
 have t1:TE Prod.fst E Bd (stms T' one' f):=fun s h=>by
  obtain ⟨σ,c⟩:=s
  have h:σ=(E,none):=h
  subst h
  obtain ⟨f,rfl⟩:∃ m,f=m+1:=⟨f-1,by omega⟩
  exact stmts_T hc ht f c
 exact ⟨G.mk' (fun s q=>by unfold stms;rw [stmts_e q]) (fun s q=>by unfold stms;rw [stmts_e q]) (fun s q=>.inr (t1 s q.1)) (fun s h1 h2 h3=>(s1 s h1 h2 h3).elim .inl fun h=>.inr (.inl h)),s1,t1⟩
theorem block_key (hc:Cut T' T E Bd) (nz:∀ i,i<E→(tk T i).1≠0) (g:Nat) (ih:GDs E Bd (blockS T' g) (blockS T g)):Gs E Bd (blockS T' (g+1)) (blockS T (g+1))∧SE Prod.fst invS E Bd (blockS T' (g+1)) (blockS T (g+1))∧TE Prod.fst E Bd (blockS T' (g+1)):=by
 have hm:∀ i c,c≤2000→c≤(stmtS T' (blockS T' g) ((i,none),c)).2.2:=fun i c h=>(stmtS_K (fun s hs=>blockS_K g s hs) (.inl (.inl h))).2
 obtain ⟨g1,s1,t1⟩:=stms_cut hc nz (stmt_G hc ih) (stmt_T hc _) hm 2001 (Nat.le_refl _)
 rw [blockS_form,blockS_form]
 exact ⟨((lift_G (want_G hc _)).bnd fun _=>g1).map _,(SE.bnd (lift_G (want_G hc _)) (fun _=>g1) (fun _=>s1) (fun _=>t1)).map _,(TE.left (lift_T (want_T hc _)) fun _=>g1.e').map _⟩
theorem block_cut (hc:Cut T' T E Bd) (nz:∀ i,i<E→(tk T i).1≠0):∀ g,GDs E Bd (blockS T' g) (blockS T g)∧Gs E Bd (blockS T' (g+1)) (blockS T (g+1))∧SE Prod.fst invS E Bd (blockS T' (g+1)) (blockS T (g+1))∧TE Prod.fst E Bd (blockS T' (g+1)):=by
 have all:∀ g,GDs E Bd (blockS T' g) (blockS T g):=fun g=>by
  induction g with
  | zero=>exact ⟨fun s h=>by obtain ⟨i,e,c,rfl⟩:=sc_err h;rfl,fun s h=>by obtain ⟨i,e,c,rfl⟩:=sc_err h;rfl,fun s h=>.inr (.inr ⟨failB_dead s,failB_dead⟩),fun s h1 h2 h3=>.inr (.inl (RB.of_dead (failB_dead s) (failB_dead s)))⟩
  | succ g ih=>exact (block_key hc nz g ih).1.toGD
 exact fun g=>⟨all g,block_key hc nz g (all g)⟩
theorem struct_cut (hc:Cut T' T E Bd) (pub:Bool) (a:Int):Gt E Bd (structS T' pub a) (structS T pub a)∧SE id (fun _=>True) E Bd (structS T' pub a) (structS T pub a)∧TE id E Bd (structS T' pub a):=by
 have h:∀ T,structS T pub a=bnd (textS T 1) fun n=>bnd (lifesS T) fun l=>bnd (wantF T [123]) fun _=>optI T [125] (retF (strD pub n l [] a)) (bnd (listE T (fieldS T) [44]) fun fs=>mapR (fun _=>strD pub n l fs a) (wantF T [125])):=fun T=>rfl
 rw [h,h]
 have l1:=listE_G hc (field_G hc) [44]
 have g4:∀ n l,Gt E Bd (bnd (listE T' (fieldS T') [44]) fun fs=>mapR (fun _=>strD pub n l fs a) (wantF T' [125])) (bnd (listE T (fieldS T) [44]) fun fs=>mapR (fun _=>strD pub n l fs a) (wantF T [125])):=fun n l=>l1.bnd fun fs=>(want_G hc _).map _
 have s4:∀ n l,SE id (fun _=>True) E Bd (bnd (listE T' (fieldS T') [44]) fun fs=>mapR (fun _=>strD pub n l fs a) (wantF T' [125])) (bnd (listE T (fieldS T) [44]) fun fs=>mapR (fun _=>strD pub n l fs a) (wantF T [125])):=fun n l=>SE.bnd l1 (fun fs=>(want_G hc _).map _) (fun fs=>(want_S hc _).map _) (fun fs=>(want_T hc _).map _)
 have t4:∀ n l,TE id E Bd (bnd (listE T' (fieldS T') [44]) fun fs=>mapR (fun _=>strD pub n l fs a) (wantF T' [125])):=fun n l=>TE.right (fun _=>trivial) l1 (fun fs=>(want_T hc _).map _) (fun fs=>((want_G hc _).map _).e')
 have g3:=fun n l=>optI_G hc [125] (ret_G (strD pub n l [] a)).toGD (g4 n l)
 have s3:=fun n l=>optI_S hc [125] (y:=strD pub n l [] a) (s4 n l)
 have t3:=fun n l=>optI_T hc [125] (Y':=retF (strD pub n l [] a)) (t4 n l)
 have g2:=fun n l=>(want_G hc [123]).bnd fun _=>g3 n l
 have s2:=fun n l=>SE.bnd (want_G hc [123]) (fun _=>g3 n l) (fun _=>s3 n l) (fun _=>t3 n l)
 have t2:=fun n l=>TE.left (want_T hc [123]) fun _=>(g3 n l).e'
 have g1:=fun n=>(lifes_G hc).bnd fun l=>g2 n l
 have s1:=fun n=>SE.bnd (lifes_G hc) (fun l=>g2 n l) (fun l=>s2 n l) (fun l=>t2 n l)
 have t1:=fun n=>TE.right (fun _=>trivial) (lifes_G hc) (fun l=>t2 n l) (fun l=>(g2 n l).e')
 exact ⟨(text_G hc 1 (by decide)).bnd fun n=>g1 n,SE.bnd (text_G hc 1 (by decide)) (fun n=>g1 n) (fun n=>s1 n) (fun n=>t1 n),TE.right (fun _=>trivial) (text_G hc 1 (by decide)) (fun n=>t1 n) (fun n=>(g1 n).e')⟩
abbrev HdR:=Bs×List D×List D×D
def headS (T:List Tok):St→HdR×St:=
 bnd (textS T 1) fun n=>bnd (optI T [60] (bnd (listE T (lifS T) [44]) fun l=>mapR (fun _=>l) (wantF T [62])) (retF [])) fun l=>bnd (wantF T [40]) fun _=>bnd (optI T [41] (retF []) (bnd (listE T (paramS T) [44]) fun p=>mapR (fun _=>p) (wantF T [41]))) fun p=>bnd (optI T [45,62] (typS T 64) (retF ty0D)) fun t=>retF (n,l,p,t)
theorem head_G (hc:Cut T' T E Bd):Gt E Bd (headS T') (headS T):=
 (text_G hc 1 (by decide)).bnd fun n=>(optI_G hc _ ((listE_G hc (lif_G hc) _).bnd fun l=>(want_G hc _).map _).toGD (ret_G _)).bnd fun l=>(want_G hc _).bnd fun _=>(optI_G hc _ (ret_G _).toGD ((listE_G hc (param_G hc) _).bnd fun p=>(want_G hc _).map _)).bnd fun p=>(optI_G hc _ (typ64_G hc).toGD (ret_G _)).bnd fun t=>ret_G _
def fnD (pub:Bool) (a:Int) (x:HdR) (b:List D):D:=fuD (fuR0 pub x.1 a) ⟨x.2.1,x.2.2.1,x.2.2.2,b⟩
theorem funcS_eq (T:List Tok) (pub:Bool) (a:Int) (σ:St):funcS T pub a σ=(fnD pub a (headS T σ).1 (blockS T 64 ((headS T σ).2,0)).1,(blockS T 64 ((headS T σ).2,0)).2):=by
 simp only [funcS,headS,bnd,mapR,retF,wantF,optI,fnD]
 split <;> split <;> split <;> rfl
theorem func_cut (hc:Cut T' T E Bd) (nz:∀ i,i<E→(tk T i).1≠0) (pub:Bool) (a:Int) {i:Nat} (hi:i<E):(funcS T' pub a (i,none)=funcS T pub a (i,none)∧(funcS T pub a (i,none)).2.1.2=none∧(funcS T pub a (i,none)).2.1.1≤E)∨∃ j e,(funcS T' pub a (i,none)).2.1=(j,some e)∧((funcS T pub a (i,none)).2.1.2.isSome=true∨Bd e):=by
 obtain ⟨_,bg,bs,bt⟩:=block_cut hc nz 63
 simp only [funcS_eq]
 rcases (head_G hc).a (i,none) rfl hi trivial with ⟨r1,r2,r3,_⟩ | ⟨j,e,r1,r2⟩ | ⟨r,_⟩
 ·rw [r1]
  generalize headS T (i,none)=z at *
  obtain ⟨x,j,o⟩:=z
  have r2:o=none:=r2
  subst r2
  have r3:j≤E:=r3
  dsimp only
  by_cases q:j<E
  ·rcases bs ((j,none),0) rfl q (Nat.zero_le _) with ⟨s1,s2,s3,_⟩ | s
   ·left;exact ⟨by rw [s1],s2,s3⟩
   ·exact .inr s
  ·have:j=E:=by omega
   subst this
   obtain ⟨k,e,s1,s2⟩:=bt ((j,none),0) rfl
   exact .inr ⟨k,e,s1,.inr s2⟩
 ·right
  have r1:(headS T' (i,none)).2=(j,some e):=r1
  have e1:=bg.e' ((headS T' (i,none)).2,0) (by show (headS T' (i,none)).2.2.isSome=true;rw [r1];rfl)
  refine ⟨j,e,e1.trans r1,?_⟩
  rcases r2 with r2 | r2
  ·left
   have e2:=bg.e ((headS T (i,none)).2,0) r2
   have e2:(blockS T 64 ((headS T (i,none)).2,0)).2.1=(headS T (i,none)).2:=e2
   rw [e2];exact r2
  ·exact .inr r2
 ·right
  have r:(headS T' (i,none)).2=(E,none):=r
  obtain ⟨k,e,s1,s2⟩:=bt ((headS T' (i,none)).2,0) r
  exact ⟨k,e,s1,.inr s2⟩
theorem func_last (hc:Cut T' T E Bd) (pub:Bool) (a:Int):∃ e,(funcS T' pub a (E,none)).2.1.2=some e∧Bd e:=by
 rw [funcS_eq]
 have nz':∀ i,i<0→(tk T' i).1≠0:=fun i h=>by omega
 rcases (head_G hc).c1 (E,none) ⟨rfl,trivial⟩ with r | ⟨j,e,r1,r2⟩
 ·have r:(headS T' (E,none)).2=(E,none):=r.1
  show ∃ e,(blockS T' 64 ((headS T' (E,none)).2,0)).2.1.2=some e∧Bd e
  rw [r]
  refine ⟨_,?_,hc.bad⟩
  rw [show (64:Nat)=63+1 from rfl,blockS_2]
  dsimp only
  rw [show wantS T' [123] (E,none)=(E,some (21,((tk T' E).2.2:Int))) by simp only [wantS,optS_end hc.k,Bool.false_eq_true,if_false,failS],stmts_err]
 ·have r1:(headS T' (E,none)).2=(j,some e):=r1
  show ∃ e,(blockS T' 64 ((headS T' (E,none)).2,0)).2.1.2=some e∧Bd e
  rw [r1]
  refine ⟨e,?_,r2⟩
  rw [show (64:Nat)=63+1 from rfl,blockS_2]
  dsimp only
  rw [wantS_err,stmts_err]
end
end Go.Proofs.YtkcjphhjmlienaaGreatDoor.Qp

set_option linter.unusedVariables false
set_option linter.unusedSimpArgs false
open Go Go.Proofs.YtkcjphhjmlienaaGreatDoor.Ai Go.Proofs
namespace Go.Proofs.YtkcjphhjmlienaaGreatDoor.Qp
def itemB (T:List Tok) (pub:Bool) (j:Nat):ItS:=
 let a:Int:=((tk T j).2.2:Int)
 if isS T [115,116,114,117,99,116] j=true then ⟨some (true,(structS T pub a (j+1,none)).1),(structS T pub a (j+1,none)).2.1,inS a (structS T pub a (j+1,none)).2.2,0⟩
 else if isS T [102,110] j=true then ⟨some (false,(funcS T pub a (j+1,none)).1),(funcS T pub a (j+1,none)).2.1.1,inS a (funcS T pub a (j+1,none)).2.1.2,(funcS T pub a (j+1,none)).2.2⟩
 else ⟨none,j,some (21,a,none),0⟩
theorem itemS_B (T:List Tok) (i:Nat):itemS T (i,none)=if isS T [112,117,98] i=true then itemB T true (i+1) else itemB T false i:=by
 have h:∀ (pub:Bool) (j:Nat),(let at_:Int:=((tk T j).2.2:Int)
   let b:=optS T [115,116,114,117,99,116] (j,none)
   if b.1=true then (⟨some (true,(structS T pub at_ b.2).1),(structS T pub at_ b.2).2.1,inS at_ (structS T pub at_ b.2).2.2,0⟩:ItS) else
   let f:=optS T [102,110] b.2
   if f.1=true then ⟨some (false,(funcS T pub at_ f.2).1),(funcS T pub at_ f.2).2.1.1,inS at_ (funcS T pub at_ f.2).2.1.2,(funcS T pub at_ f.2).2.2⟩
   else ⟨none,(failS T 21 f.2).1,flatS (failS T 21 f.2).2,0⟩)=itemB T pub j:=by
  intro pub j
  unfold itemB
  by_cases h1:isS T [115,116,114,117,99,116] j=true
  ·simp only [optS,h1,if_true]
  ·by_cases h2:isS T [102,110] j=true
   ·simp only [optS,h1,Bool.false_eq_true,if_false,h2,if_true]
   ·simp only [optS,h1,Bool.false_eq_true,if_false,h2,failS,flatS]
 unfold itemS
 by_cases h1:isS T [112,117,98] i=true
 ·have e:optS T [112,117,98] (i,none)=(true,(i+1,none)):=by simp only [optS,h1,if_true]
  rw [if_pos h1,← h true (i+1),e]
 ·have e:optS T [112,117,98] (i,none)=(false,(i,none)):=by simp only [optS,h1,Bool.false_eq_true,if_false]
  rw [if_neg h1,← h false i,e]
section
variable {T' T:List Tok} {E:Nat} {Bd:Int×Int→Prop}
theorem is_end (hc:Cut T' T E Bd) (w:Bs):isS T' w E=false:=by simp [isS,hc.k]
def ItC (T' T:List Tok) (E:Nat) (Bd:Int×Int→Prop) (x' x:ItS):Prop:=(x'=x∧x.e=none∧x.i≤E)∨∃ q,x'.e=some q∧(x.e.isSome=true∨Bd (codeP (some q)))
theorem itemB_cut (hc:Cut T' T E Bd) (nz:∀ i,i<E→(tk T i).1≠0) (pub:Bool) {j:Nat} (hj:j≤E):ItC T' T E Bd (itemB T' pub j) (itemB T pub j):=by
 by_cases q:j<E
 ·unfold itemB
  simp only [hc.lt j q,hc.is q]
  generalize ((tk T j).2.2:Int)=a
  by_cases h1:isS T [115,116,114,117,99,116] j=true
  ·simp only [h1,if_true]
   obtain ⟨_,s1,t1⟩:=struct_cut hc pub a
   by_cases q2:j+1<E
   ·rcases s1 (j+1,none) rfl q2 trivial with ⟨r1,r2,r3,_⟩ | ⟨k,⟨e,e'⟩,r1,r2⟩
    ·have r2:(structS T pub a (j+1,none)).2.2=none:=r2
     exact .inl ⟨by rw [r1],by simp only [r2,inS],r3⟩
    ·have r1:(structS T' pub a (j+1,none)).2=(k,some (e,e')):=r1
     refine .inr ⟨(e,a,some e'),by simp only [r1];rfl,?_⟩
     rcases r2 with r2 | r2
     ·left
      obtain ⟨e2,h2⟩:=Option.isSome_iff_exists.1 r2
      have h2:(structS T pub a (j+1,none)).2.2=some e2:=h2
      simp only [h2];rfl
     ·exact .inr r2
   ·have:j+1=E:=by omega
    rw [this]
    obtain ⟨k,⟨e,e'⟩,r1,r2⟩:=t1 (E,none) rfl
    have r1:(structS T' pub a (E,none)).2=(k,some (e,e')):=r1
    exact .inr ⟨(e,a,some e'),by simp only [r1];rfl,.inr r2⟩
  ·simp only [h1,Bool.false_eq_true,if_false]
   by_cases h2:isS T [102,110] j=true
   ·simp only [h2,if_true]
    by_cases q2:j+1<E
    ·rcases func_cut hc nz pub a q2 with ⟨r1,r2,r3⟩ | ⟨k,⟨e,e'⟩,r1,r2⟩
     ·exact .inl ⟨by rw [r1],by simp only [r2,inS],r3⟩
     ·refine .inr ⟨(e,a,some e'),by simp only [r1];rfl,?_⟩
      rcases r2 with r2 | r2
      ·left
       obtain ⟨e2,h2⟩:=Option.isSome_iff_exists.1 r2
       simp only [h2];rfl
      ·exact .inr r2
    ·have:j+1=E:=by omega
     rw [this]
     obtain ⟨⟨e,e'⟩,r1,r2⟩:=func_last hc pub a
     exact .inr ⟨(e,a,some e'),by simp only [r1];rfl,.inr r2⟩
   ·simp only [h2,Bool.false_eq_true,if_false]
    exact .inr ⟨_,rfl,.inl rfl⟩
 ·have:j=E:=by omega
  subst this
  unfold itemB
  simp only [is_end hc,Bool.false_eq_true,if_false]
  exact .inr ⟨_,rfl,.inr hc.bad⟩
theorem item_cut (hc:Cut T' T E Bd) (nz:∀ i,i<E→(tk T i).1≠0) {i:Nat} (hi:i<E):ItC T' T E Bd (itemS T' (i,none)) (itemS T (i,none)):=by
 rw [itemS_B,itemS_B,hc.is hi]
 split
 ·exact itemB_cut hc nz true hi
 ·exact itemB_cut hc nz false (Nat.le_of_lt hi)
theorem itemB_d {T:List Tok} {pub:Bool} {j:Nat} (h:(itemB T pub j).e=none):(itemB T pub j).d.isSome=true:=by
 unfold itemB at h ⊢
 dsimp only at h ⊢
 split
 ·rfl
 ·rename_i h1
  split
  ·rfl
  ·rename_i h2
   rw [if_neg h1,if_neg h2] at h
   cases h
theorem item_d {T:List Tok} {i:Nat} (h:(itemS T (i,none)).e=none):(itemS T (i,none)).d.isSome=true:=by
 rw [itemS_B] at h ⊢
 split
 ·rename_i h1;rw [if_pos h1] at h;exact itemB_d h
 ·rename_i h1;rw [if_neg h1] at h;exact itemB_d h
theorem add_len {d:Option (Bool×D)} (h:d.isSome=true):(addX d []).length+(addY d []).length=1:=by
 obtain ⟨⟨b,x⟩,rfl⟩:=Option.isSome_iff_exists.1 h
 cases b <;> rfl
theorem items_cut (hc:Cut T' T E Bd) (nz:∀ i,i<E→(tk T i).1≠0):∀ (f i:Nat),i≤E→
  (∀ q,(itemsS T' f i).2=some q→(itemsS T f i).2.isSome=true∨Bd (codeP (some q)))∧
  ((itemsS T' f i).2=none→(itemsS T' f i).1.1.length+(itemsS T' f i).1.2.length≤f∧(i<E→0<(itemsS T' f i).1.1.length+(itemsS T' f i).1.2.length)∧
   itemsS T f i=(((itemsS T' f i).1.1++(itemsS T (f-((itemsS T' f i).1.1.length+(itemsS T' f i).1.2.length)) E).1.1,(itemsS T' f i).1.2++(itemsS T (f-((itemsS T' f i).1.1.length+(itemsS T' f i).1.2.length)) E).1.2),(itemsS T (f-((itemsS T' f i).1.1.length+(itemsS T' f i).1.2.length)) E).2)):=by
 have atE:∀ f,itemsS T' f E=(([],[]),none):=fun f=>by cases f <;> simp only [itemsS,hc.k,if_true]
 intro f
 induction f with
 | zero=>
  intro i hi
  by_cases q:i<E
  ·have n1:(tk T i).1≠0:=nz i q
   simp only [itemsS,hc.lt i q,n1,if_false,failS,flatS]
   exact ⟨fun _ _=>.inl rfl,fun h=>by cases h⟩
  ·have:i=E:=by omega
   subst this
   rw [atE]
   exact ⟨fun q h=>(by cases h),fun _=>⟨by simp,fun h=>by omega,by simp⟩⟩
 | succ f ih=>
  intro i hi
  by_cases q:i<E
  ·have n1:(tk T i).1≠0:=nz i q
   rcases item_cut hc nz q with ⟨r1,r2,r3⟩ | ⟨x,r1,r2⟩
   ·have hd:=item_d r2
    have hl:=add_len hd
    have e1:itemsS T' (f+1) i=((addX (itemS T (i,none)).d []++(itemsS T' f (itemS T (i,none)).i).1.1,addY (itemS T (i,none)).d []++(itemsS T' f (itemS T (i,none)).i).1.2),(itemsS T' f (itemS T (i,none)).i).2):=by
     simp only [itemsS,hc.lt i q,n1,if_false,r1,r2]
    have e2:itemsS T (f+1) i=((addX (itemS T (i,none)).d []++(itemsS T f (itemS T (i,none)).i).1.1,addY (itemS T (i,none)).d []++(itemsS T f (itemS T (i,none)).i).1.2),(itemsS T f (itemS T (i,none)).i).2):=by
     simp only [itemsS,n1,if_false,r2]
    obtain ⟨h1,h2⟩:=ih (itemS T (i,none)).i r3
    rw [e1,e2]
    refine ⟨h1,fun h=>?_⟩
    obtain ⟨g1,g2,g3⟩:=h2 h
    simp only [List.length_append]
    generalize addX (itemS T (i,none)).d []=A at *
    generalize addY (itemS T (i,none)).d []=B at *
    refine ⟨by omega,fun _=>by omega,?_⟩
    rw [show f+1-(A.length+(itemsS T' f (itemS T (i,none)).i).1.1.length+(B.length+(itemsS T' f (itemS T (i,none)).i).1.2.length))=f-((itemsS T' f (itemS T (i,none)).i).1.1.length+(itemsS T' f (itemS T (i,none)).i).1.2.length) by omega,g3]
    simp only [List.append_assoc]
   ·have e1:itemsS T' (f+1) i=(([],[]),some x):=by
     simp only [itemsS,hc.lt i q,n1,if_false,r1]
    rw [e1]
    refine ⟨fun y hy=>?_,fun h=>by cases h⟩
    simp only [Option.some.injEq] at hy
    subst hy
    rcases r2 with r2 | r2
    ·left
     obtain ⟨y,hy⟩:=Option.isSome_iff_exists.1 r2
     simp only [itemsS,n1,if_false,hy,Option.isSome_some]
    ·exact .inr r2
  ·have:i=E:=by omega
   subst this
   rw [atE]
   exact ⟨fun q h=>(by cases h),fun _=>⟨by simp,fun h=>by omega,by simp⟩⟩
end
theorem runN_pre:∀ {t:Bs} {m:Nat},runN t≤m→runN (t.take m)=runN t
 | [],m,_=>by simp
 | c::r,m,h=>by
  simp only [runN] at h ⊢
  split at h
  ·rename_i hc
   obtain ⟨m,rfl⟩:∃ k,m=k+1:=⟨m-1,by omega⟩
   simp only [List.take_succ_cons,runN,hc,if_true]
   rw [runN_pre (by omega)]
  ·rename_i hc
   cases m with
   | zero=>simp only [List.take_zero,runN,hc,Bool.false_eq_true,if_false]
   | succ m=>simp only [List.take_succ_cons,runN,hc,Bool.false_eq_true,if_false]
theorem hasP_pre {p t:Bs} {m:Nat} (h:hasP p (t.take m)=true):hasP p t=true:=by
 simp only [hasP,Bool.and_eq_true,decide_eq_true_eq,eqBytes_eq,beq_iff_eq,List.length_take,List.take_take] at h ⊢
 obtain ⟨h1,h2⟩:=h
 exact ⟨by omega,by rw [Nat.min_eq_left (by omega)] at h2;exact h2⟩
theorem hasP_pre2 {p t:Bs} {m:Nat} (hm:p.length≤m) (h:hasP p t=true):hasP p (t.take m)=true:=by
 simp only [hasP,Bool.and_eq_true,decide_eq_true_eq,eqBytes_eq,beq_iff_eq,List.length_take,List.take_take] at h ⊢
 obtain ⟨h1,h2⟩:=h
 exact ⟨by omega,by rw [Nat.min_eq_left (by omega)];exact h2⟩
theorem blankN_take:∀ {t:Bs} {b:Bool} {m:Nat},blankN b t≤m→blankN b (t.take m)=blankN b t
 | [],b,m,_=>by simp
 | c::r,true,m,h=>by
  simp only [blankN] at h ⊢
  split at h
  ·rename_i hc
   obtain ⟨m,rfl⟩:∃ k,m=k+1:=⟨m-1,by omega⟩
   simp only [List.take_succ_cons,blankN,hc,if_true]
   rw [blankN_take (by omega)]
  ·rename_i hc
   obtain ⟨m,rfl⟩:∃ k,m=k+1:=⟨m-1,by omega⟩
   simp only [List.take_succ_cons,blankN,hc,if_false]
   rw [blankN_take (by omega)]
 | c::r,false,m,h=>by
  simp only [blankN] at h ⊢
  split at h
  ·rename_i hc
   obtain ⟨m,rfl⟩:∃ k,m=k+1:=⟨m-1,by omega⟩
   simp only [List.take_succ_cons,blankN,hc,if_true]
   rw [blankN_take (by omega)]
  ·rename_i hc
   split at h
   ·rename_i hp
    obtain ⟨m,rfl⟩:∃ k,m=k+1:=⟨m-1,by omega⟩
    have h2:1≤blankN true r:=by
     have h1:2≤(c::r).length∧(c::r).take 2=[47,47]:=by
      simpa [hasP,eqBytes_eq] using hp
     cases r with
     | nil=>simp at h1
     | cons d r=>
      have:d=47:=by simpa using (List.cons.inj (List.cons.inj h1.2).2).1
      subst this
      simp [blankN]
    have h3:=hasP_pre2 (p:=[47,47]) (m:=m+1) (by simp;omega) hp
    rw [List.take_succ_cons] at h3 ⊢
    simp only [blankN,hc,Bool.false_eq_true,if_false,h3,hp,if_true]
    rw [blankN_take (by omega)]
   ·rename_i hp
    cases m with
    | zero=>simp only [List.take_zero,blankN,hc,Bool.false_eq_true,if_false,hp]
    | succ m=>
     have h3:hasP [47,47] (c::r.take m)=false:=by
      cases e:hasP [47,47] (c::r.take m) with
      | false=>rfl
      | true=>exact absurd (hasP_pre (m:=m+1) (by rw [List.take_succ_cons];exact e)) (by simpa using hp)
     simp only [List.take_succ_cons,blankN,hc,Bool.false_eq_true,if_false,h3,hp]
theorem take_take' {t:Bs} {n m:Nat} (h:n≤m):(t.take m).take n=t.take n:=by rw [List.take_take,Nat.min_eq_left h]
theorem nextTok_take {t x:Bs} {k:Int} {n m:Nat} (h:nextTok t=some (k,x,n)) (hm:n≤m):nextTok (t.take m)=some (k,x,n):=by
 cases t with
 | nil=>cases h
 | cons c r=>
  have hn:=nextTok_some h
  obtain ⟨m,rfl⟩:∃ k,m=k+1:=⟨m-1,by omega⟩
  rw [List.take_succ_cons]
  rw [nextTok] at h ⊢
  split at h
  ·rename_i h1
   rw [if_pos h1]
   have hr:runN (c::r)≤m+1:=by
    simp only [wordTok] at h
    split at h
    ·simp only [Option.some.injEq,Prod.mk.injEq] at h;omega
    ·split at h
     ·simp only [Option.some.injEq,Prod.mk.injEq] at h;omega
     ·cases h
   have e:=runN_pre hr
   rw [List.take_succ_cons] at e
   simp only [wordTok,e] at h ⊢
   have e2:(c::List.take m r).take (runN (c::r))=(c::r).take (runN (c::r)):=by rw [← List.take_succ_cons,take_take' hr]
   rw [e2];exact h
  ·rename_i h1
   rw [if_neg h1]
   split at h
   ·rename_i h2
    rw [if_pos h2]
    have hr:runN (c::r)≤m+1:=by
     simp only [numTok] at h
     split at h
     ·simp only [Option.some.injEq,Prod.mk.injEq] at h;omega
     ·cases h
    have e:=runN_pre hr
    rw [List.take_succ_cons] at e
    simp only [numTok,e] at h ⊢
    have e2:(c::List.take m r).take (runN (c::r))=(c::r).take (runN (c::r)):=by rw [← List.take_succ_cons,take_take' hr]
    rw [e2];exact h
   ·rename_i h2
    rw [if_neg h2]
    split at h
    ·rename_i h3
     rw [if_pos h3]
     simp only [lifeTok] at h ⊢
     split at h
     ·rename_i h4
      split at h
      ·rename_i h5
       simp only [Option.some.injEq,Prod.mk.injEq] at h
       have hr:runN r≤m:=by omega
       have h6:headB letterB (r.take m)=true:=by
        cases r with
        | nil=>cases h4
        | cons d r=>
         have h4':letterB d=true:=h4
         have:1≤runN (d::r):=by simp [runN,goesB,h4']
         obtain ⟨m,rfl⟩:∃ k,m=k+1:=⟨m-1,by omega⟩
         exact h4'
       rw [if_pos h6,runN_pre hr,if_pos h5,take_take' hr]
       simp only [h,Option.some.injEq,Prod.mk.injEq,and_self]
      ·cases h
     ·cases h
    ·rename_i h3
     rw [if_neg h3]
     simp only [signTok] at h ⊢
     have hne:∀ p:Bs,hasP p (c::r)=false→hasP p (c::r.take m)=false:=fun p hp=>by
      cases e:hasP p (c::r.take m) with
      | false=>rfl
      | true=>rw [hasP_pre (m:=m+1) (by rw [List.take_succ_cons];exact e)] at hp;cases hp
     have hye:∀ p:Bs,p.length≤m+1→hasP p (c::r)=true→hasP p (c::r.take m)=true:=fun p hl hp=>by
      have:=hasP_pre2 (m:=m+1) hl hp
      rwa [List.take_succ_cons] at this
     have hf:findP (c::r.take m) two=findP (c::r) two:=by
      by_cases q:1≤m
      ·have key:∀ p∈two,hasP p (c::r.take m)=hasP p (c::r):=fun p hp=>by
        have hl:p.length≤m+1:=by
         simp only [two,List.mem_cons,List.not_mem_nil,or_false] at hp
         rcases hp with rfl | rfl | rfl <;> simp <;> omega
        cases e:hasP p (c::r) with
        | false=>exact hne p e
        | true=>exact hye p hl e
       simp only [two,findP,key [58,58] (by simp [two]),key [45,62] (by simp [two]),key [61,61] (by simp [two])]
      ·have hm0:m=0:=by omega
       subst hm0
       have hn1:n=1:=by omega
       subst hn1
       have e0:findP (c::r.take 0) two=none:=by simp [two,findP,hasP]
       rw [e0]
       split at h
       ·simp at h
       ·rename_i hf;exact hf.symm
     rw [hf]
     split at h
     ·rename_i p hp;exact h
     ·exact h
theorem lexG_take:∀ (M:Nat) (t:Bs) (a:Nat) (l:List Tok),lexG M t a=.inl l→∀ (k:Nat) (hk:k<l.length),(l[k]).2.2≥a∧(l[k]).2.2≤a+t.length∧∀ M',M≤M'→lexG M' (t.take ((l[k]).2.2-a)) a=.inl (l.take k):=by
 intro M
 induction M with
 | zero=>intro t a l h;cases h
 | succ M ih=>
  intro t a l h k hk
  cases t with
  | nil=>
   simp only [lexG,Sum.inl.injEq] at h
   subst h
   cases hk
  | cons c r=>
   simp only [lexG] at h
   split at h
   ·cases h
   ·rename_i kk x n hx
    split at h
    ·rename_i l' hl
     simp only [Sum.inl.injEq] at h
     subst h
     have hn:=nextTok_some hx
     cases k with
     | zero=>
      refine ⟨Nat.le_refl _,Nat.le_add_right _ _,fun M' hM'=>?_⟩
      obtain ⟨M',rfl⟩:∃ m,M'=m+1:=⟨M'-1,by omega⟩
      simp [lexG]
     | succ k=>
      have hk':k<l'.length:=by simpa using hk
      obtain ⟨g1,g2,g3⟩:=ih _ _ _ hl k hk'
      have hb:=blankN_le ((c::r).drop n) false
      have hd1:((c::r).drop n).length=(c::r).length-n:=List.length_drop ..
      simp only [List.getElem_cons_succ]
      have hd:((c::r).drop (n+blankN false ((c::r).drop n))).length=(c::r).length-(n+blankN false ((c::r).drop n)):=List.length_drop ..
      refine ⟨by omega,by omega,fun M' hM'=>?_⟩
      obtain ⟨M',rfl⟩:∃ m,M'=m+1:=⟨M'-1,by omega⟩
      generalize hm:(l'[k]).2.2-a=m at *
      have hm1:n+blankN false ((c::r).drop n)≤m:=by omega
      obtain ⟨m,rfl⟩:∃ q,m=q+1:=⟨m-1,by omega⟩
      have e1:=nextTok_take hx (m:=m+1) (by omega)
      rw [List.take_succ_cons] at e1 ⊢
      have e2:(c::r.take m).drop n=((c::r).drop n).take (m+1-n):=by rw [← List.take_succ_cons,List.drop_take]
      have e3:blankN false ((c::r.take m).drop n)=blankN false ((c::r).drop n):=by rw [e2];exact blankN_take (by omega)
      simp only [lexG,e1,e3]
      have e4:(c::r.take m).drop (n+blankN false ((c::r).drop n))=((c::r).drop (n+blankN false ((c::r).drop n))).take ((l'[k]).2.2-(a+(n+blankN false ((c::r).drop n)))):=by
       rw [← List.take_succ_cons,List.drop_take];congr 1;omega
      rw [e4,g3 M' (by omega)]
      simp
    ·cases h
end Go.Proofs.YtkcjphhjmlienaaGreatDoor.Qp

set_option linter.unusedVariables false
set_option linter.unusedSimpArgs false
open Go Go.Proofs.YtkcjphhjmlienaaGreatDoor.Ai Go.Proofs
namespace Go.Proofs.YtkcjphhjmlienaaGreatDoor.Qp
section
variable {r x:Bs} {a m:Nat} {l:List Tok} {c d:UInt8}
end
end Go.Proofs.YtkcjphhjmlienaaGreatDoor.Qp

set_option linter.unusedVariables false
set_option linter.unusedSimpArgs false
open Go Go.Proofs.YtkcjphhjmlienaaGreatDoor.Ai Go.Proofs
namespace Go.Proofs.YtkcjphhjmlienaaGreatDoor.Qp
section
variable {T r:List Tok} {i a c:Nat}
end
end Go.Proofs.YtkcjphhjmlienaaGreatDoor.Qp

set_option linter.unusedVariables false
set_option linter.unusedSimpArgs false
open Go Go.Proofs.YtkcjphhjmlienaaGreatDoor.Ai Go.Proofs
namespace Go.Proofs.YtkcjphhjmlienaaGreatDoor.Qp
section
variable {N:Nat}
end
end Go.Proofs.YtkcjphhjmlienaaGreatDoor.Qp

set_option linter.unusedVariables false
set_option linter.unusedSimpArgs false
open Go Go.Proofs.YtkcjphhjmlienaaGreatDoor.Ai Go.Proofs
namespace Go.Proofs.YtkcjphhjmlienaaGreatDoor.Qp
theorem lexT_inv {N:Nat} {s:Bs} {T:List Tok} (h:lexT N s=.inl T):∃ l,lexG N (s.drop (blankN false s)) (blankN false s)=.inl l∧T=l++[(0,[],s.length)]:=by
 unfold lexT at h
 split at h
 ·rename_i l hl
  simp only [Sum.inl.injEq] at h
  exact ⟨l,hl,h.symm⟩
 ·cases h
theorem tk_left {l r:List Tok} {i:Nat} (h:i<l.length):tk (l++r) i=l[i]:=by
 rw [tk_at (by rw [List.length_append];omega),List.getElem_append_left h]
theorem tk_mid {l:List Tok} {t:Tok} {r:List Tok}:tk (l++t::r) l.length=t:=by
 rw [tk_at (by rw [List.length_append,List.length_cons];omega)]
 simp
theorem lexT_nz {N:Nat} {s:Bs} {l:List Tok} (hs:s.length≤3000000) (h:lexG N (s.drop (blankN false s)) (blankN false s)=.inl l) {r:List Tok}:∀ i,i<l.length→(tk (l++r) i).1≠0:=fun i hi=>by
 rw [tk_left hi]
 exact (lexG_ok N _ _ l (by rw [List.length_drop];omega) h _ (List.getElem_mem hi)).2
theorem lexT_pre {N:Nat} {s:Bs} {l:List Tok} (hl:lexG N (s.drop (blankN false s)) (blankN false s)=.inl l) {k:Nat} (hk:k<l.length):(l[k]).2.2≤s.length∧lexT N (s.take (l[k]).2.2)=.inl (l.take k++[(0,[],(l[k]).2.2)]):=by
 obtain ⟨h1,h2,h3⟩:=lexG_take N _ _ l hl k hk
 have hb:=blankN_le s false
 rw [List.length_drop] at h2
 have hp:(l[k]).2.2≤s.length:=by omega
 refine ⟨hp,?_⟩
 have e1:blankN false (s.take (l[k]).2.2)=blankN false s:=blankN_take h1
 unfold lexT
 rw [e1,List.drop_take,h3 N (Nat.le_refl _),List.length_take,Nat.min_eq_left hp]
theorem cut_of {l:List Tok} {k p:Nat} (hk:k<l.length) (r:List Tok):Cut (l.take k++[(0,[],p)]) (l++r) k (fun e=>e=(21,(p:Int))):=by
 have hlen:(l.take k).length=k:=by rw [List.length_take];omega
 have e:tk (l.take k++[(0,[],p)]) k=(0,[],p):=by
  have:=tk_mid (l:=l.take k) (t:=(0,[],p)) (r:=[])
  rw [hlen] at this;exact this
 refine ⟨by rw [e],fun i hi=>?_,by rw [e]⟩
 rw [tk_left (by omega),tk_left (by omega),List.getElem_take]
theorem crateT_err {T:List Tok} {q} (h:(crateT T).2=some q):(itemsS T 256 0).2=some q:=by
 unfold crateT at h
 dsimp only at h
 split at h
 ·rename_i x hx;rw [hx];exact h
 ·cases h
theorem crateT_ok {T:List Tok} (h:(crateT T).2=none):(itemsS T 256 0).2=none∧(crateT T).1=(itemsS T 256 0).1:=by
 unfold crateT at h ⊢
 dsimp only at h ⊢
 split at h
 ·cases h
 ·rename_i hx;rw [hx];exact ⟨rfl,rfl⟩
theorem cuts_plain {N:Nat} {s:Bs} {T:List Tok} (hs:s.length≤3000000) (hl:lexT N s=.inl T) (he:(crateS N s).2=none) {k:Nat} (hk:0<k) (hk2:k+1≤T.length) {t:Bs} (ht:t=if k+1=T.length then s else s.take (tk T k).2.2) :
  (tk T k).2.2≤s.length∧t.length≤s.length∧(∀ q,(crateS N t).2=some q→codeP (some q)=(21,(t.length:Int))∧k+1<T.length)∧((crateS N t).2=none→(crateS N t).1.1.length≤(crateS N s).1.1.length∧(crateS N t).1.2.length≤(crateS N s).1.2.length∧0<(crateS N t).1.1.length+(crateS N t).1.2.length):=by
 obtain ⟨l,hg,rfl⟩:=lexT_inv hl
 rw [List.length_append,List.length_cons,List.length_nil] at hk2
 have hc:crateS N s=crateT (l++[(0,[],s.length)]):=by unfold crateS;rw [hl]
 rw [hc] at he
 obtain ⟨i1,i2⟩:=crateT_ok he
 by_cases q:k+1=(l++[(0,[],s.length)]).length
 ·rw [if_pos q] at ht
  subst ht
  rw [List.length_append,List.length_cons,List.length_nil] at q
  have hkl:k=l.length:=by omega
  subst hkl
  have e0:tk (l++[(0,[],t.length)]) l.length=(0,[],t.length):=tk_mid
  have cc:Cut (l++[(0,[],t.length)]) (l++[(0,[],t.length)]) l.length (fun _=>True):=⟨by rw [e0],fun _ _=>rfl,trivial⟩
  obtain ⟨_,h2⟩:=items_cut cc (lexT_nz hs hg) 256 0 (Nat.zero_le _)
  obtain ⟨_,g2,_⟩:=h2 i1
  rw [e0,hc]
  refine ⟨Nat.le_refl _,Nat.le_refl _,fun x hx=>?_,fun _=>⟨Nat.le_refl _,Nat.le_refl _,?_⟩⟩
  ·rw [he] at hx;cases hx
  ·rw [i2];exact g2 hk
 ·rw [if_neg q] at ht
  rw [List.length_append,List.length_cons,List.length_nil] at q
  have hkl:k<l.length:=by omega
  rw [tk_left hkl] at ht ⊢
  obtain ⟨p1,p2⟩:=lexT_pre hg hkl
  have hct:crateS N t=crateT (l.take k++[(0,[],(l[k]).2.2)]):=by unfold crateS;rw [ht,p2]
  have htl:t.length=(l[k]).2.2:=by rw [ht,List.length_take];omega
  obtain ⟨h1,h2⟩:=items_cut (cut_of hkl [(0,[],s.length)]) (fun i hi=>lexT_nz hs hg i (by omega)) 256 0 (Nat.zero_le _)
  rw [hct,hc]
  refine ⟨p1,by omega,fun x hx=>?_,fun hn=>?_⟩
  ·rcases h1 x (crateT_err hx) with r | r
   ·rw [i1] at r;cases r
   ·rw [List.length_append,List.length_cons,List.length_nil,htl]
    exact ⟨r,by omega⟩
  ·obtain ⟨n1,n2⟩:=crateT_ok hn
   obtain ⟨_,g2,g3⟩:=h2 n1
   rw [n2,i2,g3]
   dsimp only
   rw [List.length_append,List.length_append]
   exact ⟨Nat.le_add_right _ _,Nat.le_add_right _ _,g2 hk⟩
end Go.Proofs.YtkcjphhjmlienaaGreatDoor.Qp

set_option maxRecDepth 100000
set_option linter.unusedVariables false
open Go Go.Proofs.YtkcjphhjmlienaaGreatDoor.Ai Go.Proofs
namespace Go.Proofs.YtkcjphhjmlienaaGreatDoor.Qp
noncomputable def f8 (N:Nat) (a0:List UInt8) (a1:Int) (h:Heap):Option (Bool×Heap):=
 let x1:Bool:=ltInt 1500 (Int.ofNat a0.length)
 (bif x1 then
  (bind2 (f22 N  h) fun (x2:Bool) h3=>
  some (x2,h3))
 else
  (bind2 (f27 N a0 h) fun (x4:((SL×SL×Unit)×AV×Unit)) h5=>
  let h6:Heap:=h5.push (.row [(.slice none 0 0 0),(.slice none 0 0 0)] .own)
  (need (h6.store (h5.next,0) [(.slice x4.1.1.a x4.1.1.len x4.1.1.cap x4.1.1.sz),(.slice x4.1.2.1.a x4.1.2.1.len x4.1.2.1.cap x4.1.2.1.sz)]) fun h7=>
  (bind2 (f28 N a0 h7) fun (x8:(SL×Int×Int×Unit)) h9=>
  (bind2 (α:=(List UInt8×Int×Option (Nat×Nat)×SL×Bool×Unit)) (
  (bindV (.val (.one .bool)) (binA E .neq 29 (.tmp 29) (.const .nilIface) x4.2.1 AV.nilIface) fun (x10:Bool)=>
  (bif x10 then
   some ((a0,a1,(some (h5.next,0)),x8.1,true,()),h9)
  else
   let x11:Bool:=!eqInt x8.2.1 0
   (bif x11 then
   some ((a0,a1,(some (h5.next,0)),x8.1,true,()),h9)
   else
   let x12:Bool:=ltInt (Int.ofNat x8.1.len) 2
   some ((a0,a1,(some (h5.next,0)),x8.1,x12,()),h9))))) fun (j13:(List UInt8×Int×Option (Nat×Nat)×SL×Bool×Unit)) h14=>
  (bif j13.2.2.2.2.1 then
  (bind2 (f22 N  h14) fun (x15:Bool) h16=>
  some (x15,h16))
  else
  let x17:Int:=wrapA .i64 ((Int.ofNat j13.2.2.2.1.len)-1)
  (bindV (.val (.one (.int .i64))) (binInt .rem .i64 j13.2.1 x17) fun (x18:Int)=>
  let x19:Int:=wrapA .i64 (x18+(Int.ofNat j13.2.2.2.1.len))
  let x20:Int:=wrapA .i64 (x19-1)
  let x21:Int:=wrapA .i64 ((Int.ofNat j13.2.2.2.1.len)-1)
  (bindV (.val (.one (.int .i64))) (binInt .rem .i64 x20 x21) fun (x22:Int)=>
  let x23:Int:=wrapA .i64 (x22+1)
  (ixK j13.2.2.2.1.a j13.2.2.2.1.len x23 3 fun q24=>
  (bindV (.val (.one (.int .i64))) (h14.cell (q24.1,q24.2+2)) fun (x25:Int)=>
  (bindV (.val (.one .str)) (sliceA E h14 9 (.str j13.1) none (some (.int .i64 x25))) fun (x26:List UInt8)=>
  (bind2 (α:=(Option (Nat×Nat)×SL×Int×List UInt8×Unit)) (
   let x27:Int:=wrapA .i64 (x22+1)
   let x28:Int:=wrapA .i64 ((Int.ofNat j13.2.2.2.1.len)-1)
   let x29:Bool:=eqInt x27 x28
   (bif x29 then
   some ((j13.2.2.1,j13.2.2.2.1,x22,j13.1,()),h14)
   else
   some ((j13.2.2.1,j13.2.2.2.1,x22,x26,()),h14))) fun (j30:(Option (Nat×Nat)×SL×Int×List UInt8×Unit)) h31=>
  (bind2 (f27 N j30.2.2.2.1 h31) fun (x32:((SL×SL×Unit)×AV×Unit)) h33=>
  let h34:Heap:=h33.push (.row [(.slice none 0 0 0),(.slice none 0 0 0)] .own)
  (need (h34.store (h33.next,0) [(.slice x32.1.1.a x32.1.1.len x32.1.1.cap x32.1.1.sz),(.slice x32.1.2.1.a x32.1.2.1.len x32.1.2.1.cap x32.1.2.1.sz)]) fun h35=>
  (bindV (.val (.one .bool)) (binA E .eql 29 (.tmp 74) (.const .nilIface) x32.2.1 AV.nilIface) fun (x36:Bool)=>
  (bif x36 then
   (bind2 (f22 N  h35) fun (x37:Bool) h38=>
   (bif x37 then
   (bindV (.val (.one .slice)) (h38.cell ((h33.next,0).1,(h33.next,0).2+0)) fun (x39:SL)=>
   (need j30.1 fun q40=>
   (bindV (.val (.one .slice)) (h38.cell (q40.1,q40.2+0)) fun (x41:SL)=>
   let x42:Bool:=leInt (Int.ofNat x39.len) (Int.ofNat x41.len)
   (bif x42 then
    (bindV (.val (.one .slice)) (h38.cell ((h33.next,0).1,(h33.next,0).2+1)) fun (x43:SL)=>
    (need j30.1 fun q44=>
    (bindV (.val (.one .slice)) (h38.cell (q44.1,q44.2+1)) fun (x45:SL)=>
    let x46:Bool:=leInt (Int.ofNat x43.len) (Int.ofNat x45.len)
    (bif x46 then
    (bindV (.val (.one .slice)) (h38.cell ((h33.next,0).1,(h33.next,0).2+0)) fun (x47:SL)=>
    (bindV (.val (.one .slice)) (h38.cell ((h33.next,0).1,(h33.next,0).2+1)) fun (x48:SL)=>
    let x49:Int:=wrapA .i64 ((Int.ofNat x47.len)+(Int.ofNat x48.len))
    let x50:Bool:=ltInt 0 x49
    some (x50,h38)))
    else
    some (false,h38)))))
   else
    some (false,h38)))))
   else
   some (false,h38)))
  else
   (bind2 (f22 N  h35) fun (x51:Bool) h52=>
   (bif x51 then
   (bind2 (f18 N x32.2.1 21 (Int.ofNat j30.2.2.2.1.length) h52) fun (x53:Bool) h54=>
   (bif x53 then
    let x55:Int:=wrapA .i64 (j30.2.2.1+1)
    let x56:Int:=wrapA .i64 ((Int.ofNat j30.2.1.len)-1)
    let x57:Bool:=ltInt x55 x56
    some (x57,h54)
   else
    some (false,h54)))
   else
   some (false,h52)))))))))))))))))))
noncomputable def ann8:Ann:=(.two .n (.two .n (.two .n (.two .n (.two (.two (.join [(0,(.one .str)),(1,(.one (.int .i64))),(5,(.one .ptr)),(7,(.one .slice)),(39,(.one .bool))] .n) .n) (.two .n (.two .n (.two (.join [(5,(.one .ptr)),(7,(.one .slice)),(10,(.one (.int .i64))),(11,(.one .str))] .n) .n))))))))
theorem f8_ok (N:Nat):FnOK Tryz.prog 8 [(.one .str),(.one (.int .i64))] (.val (.one .bool)) (fun x h=>f8 N x.1 x.2.1 h):=
 runK_ok envOK hmix (addCall_ok (f28_ok N) (addCall_ok (f27_ok N) (addCall_ok (f22_ok N) (addCall_ok (f18_ok N) noCalls_ok)))) (N:=N) (x:=ann8) (fn:=Tryz.f8) (c:=Tryz.f8.body.getD .skip) (by kernel_rfl) (by kernel_rfl) (by kernel_rfl) (by kernel_rfl) (fun _ _=>by kernel_rfl)
end Go.Proofs.YtkcjphhjmlienaaGreatDoor.Qp

open Go Go.Proofs.YtkcjphhjmlienaaGreatDoor.Ai Go.Proofs
open Go.RowKit (Below)
set_option maxRecDepth 100000
namespace Go.Proofs.YtkcjphhjmlienaaGreatDoor.Qy
open Qa
def h0:Heap:={ t:=Tr.set (Tr.set .nil 0 (.row [hdl] .ro)) 2 (.row [Qw.sen] .ro),next:=4,pins:=[(0,loc0),(1,loc1),(2,Qw.loc2)] }
def mu0 (l:Ai.Loc):Mu:=fun A=>if A=0 then some loc0 else if A=1 then some loc1 else if A=2 then some Qw.loc2 else if A=3 then some l else none
theorem mu0_inv {l:Ai.Loc} {A:Nat} {m:Ai.Loc} (h:mu0 l A=some m):(A=0∧m=loc0)∨(A=1∧m=loc1)∨(A=2∧m=Qw.loc2)∨(A=3∧m=l):=by
 unfold mu0 at h
 split at h
 ·cases h;exact .inl ⟨by assumption,rfl⟩
 ·split at h
  ·cases h;exact .inr (.inl ⟨by assumption,rfl⟩)
  ·split at h
   ·cases h;exact .inr (.inr (.inl ⟨by assumption,rfl⟩))
   ·split at h
    ·cases h;exact .inr (.inr (.inr ⟨by assumption,rfl⟩))
    ·cases h
theorem h0_inv {A:Nat} {b:Blk} (h:h0.t.get A=some b):(A=0∧b=.row [hdl] .ro)∨(A=2∧b=.row [Qw.sen] .ro):=by
 rcases Tr.get_set h with h | ⟨_,h⟩
 ·exact .inr h
 ·rcases Tr.get_set h with h | ⟨_,h⟩
  ·exact .inl h
  ·simp [Tr.get_nil] at h
theorem h0_rof:Rof h0:=by
 refine ⟨fun A b hA=>?_,fun A hA=>?_⟩
 ·rcases h0_inv hA with ⟨_,rfl⟩ | ⟨_,rfl⟩ <;> exact ⟨_,rfl⟩
 ·cases hb:h0.t.get A with
  | none=>rfl
  | some b=>
   have h1:(4:Nat)≤A:=hA
   rcases h0_inv hb with ⟨h,_⟩ | ⟨h,_⟩ <;> omega
theorem hr0_of {w:World} {l:Ai.Loc} (hs:7<w.heap.size) {e e':TypeId} (hsh:w.shape? 1=some (e,1)) (hc:w.cell? ⟨1,0,none⟩=some (.iface 232 (.agg #[.pointer (some ⟨7,29,none⟩)])))
  (hsh3:w.shape? 3=some (e',1)) (hc3:w.cell? ⟨3,0,none⟩=some (.iface 275 (.pointer (some ⟨l.b,l.sh,none⟩)))) (hl:l.b<w.heap.size):HR (mu0 l) h0 w:=by
 refine ⟨fun A m hA=>?_,fun A B la lb ba bb hA hB gA gB _ _ hne hb=>?_,fun A m b hA hb=>?_,fun x hx=>?_⟩
 ·rcases mu0_inv hA with ⟨rfl,rfl⟩ | ⟨rfl,rfl⟩ | ⟨rfl,rfl⟩ | ⟨rfl,rfl⟩
  ·exact ⟨by show 0<4;omega,by show 1<w.heap.size;omega⟩
  ·exact ⟨by show 1<4;omega,hs⟩
  ·exact ⟨by show 2<4;omega,by show 3<w.heap.size;omega⟩
  ·exact ⟨by show 3<4;omega,hl⟩
 ·rcases h0_inv gA with ⟨_,rfl⟩ | ⟨_,rfl⟩ <;> rcases h0_inv gB with ⟨_,rfl⟩ | ⟨_,rfl⟩ <;> exact ⟨rfl,rfl⟩
 ·rcases h0_inv hb with ⟨rfl,rfl⟩ | ⟨rfl,rfl⟩
  ·rcases mu0_inv hA with ⟨_,rfl⟩ | ⟨h,_⟩ | ⟨h,_⟩ | ⟨h,_⟩
   ·refine ⟨⟨e,hsh⟩,Nat.le_refl _,fun i x hx=>?_⟩
    cases i with
    | zero=>
     have:x=hdl:=by simpa using hx.symm
     subst this
     refine ⟨_,hc,?_⟩
     simp only [hdl,VR,VRs]
     exact ⟨_,rfl,_,rfl,_,[],rfl,⟨loc1,rfl,rfl⟩,rfl⟩
    | succ i=>simp at hx
   ·cases h
   ·cases h
   ·cases h
  ·rcases mu0_inv hA with ⟨h,_⟩ | ⟨h,_⟩ | ⟨_,rfl⟩ | ⟨h,_⟩
   ·cases h
   ·cases h
   ·refine ⟨⟨e',hsh3⟩,Nat.le_refl _,fun i x hx=>?_⟩
    cases i with
    | zero=>
     have:x=Qw.sen:=by simpa using hx.symm
     subst this
     refine ⟨_,hc3,?_⟩
     simp only [Qw.sen,VR]
     exact ⟨_,rfl,l,rfl,rfl⟩
    | succ i=>simp at hx
   ·cases h
 ·simp only [h0,List.mem_cons,List.not_mem_nil,or_false] at hx
  rcases hx with rfl | rfl | rfl <;> rfl
theorem h0_pinned:Qw.pinned h0=true:=by kernel_rfl
theorem pinned_le {h:Heap} (hl:HLe h0 h):Qw.pinned h=true∧4≤h.next:=by
 refine ⟨?_,hl.next⟩
 have h1:=h0_pinned
 have g0:h0.t.get 0=some (.row [hdl] .ro):=by kernel_rfl
 have g2:h0.t.get 2=some (.row [Qw.sen] .ro):=by kernel_rfl
 have e0:h.t.get 0=h0.t.get 0:=(hl.get 0 _ g0).trans g0.symm
 have e2:h.t.get 2=h0.t.get 2:=(hl.get 2 _ g2).trans g2.symm
 unfold Qw.pinned Qx.pinned at h1 ⊢
 rw [hl.pins,e0,e2];exact h1
end Go.Proofs.YtkcjphhjmlienaaGreatDoor.Qy

set_option linter.unusedVariables false
set_option linter.unusedSimpArgs false
open Go Go.Proofs.YtkcjphhjmlienaaGreatDoor.Ai Go.Proofs
namespace Go.Proofs.YtkcjphhjmlienaaGreatDoor.Qp
section
variable {N:Nat} {h:Heap} {b:Bool} {n:Nat}
end
theorem park2 (h:Heap) (a b:SL):∃ h',(∀ {β:Type} (K:Heap→Option β),need ((h.push (.row [(.slice none 0 0 0),(.slice none 0 0 0)] .own)).store (h.next,0) [(.slice a.a a.len a.cap a.sz),(.slice b.a b.len b.cap b.sz)]) K=K h')∧Chg [] h h'∧h'.own h.next [SL.av a,SL.av b]:=by
 have o:=own_push h [SL.av sl0,SL.av sl0]
 have c:=chg_push h (.row [SL.av sl0,SL.av sl0] .own)
 have hst:(h.push (.row [SL.av sl0,SL.av sl0] .own)).store (h.next,0) [SL.av a,SL.av b]=some ((h.push (.row [SL.av sl0,SL.av sl0] .own)).put h.next (.row [SL.av a,SL.av b] .own)):=o.store rfl
 refine ⟨_,fun K=>?_,c.put (.inr (Nat.le_refl _)) _,own_put o _⟩
 have e:h.push (.row [(.slice none 0 0 0),(.slice none 0 0 0)] .own)=h.push (.row [SL.av sl0,SL.av sl0] .own):=rfl
 have e2:[(AV.slice a.a a.len a.cap a.sz),(.slice b.a b.len b.cap b.sz)]=[SL.av a,SL.av b]:=rfl
 rw [e,e2,hst,need_some]
theorem ErrW.keep {h h':Heap} {v:AV} {e:Er3} (x:ErrW h v e) (c:Chg [] h h'):ErrW h' v e:=x.chg c (by simp)
theorem told_w {N:Nat} {h:Heap} (hp:Qw.pinned h=true):f22 N h=some (true,h):=by
 have:Qx.pinned h=true:=by simp only [Qw.pinned,Bool.and_eq_true] at hp;exact hp.1.1
 exact f22_eq this
section
variable {h:Heap}
end
end Go.Proofs.YtkcjphhjmlienaaGreatDoor.Qp

set_option linter.unusedVariables false
set_option linter.unusedSimpArgs false
open Go Go.Proofs.YtkcjphhjmlienaaGreatDoor.Ai Go.Proofs
namespace Go.Proofs.YtkcjphhjmlienaaGreatDoor.Qp
theorem rem_int {x:Int} {m:Nat} (hm:0<m):binInt .rem .i64 x (m:Int)=some (.int .i64 (x.tmod m)):=by
 have:eqInt (m:Int) 0=false:=by rw [eqI];exact decide_eq_false (by omega)
 simp only [binInt,this,cond_false]
theorem tmod_lt {x:Int} {m:Nat} (hm:0<m):-(m:Int)<x.tmod m∧x.tmod m<m:=by
 have h1:=Int.tmod_lt_of_pos x (b:=(m:Int)) (by omega)
 have h2:=Int.tmod_lt_of_pos (-x) (b:=(m:Int)) (by omega)
 rw [Int.neg_tmod] at h2
 omega
section
variable {h:Heap}
theorem tok_place {V:Nat→Prop} {v:SL} {T:List Tok} (hs:Sl h V v (T.map tokD)) (h3:v.sz=3) {i:Nat} (hi:i<T.length):h.cell ((v.at i 3).1,(v.at i 3).2+2)=some (.int .i64 ((tk T i).2.2:Int)):=by
 obtain ⟨cs,e⟩:=hs.elt (i:=i) (by rw [List.length_map];exact hi)
 rw [h3] at e
 have hd:=e.dt
 rw [List.getElem_map] at hd
 have:=e.cell 2 (by omega)
 rw [dt_tok' hd] at this
 rw [tk_at hi,this];rfl
theorem f8_eq (hp:Qw.pinned h=true) (h4:4≤h.next) (s:Bs) (cut:Int):∃ h',f8 3000 s cut h=some (true,h'):=by
 unfold f8
 have z:ltInt 1500 (Int.ofNat s.length)=decide (1500<s.length):=lt_nat 1500 _
 simp only [z]
 by_cases q:1500<s.length
 ·simp only [q,decide_true,cond_true,told_w hp,bind2_some]
  exact ⟨_,rfl⟩
 simp only [q,decide_false,cond_false]
 obtain ⟨v1,w1,e1,h5,r1,c1,sv1,sw1,x1⟩:=f27_eq (N:=3000) (s:=s) (by omega) (by omega) (by omega) hp h4
 rw [r1,bind2_some]
 dsimp only
 obtain ⟨h7,p7,d7,o7⟩:=park2 h5 v1 w1
 rw [p7]
 have c7:=c1.trans d7
 obtain ⟨r8,h9,e9,c9,k9⟩:=f28_eq (N:=3000) (s:=s) (by omega) (by omega) (by omega) h7
 rw [e9,bind2_some]
 have c09:=c7.trans c9
 have hp9:=pin_chg c09 (by simp) h4 hp
 have y1:=x1.keep (d7.trans c9)
 cases hcr:(crateS 3000 s).2 with
 | some x=>
  rw [hcr] at y1
  simp only [y1.ne,bindV_some,cast_bool,Option.isSome_some,cond_true,bind2_some,told_w hp9]
  exact ⟨_,rfl⟩
 | none=>
 rw [hcr] at y1
 cases hl:lexT 3000 s with
 | inr a=>
  have:crateS 3000 s=(([],[]),some (20,(a:Int),none)):=by unfold crateS;rw [hl]
  rw [this] at hcr;cases hcr
 | inl T=>
 rw [hl] at k9
 obtain ⟨k1,k2,k3⟩:=k9
 have hlen:r8.1.len=T.length:=by rw [k2.len,List.length_map]
 have n1:eqInt r8.2.1 0=true:=by rw [k1];rfl
 have n2:ltInt (Int.ofNat r8.1.len) 2=decide (T.length<2):=by rw [hlen];exact lt_nat' T.length 2
 simp only [y1.ne,bindV_some,cast_bool,Option.isSome_none,cond_false,n1,Bool.not_true,n2,bind2_some]
 by_cases q2:T.length<2
 ·simp only [q2,decide_true,cond_true,told_w hp9,bind2_some]
  exact ⟨_,rfl⟩
 simp only [q2,decide_false,cond_false]
 obtain ⟨m,hm⟩:∃ m,T.length=m+1:=⟨T.length-1,by omega⟩
 have hm0:0<m:=by omega
 have b1:wrapA .i64 (Int.ofNat r8.1.len-1)=(m:Int):=by
  rw [hlen,hm]
  rw [show Int.ofNat (m+1)-1=(m:Int) by simp only [Int.ofNat_eq_natCast];omega]
  exact wrap_nat (by omega)
 obtain ⟨t1,t2⟩:=tmod_lt (x:=cut) hm0
 obtain ⟨u,hu⟩:∃ u:Nat,cut.tmod m+m=(u:Int):=⟨(cut.tmod m+m).toNat,by omega⟩
 have b2:wrapA .i64 (wrapA .i64 (cut.tmod m+Int.ofNat r8.1.len)-1)=(u:Int):=by
  rw [hlen,hm,Int.ofNat_eq_natCast,wrapA_small (x:=cut.tmod m+((m+1:Nat):Int)) (by omega) (by omega)]
  rw [wrapA_small (by omega) (by omega)];omega
 simp only [b1,rem_int hm0,bindV_some,cast_int,b2]
 simp only [show (u:Int).tmod (m:Int)=((u % m:Nat):Int) by rw [Int.tmod_eq_emod_of_nonneg (by omega)];rfl]
 have hk0:=Nat.mod_lt u hm0
 generalize u % m=k0 at hk0 ⊢
 have b3:wrapA .i64 ((k0:Int)+1)=((k0+1:Nat):Int):=wrap_succ (by omega)
 simp only [b3]
 have hz:r8.1.sz=3:=by
  rcases k2 with ⟨_,_,_,g4⟩ | ⟨A,cs,st',vs,_,g2,_⟩
  ·have:T.length=0:=by rw [← List.length_map (f:=tokD),g4];rfl
   omega
  ·exact g2
 rw [k2.sl.ix (by rw [List.length_map];omega),tok_place k2.sl hz (by omega)]
 simp only [bindV_some,cast_int]
 obtain ⟨P1,P2,P3,P4⟩:=cuts_plain (N:=3000) (by omega) hl hcr (k:=k0+1) (by omega) (by omega) rfl
 rw [slice_upto P1]
 simp only [bindV_some,cast_str]
 have b4:eqInt ((k0+1:Nat):Int) (m:Int)=decide (k0+1=m):=by
  rw [eqI]
  by_cases g:k0+1=m
  ·rw [decide_eq_true g,decide_eq_true (by omega)]
  ·rw [decide_eq_false g,decide_eq_false (by omega)]
 have b5:(bif decide (k0+1=m) then some ((some (h5.next,0),r8.1,(k0:Int),s,()),h9) else some ((some (h5.next,0),r8.1,(k0:Int),s.take (tk T (k0+1)).2.2,()),h9))=some ((some (h5.next,0),r8.1,(k0:Int),(if k0+1+1=T.length then s else s.take (tk T (k0+1)).2.2),()),h9):=by
  by_cases g:k0+1=m
  ·rw [decide_eq_true g,if_pos (by omega)];rfl
  ·rw [decide_eq_false g,if_neg (by omega)];rfl
 simp only [b4]
 rw [b5,bind2_some]
 dsimp only
 generalize (if k0+1+1=T.length then s else s.take (tk T (k0+1)).2.2)=t at *
 obtain ⟨v2,w2,e2,h33,r2,c33,sv2,sw2,x2⟩:=f27_eq (N:=3000) (s:=t) (by omega) (by omega) (by omega) hp9 (Nat.le_trans h4 c09.next)
 rw [r2,bind2_some]
 dsimp only
 obtain ⟨h35,p35,d35,o35⟩:=park2 h33 v2 w2
 rw [p35]
 have c35:=c33.trans d35
 have c035:=c09.trans c35
 have hp35:=pin_chg c035 (by simp) h4 hp
 have y2:=x2.keep d35
 have o1:=o7.chg (c9.trans c35) (by simp)
 cases hct:(crateS 3000 t).2 with
 | some x=>
  rw [hct] at y2
  obtain ⟨g1,g2⟩:=P3 x hct
  have z1:=f18_w (N:=3000) y2 (by omega) 21 (Int.ofNat t.length)
  rw [decide_eq_true (show codeP (some x)=(21,Int.ofNat t.length) from g1)] at z1
  have z2:ltInt ((k0+1:Nat):Int) (m:Int)=true:=by rw [lt_nat'];exact decide_eq_true (by omega)
  simp only [y2.eq,bindV_some,cast_bool,Option.isNone_some,cond_false,told_w hp35,bind2_some,cond_true,z1,b3,b1,z2]
  exact ⟨_,rfl⟩
 | none=>
  rw [hct] at y2
  obtain ⟨g1,g2,g3⟩:=P4 hct
  have ka:h35.cell (h33.next,0)=some (SL.av v2):=o35.cell 0
  have kb:h35.cell (h33.next,1)=some (SL.av w2):=o35.cell 1
  have kc:h35.cell (h5.next,0)=some (SL.av v1):=o1.cell 0
  have kd:h35.cell (h5.next,1)=some (SL.av w1):=o1.cell 1
  have l1:v2.len=(crateS 3000 t).1.1.length:=sv2.len
  have l2:w2.len=(crateS 3000 t).1.2.length:=sw2.len
  have l3:v1.len=(crateS 3000 s).1.1.length:=sv1.len
  have l4:w1.len=(crateS 3000 s).1.2.length:=sw1.len
  have leI:∀ a b:Nat,leInt (Int.ofNat a) (Int.ofNat b)=decide (a≤b):=fun a b=>by rw [leInt_eq];exact decide_eq_decide.2 (by simp only [Int.ofNat_eq_natCast];omega)
  have z1:leInt (Int.ofNat v2.len) (Int.ofNat v1.len)=true:=by rw [leI,l1,l3];exact decide_eq_true g1
  have z2:leInt (Int.ofNat w2.len) (Int.ofNat w1.len)=true:=by rw [leI,l2,l4];exact decide_eq_true g2
  have big1:v2.len≤256∧w2.len≤256:=by
   rw [l1,l2]
   have ht2:∃ T2,lexT 3000 t=.inl T2:=by
    cases hl2:lexT 3000 t with
    | inl T2=>exact ⟨T2,rfl⟩
    | inr a=>
     have:crateS 3000 t=(([],[]),some (20,(a:Int),none)):=by unfold crateS;rw [hl2]
     rw [this] at hct;cases hct
   obtain ⟨T2,hT2⟩:=ht2
   obtain ⟨l2',hg2,rfl⟩:=lexT_inv hT2
   have hc2:crateS 3000 t=crateT (l2'++[(0,[],t.length)]):=by unfold crateS;rw [hT2]
   rw [hc2] at hct ⊢
   obtain ⟨i1,i2⟩:=crateT_ok hct
   have e0:tk (l2'++[(0,[],t.length)]) l2'.length=(0,[],t.length):=tk_mid
   have cc:Cut (l2'++[(0,[],t.length)]) (l2'++[(0,[],t.length)]) l2'.length (fun _=>True):=⟨by rw [e0],fun _ _=>rfl,trivial⟩
   obtain ⟨_,h2⟩:=items_cut cc (lexT_nz (by omega) hg2) 256 0 (Nat.zero_le _)
   obtain ⟨g1,_,_⟩:=h2 i1
   rw [i2];omega
  have z3:ltInt 0 (wrapA .i64 (Int.ofNat v2.len+Int.ofNat w2.len))=true:=by
   have e:wrapA .i64 (Int.ofNat v2.len+Int.ofNat w2.len)=((v2.len+w2.len:Nat):Int):=by
    simp only [Int.ofNat_eq_natCast]
    rw [wrapA_small (by omega) (by omega)];rfl
   rw [e,show (0:Int)=((0:Nat):Int) from rfl,lt_nat']
   exact decide_eq_true (by omega)
  simp only [y2.eq,bindV_some,cast_bool,Option.isNone_none,cond_true,told_w hp35,bind2_some,Nat.zero_add,need_some,ka,kb,kc,kd,SL.av,cast_slice,z1,z2,z3]
  exact ⟨_,rfl⟩
end
theorem cutslaw_true {H:Type} (h:Heap) (hp:Qw.pinned h=true) (h2:4≤h.next) (vs:List AV) (ds:List (DataW H)) (hr:RdArgs Tryz.prog h [9,3] vs ds):∃ xs h',VTy.tos [.one .str,.one (.int .i64)] xs=vs∧(fun (x:vdens [.one .str,.one (.int .i64)]) h=>f8 3000 x.1 x.2.1 h) xs h=some (true,h'):=by
 obtain ⟨cs1,d1,vs1,ds1,rfl,rfl,r1,hr⟩:=hr.cons_inv
 obtain ⟨cs2,d2,vs2,ds2,rfl,rfl,r2,hr⟩:=hr.cons_inv
 obtain ⟨rfl,rfl⟩:=hr.nil_inv
 obtain ⟨s,rfl,rfl,_⟩:=r1.str_inv Tryz.underlying9
 obtain ⟨n,rfl,rfl,_⟩:=r2.int_inv Tryz.underlying3
 obtain ⟨h',e⟩:=f8_eq hp h2 s n
 refine ⟨(s,n,()),h',?_,e⟩
 have a1:∀ v,argOf Tryz.prog 9 [v]=v:=by intro v;kernel_rfl
 have a2:∀ v,argOf Tryz.prog 3 [v]=v:=by intro v;kernel_rfl
 rw [a1,a2];rfl
end Go.Proofs.YtkcjphhjmlienaaGreatDoor.Qp

set_option maxRecDepth 100000
open Go Go.Proofs.YtkcjphhjmlienaaGreatDoor.Ai Go.Proofs
open Go.ChangeShapes Go.WideShapes
namespace Go.Proofs.YtkcjphhjmlienaaGreatDoor.Qp
open Go.Proofs.YtkcjphhjmlienaaGreatDoor
theorem et:Tryz.prog.globalNamed "errors.errorType" = some 1:=by kernel_rfl
theorem gS:Tryz.prog.globalNamed "strconv.ErrSyntax" = some 3:=by kernel_rfl
theorem gSt:(Tryz.prog.globals[3]?).map (·.type)=some 29:=by kernel_rfl
theorem rt:(Tryz.prog.cutTypes.find? (·.1 == "internal/reflectlite.rtype")).map (·.2)=some 232:=by kernel_rfl
theorem oneRow:((List.range 306).filter fun t=>Tryz.prog.rowNamed t [101,114,114,111,114])=[29]:=by kernel_rfl
theorem tsize:Tryz.prog.types.size=306:=by kernel_rfl
theorem hand:typeHandle Tryz.prog 29=.pointer (some ⟨7,29,none⟩):=by kernel_rfl
theorem star : "*" ++ "errors.errorString" = "*errors.errorString":=by decide
theorem row275 (u:TypeId) (h:Tryz.prog.typeName? 3 u=some "*errors.errorString"):u=275:=
 typeName_ptr_named (nm:= "errors.errorString") (by rw [star];kernel_rfl) (by kernel_rfl) (by decide) u (by rw [star];exact h)
theorem und29:∃ ms,Tryz.prog.underlying 29=some (.interface ms):=by
 have:(match Tryz.prog.underlying 29 with | some (.interface _)=>true | _=>false)=true:=by kernel_rfl
 split at this
 ·exact ⟨_,by assumption⟩
 ·cases this
theorem und275:Tryz.prog.underlying 275=some (.pointer 277):=by kernel_rfl
theorem und277:∃ f:Field,Tryz.prog.underlying 277=some (.struct #[f])∧f.type=9∧f.offset=0:=by
 have:(match Tryz.prog.underlying 277 with | some (.struct fs)=>(match fs.toList with | [f]=>Nat.beq f.type 9&&Nat.beq f.offset 0 | _=>false) | _=>false)=true:=by kernel_rfl
 split at this
 ·rename_i fs hfs
  split at this
  ·rename_i f hf
   simp only [Bool.and_eq_true] at this
   have:fs = #[f]:=by rw [← Array.toList_inj,hf]
   subst this
   exact ⟨f,hfs,Nat.eq_of_beq_eq_true (by simp_all),Nat.eq_of_beq_eq_true (by simp_all)⟩
  ·cases this
 ·cases this
theorem undS9:Tryz.prog.underlying 9=some .string:=by kernel_rfl
theorem c277:Tryz.prog.cellsOf 277=1:=by kernel_rfl
theorem cS9:Tryz.prog.cellsOf 9=1:=by kernel_rfl
theorem var_of {W:World} (h:laidMetH Tryz.prog Rows.parseDeepRow.laid W):W.var? Tryz.prog "errors.errorType" = some #[.iface 232 (.agg #[.pointer (some ⟨7,29,none⟩)])]:=by
 have h':laidMet Tryz.prog (Rows.parseDeepRow.laid.filter fun x=>x.2.handleName?.isNone) W∧handlesMet Tryz.prog [("errors.errorType",Rows.laid_errors_errorType)] W:=h
 have h2:=h'.2 _ (List.mem_singleton.2 rfl)
 obtain ⟨name,u,ty,e1,e2,e3,e4,e5⟩:=h2
 have en:name=[101,114,114,111,114]:=(Option.some.inj e1).symm
 subst en
 obtain rfl:=Option.some.inj (rt.symm.trans e2)
 have hm:ty∈(List.range 306).filter fun t=>Tryz.prog.rowNamed t [101,114,114,111,114]:=List.mem_filter.2 ⟨List.mem_range.2 (by rw [← tsize];exact e3),e4⟩
 rw [oneRow] at hm
 obtain rfl:=List.mem_singleton.1 hm
 rw [hand] at e5
 exact e5
theorem sen_of {W:World} (h:laidMetH Tryz.prog Rows.parseDeepRow.laid W):∃ (a:Addr) (s:ByteArray),W.var? Tryz.prog "strconv.ErrSyntax" = some #[.iface 275 (.pointer (some a))]∧W.cell? a=some (.string s):=by
 have h':laidMet Tryz.prog [("math/bits.deBruijn32tab",Rows.laid_math_bits_deBruijn32tab),("math/bits.deBruijn64tab",Rows.laid_math_bits_deBruijn64tab),("internal/strconv.uint64pow10",Rows.laid_internal_strconv_uint64pow10),("strconv.ErrRange",Rows.laid_strconv_ErrRange),("strconv.ErrSyntax",Rows.laid_strconv_ErrSyntax)] W∧handlesMet Tryz.prog [("errors.errorType",Rows.laid_errors_errorType)] W:=h
 obtain ⟨ms,hms⟩:=und29
 obtain ⟨f,hf,hft,hfo⟩:=und277
 obtain ⟨a,s,h1,h2,_⟩:=laid_sentinel h'.1.tail.tail.tail.tail gS gSt hms row275 und275 hf hft hfo undS9 c277 cS9
 exact ⟨a,s,h1,h2⟩
theorem big:7<(begin Tryz.prog (fun _ _=>0) default).world.heap.size:=by
 have:Nat.blt 7 (begin Tryz.prog (fun _ _=>0) default).world.heap.size=true:=by kernel_rfl
 simpa [Nat.blt_eq] using this
theorem gsize:Tryz.prog.globals.size=7:=by kernel_rfl
theorem var_shape {W:World} {n:String} {g:Nat} {v:Value} (hg:Tryz.prog.globalNamed n=some g) (hv:W.var? Tryz.prog n=some #[v]):∃ e,W.shape? g=some (e,1):=by
 unfold World.var? at hv
 rw [hg] at hv
 have hv:(match W.heap[g]? with | some (Obj.cells cs _ _)=>some cs | _=>(Option.none:Option (Array Value)))=some #[v]:=hv
 cases hq:W.heap[g]? with
 | none=>rw [hq] at hv;cases hv
 | some o=>
  rw [hq] at hv
  cases o with
  | cells cs e fz=>
   simp only [Option.some.injEq] at hv
   subst hv
   exact ⟨e,by simp only [World.shape?,hq];rfl⟩
  | _=>cases hv
def locOf (W:World):Ai.Loc:=match W.cell? ⟨3,0,none⟩ with
 | some (.iface _ (.pointer (some a)))=>⟨a.block,a.off,0,false⟩
 | _=>⟨0,0,0,false⟩
theorem start_hr {W:World} (h:laidMetH Tryz.prog Rows.parseDeepRow.laid W) (hs:W.ShapedOpen Tryz.prog):HR (Qy.mu0 (locOf W)) Qy.h0 W:=by
 have hv:=var_of h
 have hc:W.cell? ⟨1,0,none⟩=some (.iface 232 (.agg #[.pointer (some ⟨7,29,none⟩)])):=by simpa using World.var?_cell et hv 0
 obtain ⟨o,_,ho,_⟩:=hs.2 7 (by rw [gsize];omega) big
 have h7:7<W.heap.size:=(Array.getElem?_eq_some_iff.1 ho).1
 obtain ⟨e1,s1⟩:=var_shape et hv
 obtain ⟨a,s,hv3,hca⟩:=sen_of h
 have hc3:W.cell? ⟨3,0,none⟩=some (.iface 275 (.pointer (some a))):=by simpa using World.var?_cell gS hv3 0
 obtain ⟨e3,s3⟩:=var_shape gS hv3
 have hl:locOf W=⟨a.block,a.off,0,false⟩:=by unfold locOf;rw [hc3]
 have ha:a=⟨a.block,a.off,none⟩∧a.block<W.heap.size:=by
  unfold World.cell? at hca
  cases hq:W.heap[a.block]? with
  | none=>rw [hq] at hca;cases hca
  | some o=>
   rw [hq] at hca
   cases o with
   | cells cs e fz=>
    obtain ⟨ab,ao,sp⟩:=a
    cases sp with
    | some x=>simp at hca
    | none=>exact ⟨rfl,(Array.getElem?_eq_some_iff.1 hq).1⟩
   | _=>cases hca
 rw [hl]
 exact Qy.hr0_of h7 s1 hc s3 (by rw [hc3];simp only;rw [← ha.1]) ha.2
theorem start_pinned {h:Heap} (hl:HLe Qy.h0 h):Qw.pinned h=true∧4≤h.next:=Qy.pinned_le hl
end Go.Proofs.YtkcjphhjmlienaaGreatDoor.Qp
