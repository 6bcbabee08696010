import Derived.Test.YtkcjphhjmlienaaGreatDoorXQp2
import Derived.Test.YtkcjphhjmlienaaGreatDoorXQp1
import Derived.Test.YtkcjphhjmlienaaGreatDoorAi3
import Derived.Test.YtkcjphhjmlienaaGreatDoorRows
import Derived.Test.YtkcjphhjmlienaaGreatDoorProg
import Derived.LaidMore
import Derived.LaidHandle
import Derived.Stop.LaidErr
/- Functions of the program as plain functions, and what they come to; part 3. -/
set_option linter.unusedVariables false
set_option linter.unusedSimpArgs false
set_option linter.unusedVariables false
set_option linter.unusedSimpArgs false
open Go Go.Proofs.YtkcjphhjmlienaaGreatDoor.Ai Go.Proofs
namespace Go.Proofs.YtkcjphhjmlienaaGreatDoor.Qp
structure SmR where
 k:Int
 at_:Int
 m:Bool
 nm:Bs
 ty:TyV
 has:Bool
 pl:LfV
 va:VaV
 co:OpV
 th:SL
 el:SL
structure SmT where
 ty:D
 pl:D
 va:D
 co:D
 th:List D
 el:List D
abbrev SmV:=Int×Int×Bool×List UInt8×Int×List UInt8×SL×SL×Bool×List UInt8×SL×Int×Int×Int×List UInt8×SL×Int×Int×List UInt8×SL×Int×List UInt8×SL×List UInt8×SL×SL×Int×Int×List UInt8×SL×SL×SL×Unit
def smx (x:SmV):List AV:=[.int .i64 x.1,.int .i64 x.2.1,.bool x.2.2.1,.str x.2.2.2.1,.int .i64 x.2.2.2.2.1,.str x.2.2.2.2.2.1,.slice x.2.2.2.2.2.2.1.a x.2.2.2.2.2.2.1.len x.2.2.2.2.2.2.1.cap x.2.2.2.2.2.2.1.sz,.slice x.2.2.2.2.2.2.2.1.a x.2.2.2.2.2.2.2.1.len x.2.2.2.2.2.2.2.1.cap x.2.2.2.2.2.2.2.1.sz,.bool x.2.2.2.2.2.2.2.2.1,.str x.2.2.2.2.2.2.2.2.2.1,.slice x.2.2.2.2.2.2.2.2.2.2.1.a x.2.2.2.2.2.2.2.2.2.2.1.len x.2.2.2.2.2.2.2.2.2.2.1.cap x.2.2.2.2.2.2.2.2.2.2.1.sz,.int .i64 x.2.2.2.2.2.2.2.2.2.2.2.1,.int .i64 x.2.2.2.2.2.2.2.2.2.2.2.2.1,.int .i64 x.2.2.2.2.2.2.2.2.2.2.2.2.2.1,.str x.2.2.2.2.2.2.2.2.2.2.2.2.2.2.1,.slice x.2.2.2.2.2.2.2.2.2.2.2.2.2.2.2.1.a x.2.2.2.2.2.2.2.2.2.2.2.2.2.2.2.1.len x.2.2.2.2.2.2.2.2.2.2.2.2.2.2.2.1.cap x.2.2.2.2.2.2.2.2.2.2.2.2.2.2.2.1.sz,.int .i64 x.2.2.2.2.2.2.2.2.2.2.2.2.2.2.2.2.1,.int .i64 x.2.2.2.2.2.2.2.2.2.2.2.2.2.2.2.2.2.1,.str x.2.2.2.2.2.2.2.2.2.2.2.2.2.2.2.2.2.2.1,.slice x.2.2.2.2.2.2.2.2.2.2.2.2.2.2.2.2.2.2.2.1.a x.2.2.2.2.2.2.2.2.2.2.2.2.2.2.2.2.2.2.2.1.len x.2.2.2.2.2.2.2.2.2.2.2.2.2.2.2.2.2.2.2.1.cap x.2.2.2.2.2.2.2.2.2.2.2.2.2.2.2.2.2.2.2.1.sz,.int .i64 x.2.2.2.2.2.2.2.2.2.2.2.2.2.2.2.2.2.2.2.2.1,.str x.2.2.2.2.2.2.2.2.2.2.2.2.2.2.2.2.2.2.2.2.2.1,.slice x.2.2.2.2.2.2.2.2.2.2.2.2.2.2.2.2.2.2.2.2.2.2.1.a x.2.2.2.2.2.2.2.2.2.2.2.2.2.2.2.2.2.2.2.2.2.2.1.len x.2.2.2.2.2.2.2.2.2.2.2.2.2.2.2.2.2.2.2.2.2.2.1.cap x.2.2.2.2.2.2.2.2.2.2.2.2.2.2.2.2.2.2.2.2.2.2.1.sz,.str x.2.2.2.2.2.2.2.2.2.2.2.2.2.2.2.2.2.2.2.2.2.2.2.1,.slice x.2.2.2.2.2.2.2.2.2.2.2.2.2.2.2.2.2.2.2.2.2.2.2.2.1.a x.2.2.2.2.2.2.2.2.2.2.2.2.2.2.2.2.2.2.2.2.2.2.2.2.1.len x.2.2.2.2.2.2.2.2.2.2.2.2.2.2.2.2.2.2.2.2.2.2.2.2.1.cap x.2.2.2.2.2.2.2.2.2.2.2.2.2.2.2.2.2.2.2.2.2.2.2.2.1.sz,.slice x.2.2.2.2.2.2.2.2.2.2.2.2.2.2.2.2.2.2.2.2.2.2.2.2.2.1.a x.2.2.2.2.2.2.2.2.2.2.2.2.2.2.2.2.2.2.2.2.2.2.2.2.2.1.len x.2.2.2.2.2.2.2.2.2.2.2.2.2.2.2.2.2.2.2.2.2.2.2.2.2.1.cap x.2.2.2.2.2.2.2.2.2.2.2.2.2.2.2.2.2.2.2.2.2.2.2.2.2.1.sz,.int .i64 x.2.2.2.2.2.2.2.2.2.2.2.2.2.2.2.2.2.2.2.2.2.2.2.2.2.2.1,.int .i64 x.2.2.2.2.2.2.2.2.2.2.2.2.2.2.2.2.2.2.2.2.2.2.2.2.2.2.2.1,.str x.2.2.2.2.2.2.2.2.2.2.2.2.2.2.2.2.2.2.2.2.2.2.2.2.2.2.2.2.1,.slice x.2.2.2.2.2.2.2.2.2.2.2.2.2.2.2.2.2.2.2.2.2.2.2.2.2.2.2.2.2.1.a x.2.2.2.2.2.2.2.2.2.2.2.2.2.2.2.2.2.2.2.2.2.2.2.2.2.2.2.2.2.1.len x.2.2.2.2.2.2.2.2.2.2.2.2.2.2.2.2.2.2.2.2.2.2.2.2.2.2.2.2.2.1.cap x.2.2.2.2.2.2.2.2.2.2.2.2.2.2.2.2.2.2.2.2.2.2.2.2.2.2.2.2.2.1.sz,.slice x.2.2.2.2.2.2.2.2.2.2.2.2.2.2.2.2.2.2.2.2.2.2.2.2.2.2.2.2.2.2.1.a x.2.2.2.2.2.2.2.2.2.2.2.2.2.2.2.2.2.2.2.2.2.2.2.2.2.2.2.2.2.2.1.len x.2.2.2.2.2.2.2.2.2.2.2.2.2.2.2.2.2.2.2.2.2.2.2.2.2.2.2.2.2.2.1.cap x.2.2.2.2.2.2.2.2.2.2.2.2.2.2.2.2.2.2.2.2.2.2.2.2.2.2.2.2.2.2.1.sz,.slice x.2.2.2.2.2.2.2.2.2.2.2.2.2.2.2.2.2.2.2.2.2.2.2.2.2.2.2.2.2.2.2.1.a x.2.2.2.2.2.2.2.2.2.2.2.2.2.2.2.2.2.2.2.2.2.2.2.2.2.2.2.2.2.2.2.1.len x.2.2.2.2.2.2.2.2.2.2.2.2.2.2.2.2.2.2.2.2.2.2.2.2.2.2.2.2.2.2.2.1.cap x.2.2.2.2.2.2.2.2.2.2.2.2.2.2.2.2.2.2.2.2.2.2.2.2.2.2.2.2.2.2.2.1.sz]
def smv (r:SmR):SmV:=(r.k,r.at_,r.m,r.nm,r.ty.1,r.ty.2.1,r.ty.2.2.1,r.ty.2.2.2.1,r.has,r.pl.1,r.pl.2.1,r.va.1,r.va.2.1,r.va.2.2.1,r.va.2.2.2.1,r.va.2.2.2.2.1,r.va.2.2.2.2.2.1,r.va.2.2.2.2.2.2.1,r.va.2.2.2.2.2.2.2.1,r.va.2.2.2.2.2.2.2.2.1,r.va.2.2.2.2.2.2.2.2.2.1,r.va.2.2.2.2.2.2.2.2.2.2.1,r.va.2.2.2.2.2.2.2.2.2.2.2.1,r.va.2.2.2.2.2.2.2.2.2.2.2.2.1,r.va.2.2.2.2.2.2.2.2.2.2.2.2.2.1,r.va.2.2.2.2.2.2.2.2.2.2.2.2.2.2.1,r.co.1,r.co.2.1,r.co.2.2.1,r.co.2.2.2.1,r.th,r.el,())
def smc (r:SmR):List AV:=smx (smv r)
def smD (r:SmR) (d:SmT):D:=.t [.i r.k,.i r.at_,.b r.m,.s r.nm,d.ty,.b r.has,d.pl,d.va,d.co,.l d.th,.l d.el]
abbrev ty00:TyV:=(0,[],sl0,sl0,())
def smR0 (at_:Int):SmR:=⟨0,at_,false,[],ty00,false,lf0,va0,op00,sl0,sl0⟩
def va00:D:=vaD 0 op0 op0 0 pl0 [] [] []
def ty0D:D:=tyD 0 [] [] []
def smT0:SmT:=⟨ty0D,pl0,va00,op0,[],[]⟩
theorem dt_va0 (h:Heap) (V:Nat→Prop):Dt h V va00 (vac va0):=dt_va (dt_op0 _ _) (dt_op0 _ _) (dt_pl0 _ _) (Sl.nil _ _ _) (Sl.nil _ _ _)
structure SI (T:List Tok) (P:Nat) (X:List Nat) (hb:Heap) (R O:Nat) (r:SmR) (d:SmT) (h:Heap) (σ:St) (st:Int):Prop where
 pc:PC T P (O::R::X) h σ st
 chg:Chg [P] hb h
 oR:h.own R (smc (smR0 0))
 oO:h.own O (smc r)
 le:hb.next≤R∧R<O∧P<hb.next
 dty:Dt h (fun C=>O<C) d.ty (tyc r.ty)
 dpl:Dt h (fun C=>O<C) d.pl (lfc r.pl)
 dva:Dt h (fun C=>O<C) d.va (vac r.va)
 dco:Dt h (fun C=>O<C) d.co (opc r.co)
 dth:Sl h (fun C=>O<C) r.th d.th
 del:Sl h (fun C=>O<C) r.el d.el
section
variable {T:List Tok} {P:Nat} {X:List Nat} {st st':Int} {hb h h':Heap} {R O:Nat} {r r':SmR} {d d':SmT} {σ σ':St}
theorem SI.dt (x:SI T P X hb R O r d h σ st):Dt h (fun C=>O<C) (smD r d) (smc r):=
 dt_t (dp_cons (a:=[_]) (dt_i h _ r.k) (dp_cons (a:=[_]) (dt_i h _ r.at_) (dp_cons (a:=[_]) (dt_b h _ r.m) (dp_cons (a:=[_]) (dt_str h _ r.nm) (dp_cons (a:=tyc r.ty) x.dty (dp_cons (a:=[_]) (dt_b h _ r.has) (dp_cons (a:=lfc r.pl) x.dpl (dp_cons (a:=vac r.va) x.dva (dp_cons (a:=opc r.co) x.dco (dp_cons (a:=[_]) (dt_av.2 x.dth) (dp_cons (a:=[_]) (b:=[]) (dt_av.2 x.del) (dp_nil h _))))))))))))
theorem SI.step2 (x:SI T P X hb R O r d h σ st) (c:Chg [P,O] h h') (y:PC T P (O::R::X) h' σ' st') (o:h'.own O (smc r')) (e:r'.ty=r.ty∧r'.pl=r.pl∧r'.va=r.va∧r'.co=r.co∧r'.th=r.th∧r'.el=r.el):SI T P X hb R O r' d h' σ' st':=by
 obtain ⟨x1,x2,x3,x4,x5,x6,x7,x8,x9,x10,x11⟩:=x
 obtain ⟨e1,e2,e3,e4,e5,e6⟩:=e
 have hM:∀ A,O<A→A ∉ [P,O]:=fun C hC=>by simp;omega
 exact ⟨y,x2.step c (fun A hA hl=>by simp only [List.mem_cons,List.not_mem_nil,or_false] at hA ⊢;omega),x3.chg c (by simp;omega),o,x5,by rw [e1];exact x6.chg c hM,by rw [e2];exact x7.chg c hM,by rw [e3];exact x8.chg c hM,by rw [e4];exact x9.chg c hM,by rw [e5];exact x10.chg c hM,by rw [e6];exact x11.chg c hM⟩
theorem SI.step (x:SI T P X hb R O r d h σ st) (c:Chg [P] h h') (y:PC T P (O::R::X) h' σ' st'):SI T P X hb R O r d h' σ' st':=
 x.step2 (c.mono (by simp)) y (x.oO.chg c (by have:=x.le;simp;omega)) ⟨rfl,rfl,rfl,rfl,rfl,rfl⟩
theorem SI.step0 (x:SI T P X hb R O r d h σ st) (c:Chg [] h h'):SI T P X hb R O r d h' σ st:=x.step (c.mono (by simp)) (x.pc.chg c)
theorem SI.lt (x:SI T P X hb R O r d h σ st):O<h.next:=x.oO.2
theorem SI.put' (x:SI T P X hb R O r d h σ st) (r':SmR):Chg [O] h (h.put O (.row (smc r') .own))∧PC T P (O::R::X) (h.put O (.row (smc r') .own)) σ st∧Chg [P] hb (h.put O (.row (smc r') .own))∧(h.put O (.row (smc r') .own)).own R (smc (smR0 0))∧(h.put O (.row (smc r') .own)).own O (smc r'):=by
 have c:=x.oO.put (smc r')
 have:=x.le
 exact ⟨c,x.pc.chg1 c (by simp),x.chg.step c (fun A hA hl=>by rw [List.mem_singleton] at hA;omega),x.oR.chg c (by simp;omega),own_put x.oO _⟩
theorem SI.setK (x0:SI T P X hb R O r d h σ st) (v:Int):∃ h',h.store (O,0) [.int .i64 v]=some h'∧SI T P X hb R O { r with k:=v } d h' σ st∧Chg [O] h h':=by
 obtain ⟨c,y,cb,oR,oO⟩:=x0.put' { r with k:=v }
 have hM:∀ A,O<A→A ∉ [O]:=fun C hC=>by simp;omega
 exact ⟨_,own_storeN x0.oO (by simp only [smc,smx,smv,over_succ,over_zero,over_nil,Option.map_some]),⟨y,cb,oR,oO,x0.le,x0.dty.chg c hM,x0.dpl.chg c hM,x0.dva.chg c hM,x0.dco.chg c hM,x0.dth.chg c hM,x0.del.chg c hM⟩,c⟩
theorem SI.setM (x0:SI T P X hb R O r d h σ st) (v:Bool):∃ h',h.store (O,2) [.bool v]=some h'∧SI T P X hb R O { r with m:=v } d h' σ st∧Chg [O] h h':=by
 obtain ⟨c,y,cb,oR,oO⟩:=x0.put' { r with m:=v }
 have hM:∀ A,O<A→A ∉ [O]:=fun C hC=>by simp;omega
 exact ⟨_,own_storeN x0.oO (by simp only [smc,smx,smv,over_succ,over_zero,over_nil,Option.map_some]),⟨y,cb,oR,oO,x0.le,x0.dty.chg c hM,x0.dpl.chg c hM,x0.dva.chg c hM,x0.dco.chg c hM,x0.dth.chg c hM,x0.del.chg c hM⟩,c⟩
theorem SI.setN (x0:SI T P X hb R O r d h σ st) (v:Bs):∃ h',h.store (O,3) [.str v]=some h'∧SI T P X hb R O { r with nm:=v } d h' σ st∧Chg [O] h h':=by
 obtain ⟨c,y,cb,oR,oO⟩:=x0.put' { r with nm:=v }
 have hM:∀ A,O<A→A ∉ [O]:=fun C hC=>by simp;omega
 exact ⟨_,own_storeN x0.oO (by simp only [smc,smx,smv,over_succ,over_zero,over_nil,Option.map_some]),⟨y,cb,oR,oO,x0.le,x0.dty.chg c hM,x0.dpl.chg c hM,x0.dva.chg c hM,x0.dco.chg c hM,x0.dth.chg c hM,x0.del.chg c hM⟩,c⟩
theorem SI.setT (x0:SI T P X hb R O r d h σ st) (v:TyV) {x:D} (hd:Dt h (fun C=>O<C) x (tyc v)):∃ h',h.store (O,4) [.int .i64 v.1,.str v.2.1,.slice v.2.2.1.a v.2.2.1.len v.2.2.1.cap v.2.2.1.sz,.slice v.2.2.2.1.a v.2.2.2.1.len v.2.2.2.1.cap v.2.2.2.1.sz]=some h'∧SI T P X hb R O { r with ty:=v } { d with ty:=x } h' σ st∧Chg [O] h h':=by
 obtain ⟨c,y,cb,oR,oO⟩:=x0.put' { r with ty:=v }
 have hM:∀ A,O<A→A ∉ [O]:=fun C hC=>by simp;omega
 exact ⟨_,own_storeN x0.oO (by simp only [smc,smx,smv,over_succ,over_zero,over_nil,Option.map_some]),⟨y,cb,oR,oO,x0.le,hd.chg c hM,x0.dpl.chg c hM,x0.dva.chg c hM,x0.dco.chg c hM,x0.dth.chg c hM,x0.del.chg c hM⟩,c⟩
theorem SI.setH (x0:SI T P X hb R O r d h σ st) (v:Bool):∃ h',h.store (O,8) [.bool v]=some h'∧SI T P X hb R O { r with has:=v } d h' σ st∧Chg [O] h h':=by
 obtain ⟨c,y,cb,oR,oO⟩:=x0.put' { r with has:=v }
 have hM:∀ A,O<A→A ∉ [O]:=fun C hC=>by simp;omega
 exact ⟨_,own_storeN x0.oO (by simp only [smc,smx,smv,over_succ,over_zero,over_nil,Option.map_some]),⟨y,cb,oR,oO,x0.le,x0.dty.chg c hM,x0.dpl.chg c hM,x0.dva.chg c hM,x0.dco.chg c hM,x0.dth.chg c hM,x0.del.chg c hM⟩,c⟩
theorem SI.setP (x0:SI T P X hb R O r d h σ st) (v:LfV) {x:D} (hd:Dt h (fun C=>O<C) x (lfc v)):∃ h',h.store (O,9) [.str v.1,.slice v.2.1.a v.2.1.len v.2.1.cap v.2.1.sz]=some h'∧SI T P X hb R O { r with pl:=v } { d with pl:=x } h' σ st∧Chg [O] h h':=by
 obtain ⟨c,y,cb,oR,oO⟩:=x0.put' { r with pl:=v }
 have hM:∀ A,O<A→A ∉ [O]:=fun C hC=>by simp;omega
 exact ⟨_,own_storeN x0.oO (by simp only [smc,smx,smv,over_succ,over_zero,over_nil,Option.map_some]),⟨y,cb,oR,oO,x0.le,x0.dty.chg c hM,hd.chg c hM,x0.dva.chg c hM,x0.dco.chg c hM,x0.dth.chg c hM,x0.del.chg c hM⟩,c⟩
theorem SI.setV (x0:SI T P X hb R O r d h σ st) (v:VaV) {x:D} (hd:Dt h (fun C=>O<C) x (vac v)):∃ h',h.store (O,11) [.int .i64 v.1,.int .i64 v.2.1,.int .i64 v.2.2.1,.str v.2.2.2.1,.slice v.2.2.2.2.1.a v.2.2.2.2.1.len v.2.2.2.2.1.cap v.2.2.2.2.1.sz,.int .i64 v.2.2.2.2.2.1,.int .i64 v.2.2.2.2.2.2.1,.str v.2.2.2.2.2.2.2.1,.slice v.2.2.2.2.2.2.2.2.1.a v.2.2.2.2.2.2.2.2.1.len v.2.2.2.2.2.2.2.2.1.cap v.2.2.2.2.2.2.2.2.1.sz,.int .i64 v.2.2.2.2.2.2.2.2.2.1,.str v.2.2.2.2.2.2.2.2.2.2.1,.slice v.2.2.2.2.2.2.2.2.2.2.2.1.a v.2.2.2.2.2.2.2.2.2.2.2.1.len v.2.2.2.2.2.2.2.2.2.2.2.1.cap v.2.2.2.2.2.2.2.2.2.2.2.1.sz,.str v.2.2.2.2.2.2.2.2.2.2.2.2.1,.slice v.2.2.2.2.2.2.2.2.2.2.2.2.2.1.a v.2.2.2.2.2.2.2.2.2.2.2.2.2.1.len v.2.2.2.2.2.2.2.2.2.2.2.2.2.1.cap v.2.2.2.2.2.2.2.2.2.2.2.2.2.1.sz,.slice v.2.2.2.2.2.2.2.2.2.2.2.2.2.2.1.a v.2.2.2.2.2.2.2.2.2.2.2.2.2.2.1.len v.2.2.2.2.2.2.2.2.2.2.2.2.2.2.1.cap v.2.2.2.2.2.2.2.2.2.2.2.2.2.2.1.sz]=some h'∧SI T P X hb R O { r with va:=v } { d with va:=x } h' σ st∧Chg [O] h h':=by
 obtain ⟨c,y,cb,oR,oO⟩:=x0.put' { r with va:=v }
 have hM:∀ A,O<A→A ∉ [O]:=fun C hC=>by simp;omega
 exact ⟨_,own_storeN x0.oO (by simp only [smc,smx,smv,over_succ,over_zero,over_nil,Option.map_some]),⟨y,cb,oR,oO,x0.le,x0.dty.chg c hM,x0.dpl.chg c hM,hd.chg c hM,x0.dco.chg c hM,x0.dth.chg c hM,x0.del.chg c hM⟩,c⟩
theorem SI.setC (x0:SI T P X hb R O r d h σ st) (v:OpV) {x:D} (hd:Dt h (fun C=>O<C) x (opc v)):∃ h',h.store (O,26) [.int .i64 v.1,.int .i64 v.2.1,.str v.2.2.1,.slice v.2.2.2.1.a v.2.2.2.1.len v.2.2.2.1.cap v.2.2.2.1.sz]=some h'∧SI T P X hb R O { r with co:=v } { d with co:=x } h' σ st∧Chg [O] h h':=by
 obtain ⟨c,y,cb,oR,oO⟩:=x0.put' { r with co:=v }
 have hM:∀ A,O<A→A ∉ [O]:=fun C hC=>by simp;omega
 exact ⟨_,own_storeN x0.oO (by simp only [smc,smx,smv,over_succ,over_zero,over_nil,Option.map_some]),⟨y,cb,oR,oO,x0.le,x0.dty.chg c hM,x0.dpl.chg c hM,x0.dva.chg c hM,hd.chg c hM,x0.dth.chg c hM,x0.del.chg c hM⟩,c⟩
theorem SI.setTh (x0:SI T P X hb R O r d h σ st) (v:SL) {x:List D} (hd:Sl h (fun C=>O<C) v x):∃ h',h.store (O,30) [.slice v.a v.len v.cap v.sz]=some h'∧SI T P X hb R O { r with th:=v } { d with th:=x } h' σ st∧Chg [O] h h':=by
 obtain ⟨c,y,cb,oR,oO⟩:=x0.put' { r with th:=v }
 have hM:∀ A,O<A→A ∉ [O]:=fun C hC=>by simp;omega
 exact ⟨_,own_storeN x0.oO (by simp only [smc,smx,smv,over_succ,over_zero,over_nil,Option.map_some]),⟨y,cb,oR,oO,x0.le,x0.dty.chg c hM,x0.dpl.chg c hM,x0.dva.chg c hM,x0.dco.chg c hM,hd.chg c hM,x0.del.chg c hM⟩,c⟩
theorem SI.setEl (x0:SI T P X hb R O r d h σ st) (v:SL) {x:List D} (hd:Sl h (fun C=>O<C) v x):∃ h',h.store (O,31) [.slice v.a v.len v.cap v.sz]=some h'∧SI T P X hb R O { r with el:=v } { d with el:=x } h' σ st∧Chg [O] h h':=by
 obtain ⟨c,y,cb,oR,oO⟩:=x0.put' { r with el:=v }
 have hM:∀ A,O<A→A ∉ [O]:=fun C hC=>by simp;omega
 exact ⟨_,own_storeN x0.oO (by simp only [smc,smx,smv,over_succ,over_zero,over_nil,Option.map_some]),⟨y,cb,oR,oO,x0.le,x0.dty.chg c hM,x0.dpl.chg c hM,x0.dva.chg c hM,x0.dco.chg c hM,x0.dth.chg c hM,hd.chg c hM⟩,c⟩
end
def letS (T:List Tok) (at_:Int) (σ:St):D×St:=
 let m:=optS T [109,117,116] σ
 let n:=textS T 1 m.2
 let t:=typS T 64 (wantS T [58] n.2)
 let b:=optS T [61] t.2
 if b.1=true then
  let v:=valueS T b.2
  (smD { smR0 at_ with k:=1,m:=m.1,nm:=n.1,has:=true } { smT0 with ty:=t.1,va:=v.1 },wantS T [59] v.2)
 else (smD { smR0 at_ with k:=1,m:=m.1,nm:=n.1 } { smT0 with ty:=t.1 },wantS T [59] b.2)
section
variable {N:Nat} {T:List Tok} {P:Nat} {X:List Nat} {st:Int} {hb h:Heap} {R O:Nat} {σ:St}
def SmOK (T:List Tok) (P:Nat) (X:List Nat) (hb:Heap) (R O:Nat) (st:Int) (h:Heap) (x:D×St):Prop:=∃ r d,SI T P X hb R O r d h x.2 st∧x.1=smD r d
theorem smD_eq {r r':SmR} {d:SmT} (e:r.k=r'.k∧r.at_=r'.at_∧r.m=r'.m∧r.nm=r'.nm∧r.has=r'.has):smD r d=smD r' d:=by
 obtain ⟨e1,e2,e3,e4,e5⟩:=e
 simp only [smD,e1,e2,e3,e4,e5]
theorem f207_pc (hT:Toks T) (hN:100≤N) {at_:Int} (x:SI T P X hb R O (smR0 at_) smT0 h σ st):∃ h',f207 N (some (P,0)) (some (O,0)) h=some ((),h')∧SmOK T P X hb R O st h' (letS T at_ σ):=by
 unfold f207
 have hO:=x.le
 obtain ⟨h2,e2,c2,y2⟩:=f92_pc (N:=N) hT x.pc (w:=[109,117,116]) (by decide)
 rw [e2,bind2_some]
 have x2:=x.step c2 y2
 simp only [letS]
 generalize (optS T [109,117,116] σ).1=m at *
 generalize (optS T [109,117,116] σ).2=τ at *
 simp only [need_some,Nat.zero_add]
 obtain ⟨h4,e4,x4,c4⟩:=x2.setK 1
 rw [e4,need_some]
 obtain ⟨h6,e6,x6,c6⟩:=x4.setM m
 rw [e6,need_some]
 obtain ⟨f,h8,e8,y8,c8,d8,nm,t,hf,hfd,dt⟩:=f154_pc (N:=N) hT hN x6.pc
 have hnm:nm=(textS T 1 τ).1:=by
  simp only [fieldS,fdD,D.t.injEq,List.cons.injEq,D.s.injEq,true_and,and_true] at hfd
  exact hfd.symm
 rw [e8,bind2_some]
 have x8:=x6.step c8 y8
 have hlt6:=x6.lt
 have hn8:=c8.next
 have oA0:=own_push h8 (fdc fd0)
 have cA0:=chg_push h8 (.row (fdc fd0) .own)
 have eA:h8.push (.row [(.bool false),(.str []),(.int .i64 0),(.str []),(.slice none 0 0 0),(.slice none 0 0 0)] .own)=h8.push (.row (fdc fd0) .own):=rfl
 rw [eA,store6 oA0 f,need_some]
 have oA1:=own_put oA0 (fdc f)
 have cA1:Chg [] h8 ((h8.push (.row (fdc fd0) .own)).put h8.next (.row (fdc f) .own)):=cA0.put (.inr (Nat.le_refl _)) _
 have n1:((h8.push (.row (fdc fd0) .own)).put h8.next (.row (fdc f) .own)).next=h8.next+1:=rfl
 generalize (h8.push (.row (fdc fd0) .own)).put h8.next (.row (fdc f) .own)=h10 at *
 have x10:=x8.step0 cA1
 have dt10:Dt h10 (fun C=>O<C) (typS T 64 (wantS T [58] (textS T 1 τ).2)).1 (tyc t):=(dt.chg cA1 (by simp)).weak fun C hC _=>by omega
 subst hf
 have k1:∀ {H:Heap},H.own h8.next (fdc (fdOf false nm t))→H.cell (h8.next,0+1)=some (.str nm):=fun o=>o.cell 1
 have k2:∀ {H:Heap},H.own h8.next (fdc (fdOf false nm t))→H.cells (h8.next,0+2) 4=some (.agg (tyc t)):=fun o=>o.cells (j:=2) (m:=4) (by show 2+4≤6;omega)
 rw [k1 oA1,bindV_some,cast_str,k2 oA1,agg4]
 have htyc:tyc t=[(.int .i64 t.1),(.str t.2.1),(.slice t.2.2.1.a t.2.2.1.len t.2.2.1.cap t.2.2.1.sz),(.slice t.2.2.2.1.a t.2.2.2.1.len t.2.2.2.1.cap t.2.2.2.1.sz)]:=rfl
 obtain ⟨h14,e14,x14,c14⟩:=x10.setN nm
 try simp only [Nat.zero_add]
 rw [e14,need_some]
 have dt14:=dt10.chg c14 (fun C hC=>by simp;omega)
 obtain ⟨h16,e16,x16,c16⟩:=x14.setT t dt14
 rw [e16,need_some]
 have hOA:h8.next ∉ [O]:=by simp;omega
 have oA14:=oA1.chg c14 hOA
 have q1:h10.cell (h8.next,1)=some (.str nm):=oA1.cell 1
 have q2:h10.cells (h8.next,2) 4=some (.agg [(.int .i64 t.1),(.str t.2.1),(.slice t.2.2.1.a t.2.2.1.len t.2.2.1.cap t.2.2.1.sz),(.slice t.2.2.2.1.a t.2.2.2.1.len t.2.2.2.1.cap t.2.2.2.1.sz)]):=k2 oA1
 have q3:h14.cells (h8.next,2) 4=some (.agg [(.int .i64 t.1),(.str t.2.1),(.slice t.2.2.1.a t.2.2.1.len t.2.2.1.cap t.2.2.1.sz),(.slice t.2.2.2.1.a t.2.2.2.1.len t.2.2.2.1.cap t.2.2.2.1.sz)]):=k2 oA14
 simp only [q1,q2,q3,htyc,sameO_some,cond_true,guardB_true]
 have hσ:(fieldS T τ).2=(typS T 64 (wantS T [58] (textS T 1 τ).2)).2:=rfl
 rw [hσ] at x16
 subst hnm
 generalize (typS T 64 (wantS T [58] (textS T 1 τ).2))=tt at *
 obtain ⟨h18,e18,c18,y18⟩:=f93_pc (N:=N) hT x16.pc (w:=[61]) (by decide)
 rw [e18,bind2_some]
 have x18:=x16.step c18 y18
 obtain ⟨h20,e20,x20,c20⟩:=x18.setH (optS T [61] tt.2).1
 rw [e20,need_some]
 have r20:h20.cell (O,8)=some (.bool (optS T [61] tt.2).1):=x20.oO.cell 8
 simp only [r20,bindV_some,cast_bool]
 cases hbb:(optS T [61] tt.2).1 with
 | true=>
  simp only [cond_true,if_true]
  obtain ⟨v,h24,e24,y24,c24,d24⟩:=f219_pc (N:=N) hT hN x20.pc
  rw [e24,bind2_some]
  have x24:=x20.step c24 y24
  have hlt:=x20.lt
  obtain ⟨h26,e26,x26,c26⟩:=x24.setV v (d24.weak fun C hC _=>by omega)
  rw [e26,need_some]
  obtain ⟨h28,e28,c28,y28⟩:=f149_pc (N:=N) hT x26.pc (w:=[59]) (by decide)
  rw [e28,bind2_some]
  exact ⟨_,rfl,_,_,x26.step c28 y28,smD_eq ⟨rfl,rfl,rfl,rfl,by simp only [hbb]⟩⟩
 | false=>
  simp only [cond_false,Bool.false_eq_true,if_false]
  obtain ⟨h28,e28,c28,y28⟩:=f149_pc (N:=N) hT x20.pc (w:=[59]) (by decide)
  rw [e28,bind2_some]
  exact ⟨_,rfl,_,_,x20.step c28 y28,smD_eq ⟨rfl,rfl,rfl,rfl,by simp only [hbb];rfl⟩⟩
end
end Go.Proofs.YtkcjphhjmlienaaGreatDoor.Qp

set_option linter.unusedVariables false
set_option linter.unusedSimpArgs false
open Go Go.Proofs.YtkcjphhjmlienaaGreatDoor.Ai Go.Proofs
namespace Go.Proofs.YtkcjphhjmlienaaGreatDoor.Qp
def plainS (T:List Tok) (at_:Int) (σ:St):D×St:=
 let a:=optS T [98,114,101,97,107] σ
 if a.1=true then (smD { smR0 at_ with k:=8 } smT0,a.2) else
 let b:=optS T [99,111,110,116,105,110,117,101] a.2
 if b.1=true then (smD { smR0 at_ with k:=9 } smT0,b.2) else
 let c:=optS T [114,101,116,117,114,110] b.2
 if c.1=true then
  if (optS T [59] c.2).1=true then (smD { smR0 at_ with k:=10 } smT0,c.2)
  else (smD { smR0 at_ with k:=10,has:=true } { smT0 with va:=(valueS T c.2).1 },(valueS T c.2).2)
 else
 let d:=optS T [100,114,111,112] c.2
 if d.1=true then (smD { smR0 at_ with k:=11 } { smT0 with pl:=(placeS T d.2).1 },(placeS T d.2).2) else
 if callsS T d.2=true then
  let n:=nameS T d.2
  let l:=argsS T n.2
  (smD { smR0 at_ with k:=3 } { smT0 with va:=vaD 6 op0 op0 0 pl0 n.1 [] l.1 },l.2)
 else
  let p:=placeS T d.2
  let v:=valueS T (wantS T [61] p.2)
  (smD { smR0 at_ with k:=2 } { smT0 with pl:=p.1,va:=v.1 },v.2)
section
variable {T:List Tok} {P:Nat} {X:List Nat} {st st':Int} {hb h h':Heap} {R O:Nat} {r r':SmR} {d d':SmT} {σ σ':St}
theorem SI.stepV (x:SI T P X hb R O r d h σ st) (c:Chg [P,O] h h') (y:PC T P (O::R::X) h' σ' st') {v:VaV} (o:h'.own O (smc { r with va:=v })) {w:D} (hd:Dt h' (fun C=>O<C) w (vac v)):SI T P X hb R O { r with va:=v } { d with va:=w } h' σ' st':=by
 obtain ⟨x1,x2,x3,x4,x5,x6,x7,x8,x9,x10,x11⟩:=x
 have hM:∀ A,O<A→A ∉ [P,O]:=fun C hC=>by simp;omega
 exact ⟨y,x2.step c (fun A hA hl=>by simp only [List.mem_cons,List.not_mem_nil,or_false] at hA ⊢;omega),x3.chg c (by simp;omega),o,x5,x6.chg c hM,x7.chg c hM,hd,x9.chg c hM,x10.chg c hM,x11.chg c hM⟩
end
theorem sa25 (r:SmR) (k op:Int) (a b:OpV) (pl:LfV) (nm:Bs) (v w:SL):(smc { r with va:=vaOf k a b op pl nm v w })[11+14]? = some (SL.av w):=by simp [smc,smx,smv,vaOf,SL.av]
theorem ss25 (r:SmR) (k op:Int) (a b:OpV) (pl:LfV) (nm:Bs) (v w w':SL):(smc { r with va:=vaOf k a b op pl nm v w }).set (11+14) (SL.av w')=smc { r with va:=vaOf k a b op pl nm v w' }:=by simp [smc,smx,smv,vaOf,SL.av]
section
variable {N:Nat} {T:List Tok} {P:Nat} {X:List Nat} {st:Int} {hb h:Heap} {R O:Nat} {σ:St}
theorem f209_pc (hT:Toks T) (hN:100≤N) {at_:Int} (x:SI T P X hb R O (smR0 at_) smT0 h σ st):∃ h',f209 N (some (P,0)) (some (O,0)) h=some ((),h')∧SmOK T P X hb R O st h' (plainS T at_ σ):=by
 unfold f209
 have hO:=x.le
 obtain ⟨h2,e2,c2,y2⟩:=f92_pc (N:=N) hT x.pc (w:=[98,114,101,97,107]) (by decide)
 rw [e2,bind2_some]
 have x2:=x.step c2 y2
 simp only [plainS]
 cases hb1:(optS T [98,114,101,97,107] σ).1 with
 | true=>
  simp only [cond_true,if_true,need_some,Nat.zero_add]
  obtain ⟨h4,e4,x4,c4⟩:=x2.setK 8
  rw [e4,need_some]
  exact ⟨_,rfl,_,_,x4,smD_eq ⟨rfl,rfl,rfl,rfl,rfl⟩⟩
 | false=>
 simp only [cond_false,Bool.false_eq_true,if_false]
 generalize (optS T [98,114,101,97,107] σ).2=σ2 at *
 obtain ⟨h6,e6,c6,y6⟩:=f92_pc (N:=N) hT x2.pc (w:=[99,111,110,116,105,110,117,101]) (by decide)
 rw [e6,bind2_some]
 have x6:=x2.step c6 y6
 cases hb2:(optS T [99,111,110,116,105,110,117,101] σ2).1 with
 | true=>
  simp only [cond_true,if_true,need_some,Nat.zero_add]
  obtain ⟨h8,e8,x8,c8⟩:=x6.setK 9
  rw [e8,need_some]
  exact ⟨_,rfl,_,_,x8,smD_eq ⟨rfl,rfl,rfl,rfl,rfl⟩⟩
 | false=>
 simp only [cond_false,Bool.false_eq_true,if_false]
 generalize (optS T [99,111,110,116,105,110,117,101] σ2).2=σ3 at *
 obtain ⟨h10,e10,c10,y10⟩:=f92_pc (N:=N) hT x6.pc (w:=[114,101,116,117,114,110]) (by decide)
 rw [e10,bind2_some]
 have x10:=x6.step c10 y10
 cases hb3:(optS T [114,101,116,117,114,110] σ3).1 with
 | true=>
  simp only [cond_true,if_true,need_some,Nat.zero_add]
  obtain ⟨h12,e12,x12,c12⟩:=x10.setK 10
  rw [e12,need_some]
  obtain ⟨h14,e14,c14⟩:=f146_pc (N:=N) hT x12.pc (w:=[59]) (by decide)
  rw [e14,bind2_some]
  have x14:=x12.step0 c14
  generalize (optS T [114,101,116,117,114,110] σ3).2=σ4 at *
  obtain ⟨h17,e17,x17,c17⟩:=x14.setH (!(optS T [59] σ4).1)
  rw [e17,need_some]
  have r17:h17.cell (O,8)=some (.bool (!(optS T [59] σ4).1)):=x17.oO.cell 8
  simp only [r17,bindV_some,cast_bool]
  cases hb4:(optS T [59] σ4).1 with
  | true=>
   rw [hb4] at x17
   simp only [Bool.not_true,cond_false,if_true]
   exact ⟨_,rfl,_,_,x17,smD_eq ⟨rfl,rfl,rfl,rfl,rfl⟩⟩
  | false=>
   rw [hb4] at x17
   simp only [Bool.not_false,cond_true,Bool.false_eq_true,if_false]
   obtain ⟨v,h24,e24,y24,c24,d24⟩:=f219_pc (N:=N) hT hN x17.pc
   rw [e24,bind2_some]
   have x24:=x17.step c24 y24
   have hlt:=x17.lt
   obtain ⟨h26,e26,x26,c26⟩:=x24.setV v (d24.weak fun C hC _=>by omega)
   rw [e26,need_some]
   exact ⟨_,rfl,_,_,x26,smD_eq ⟨rfl,rfl,rfl,rfl,rfl⟩⟩
 | false=>
 simp only [cond_false,Bool.false_eq_true,if_false]
 generalize (optS T [114,101,116,117,114,110] σ3).2=σ4 at *
 obtain ⟨h25,e25,c25,y25⟩:=f92_pc (N:=N) hT x10.pc (w:=[100,114,111,112]) (by decide)
 rw [e25,bind2_some]
 have x25:=x10.step c25 y25
 cases hb4:(optS T [100,114,111,112] σ4).1 with
 | true=>
  simp only [cond_true,if_true,need_some,Nat.zero_add]
  obtain ⟨p,h27,e27,y27,c27,d27⟩:=f221_pc (N:=N) hT hN x25.pc
  rw [e27,bind2_some]
  have x27:=x25.step c27 y27
  have hlt:=x25.lt
  obtain ⟨h29,e29,x29,c29⟩:=x27.setK 11
  rw [e29,need_some]
  obtain ⟨h31,e31,x31,c31⟩:=x29.setP p ((d27.weak (W:=fun C=>O<C) fun C hC _=>by omega).chg c29 (fun C hC=>by simp;omega))
  rw [e31,need_some]
  exact ⟨_,rfl,_,_,x31,smD_eq ⟨rfl,rfl,rfl,rfl,rfl⟩⟩
 | false=>
 simp only [cond_false,Bool.false_eq_true,if_false]
 generalize (optS T [100,114,111,112] σ4).2=σ5 at *
 obtain ⟨h33,e33,c33⟩:=f222_pc (N:=N) hT x25.pc
 rw [e33,bind2_some]
 have x33:=x25.step0 c33
 cases hb5:callsS T σ5 with
 | true=>
  simp only [cond_true,if_true,need_some,Nat.zero_add]
  obtain ⟨h35,e35,c35,y35⟩:=f95_pc (N:=N) hT x33.pc
  rw [e35,bind2_some]
  have x35:=x33.step c35 y35
  obtain ⟨h37,e37,x37,c37⟩:=x35.setK 3
  rw [e37,need_some]
  generalize (nameS T σ5).1=nm at *
  generalize (nameS T σ5).2=σ6 at *
  obtain ⟨h39,e39,x39,c39⟩:=x37.setV (vaOf 6 op00 op00 0 lf0 nm sl0 sl0) (dt_va (dt_op0 _ _) (dt_op0 _ _) (dt_pl0 _ _) (Sl.nil _ _ _) (Sl.nil _ _ _):Dt h37 _ (vaD 6 op0 op0 0 pl0 nm [] []) _)
  have e39':h37.store (O,11) [(.int .i64 6),(.int .i64 0),(.int .i64 0),(.str []),(.slice none 0 0 0),(.int .i64 0),(.int .i64 0),(.str []),(.slice none 0 0 0),(.int .i64 0),(.str []),(.slice none 0 0 0),(.str nm),(.slice none 0 0 0),(.slice none 0 0 0)]=some h39:=e39
  rw [e39',need_some]
  obtain ⟨v,h42,e42,y42,c42,o42,s42⟩:=f223_pc (N:=N) (off:=11) (row:=fun v=>smc { smR0 at_ with k:=3,va:=vaOf 6 op00 op00 0 lf0 nm sl0 v }) hT hN x39.pc (O:=O) (by omega) (by simp) (fun v=>sa25 { smR0 at_ with k:=3 } 6 0 op00 op00 lf0 nm sl0 v) (fun v v'=>ss25 { smR0 at_ with k:=3 } 6 0 op00 op00 lf0 nm sl0 v v') x39.oO
  rw [e42,bind2_some]
  have hlt:=x39.lt
  exact ⟨_,rfl,_,_,x39.stepV c42 y42 (v:=vaOf 6 op00 op00 0 lf0 nm sl0 v) o42 (w:=vaD 6 op0 op0 0 pl0 nm [] (argsS T σ6).1) (dt_va (dt_op0 _ _) (dt_op0 _ _) (dt_pl0 _ _) (Sl.nil _ _ _) (s42.weak fun C hC _=>by omega)),smD_eq ⟨rfl,rfl,rfl,rfl,rfl⟩⟩
 | false=>
  simp only [cond_false,Bool.false_eq_true,if_false,need_some,Nat.zero_add]
  obtain ⟨p,h44,e44,y44,c44,d44⟩:=f221_pc (N:=N) hT hN x33.pc
  rw [e44,bind2_some]
  have x44:=x33.step c44 y44
  have hlt:=x33.lt
  obtain ⟨h46,e46,x46,c46⟩:=x44.setK 2
  rw [e46,need_some]
  obtain ⟨h48,e48,x48,c48⟩:=x46.setP p ((d44.weak (W:=fun C=>O<C) fun C hC _=>by omega).chg c46 (fun C hC=>by simp;omega))
  rw [e48,need_some]
  obtain ⟨h50,e50,c50,y50⟩:=f149_pc (N:=N) hT x48.pc (w:=[61]) (by decide)
  rw [e50,bind2_some]
  have x50:=x48.step c50 y50
  obtain ⟨v,h52,e52,y52,c52,d52⟩:=f219_pc (N:=N) hT hN x50.pc
  rw [e52,bind2_some]
  have x52:=x50.step c52 y52
  have hlt5:=x50.lt
  obtain ⟨h54,e54,x54,c54⟩:=x52.setV v (d52.weak fun C hC _=>by omega)
  rw [e54,need_some]
  exact ⟨_,rfl,_,_,x54,smD_eq ⟨rfl,rfl,rfl,rfl,rfl⟩⟩
end
end Go.Proofs.YtkcjphhjmlienaaGreatDoor.Qp

set_option linter.unusedVariables false
set_option linter.unusedSimpArgs false
open Go Go.Proofs.YtkcjphhjmlienaaGreatDoor.Ai Go.Proofs
namespace Go.Proofs.YtkcjphhjmlienaaGreatDoor.Qp
section
variable (T:List Tok) (i:Nat) (e:Int×Int)
theorem optS_err (w:Bs):optS T w (i,some e)=(false,(i,some e)):=by simp [optS]
theorem textS_err (k:Int):textS T k (i,some e)=([],(i,some e)):=rfl
theorem failS_err (k:Int):failS T k (i,some e)=(i,some e):=rfl
theorem wantS_err (w:Bs):wantS T w (i,some e)=(i,some e):=by simp [wantS,optS_err,failS_err]
theorem pathS_err (g:Nat):pathS T g (i,some e)=([],(i,some e)):=by cases g <;> simp [pathS,optS_err]
theorem placeS_err:placeS T (i,some e)=(pl0,(i,some e)):=by simp [placeS,textS_err,pathS_err,pl0]
theorem operS_err:(operS T (i,some e)).2=(i,some e):=by
 simp only [operS,optS_err,Bool.false_eq_true,if_false]
 by_cases h:(tk T i).1=4
 ·rw [if_pos h];simp [textS_err]
 ·rw [if_neg h];simp [placeS_err]
theorem opS_err:∀ (l:List Bs) (k:Int),opS T l k (i,some e)=(none,(i,some e))
 | [],_=>rfl
 | s::r,k=>by simp only [opS,optS_err,Bool.false_eq_true,if_false];exact opS_err r _
theorem callsS_err:callsS T (i,some e)=false:=by simp [callsS,behindS]
theorem behindS_err (w:Bs):behindS T w (i,some e)=false:=by simp [behindS]
theorem valueS_err:(valueS T (i,some e)).2=(i,some e):=by
 simp only [valueS,optS_err,Bool.false_eq_true,if_false,callsS_err,behindS_err,Bool.or_false,operS_err,opS_err]
theorem plainS_err (a:Int):(plainS T a (i,some e)).2=(i,some e):=by
 simp only [plainS,optS_err,Bool.false_eq_true,if_false,callsS_err,placeS_err,wantS_err,valueS_err]
end
theorem isSome_err {σ:St} (h:σ.2.isSome=true):∃ i e,σ=(i,some e):=by
 obtain ⟨i,e⟩:=σ
 cases e with
 | none=>cases h
 | some q=>exact ⟨i,q,rfl⟩
theorem optS_end {T:List Tok} {i:Nat} (h:(tk T i).1=0) (w:Bs):optS T w (i,none)=(false,(i,none)):=by
 have:isS T w i=false:=by simp [isS,h]
 simp [optS,this]
abbrev SC:=St×Nat
def KS (s:SC):Prop:=s.2≤2000∨s.1.2.isSome=true
def KE (T:List Tok) (s:SC):Prop:=KS s∨(s.2≤2001∧(tk T s.1.1).1=0)
theorem KS.err {σ:St} {c:Nat} (h:KS (σ,c)) {τ:St} (hs:∀ i e,σ=(i,some e)→τ=(i,some e)):KS (τ,c):=by
 rcases h with h | h
 ·exact .inl h
 ·obtain ⟨i,e,rfl⟩:=isSome_err h
  rw [hs i e rfl];exact .inr rfl
def stmtS (T:List Tok) (blk:SC→List D×SC) (s:SC):D×SC:=
 let at_:Int:=((tk T s.1.1).2.2:Int)
 let a:=optS T [108,101,116] s.1
 if a.1=true then ((letS T at_ a.2).1,((letS T at_ a.2).2,s.2)) else
 let b:=optS T [105,102] a.2
 if b.1=true then
  let o:=operS T b.2
  let t:=blk (o.2,s.2)
  let e:=optS T [101,108,115,101] t.2.1
  if e.1=true then
   let f:=blk (e.2,t.2.2)
   (smD { smR0 at_ with k:=4,has:=true } { smT0 with co:=o.1,th:=t.1,el:=f.1 },f.2)
  else (smD { smR0 at_ with k:=4 } { smT0 with co:=o.1,th:=t.1 },(e.2,t.2.2))
 else
 let c:=optS T [119,104,105,108,101] b.2
 if c.1=true then
  let o:=operS T c.2
  let t:=blk (o.2,s.2)
  (smD { smR0 at_ with k:=5 } { smT0 with co:=o.1,th:=t.1 },t.2)
 else
 let d:=optS T [108,111,111,112] c.2
 if d.1=true then
  let t:=blk (d.2,s.2)
  (smD { smR0 at_ with k:=6 } { smT0 with th:=t.1 },t.2)
 else
 if (optS T [123] d.2).1=true then
  let t:=blk (d.2,s.2)
  (smD { smR0 at_ with k:=7 } { smT0 with th:=t.1 },t.2)
 else
  let x:=plainS T at_ d.2
  (x.1,(wantS T [59] x.2,s.2))
def BlkOK (N:Nat) (T:List Tok) (P:Nat) (F:Option (Nat×Nat)→Int→Heap→Option (SL×Heap)) (blk:SC→List D×SC) (deep:Int):Prop:=∀ (X:List Nat) (h:Heap) (σ:St) (c:Nat),PC T P X h σ (c:Int)→KS (σ,c)→∃ v h',F (some (P,0)) deep h=some (v,h')∧PC T P X h' (blk (σ,c)).2.1 ((blk (σ,c)).2.2:Int)∧Chg [P] h h'∧Sl h' (fun C=>h.next≤C) v (blk (σ,c)).1
theorem aggS {β:Type} (r:SmV) (K:SmV→Option β):bindV (.val (.agg [(.int .i64),(.int .i64),.bool,.str,(.int .i64),.str,.slice,.slice,.bool,.str,.slice,(.int .i64),(.int .i64),(.int .i64),.str,.slice,(.int .i64),(.int .i64),.str,.slice,(.int .i64),.str,.slice,.str,.slice,.slice,(.int .i64),(.int .i64),.str,.slice,.slice,.slice])) (some (.agg (smx r))) K=K r:=by
 obtain ⟨x1,x2,x3,x4,x5,x6,x7,x8,x9,x10,x11,x12,x13,x14,x15,x16,x17,x18,x19,x20,x21,x22,x23,x24,x25,x26,x27,x28,x29,x30,x31,x32,_⟩:=r
 simp [smx]
theorem cellsS {H:Heap} {A:Nat} {r:SmV} (o:H.own A (smx r)) {β:Type} (K:SmV→Option β):bindV (.val (.agg [(.int .i64),(.int .i64),.bool,.str,(.int .i64),.str,.slice,.slice,.bool,.str,.slice,(.int .i64),(.int .i64),(.int .i64),.str,.slice,(.int .i64),(.int .i64),.str,.slice,(.int .i64),.str,.slice,.str,.slice,.slice,(.int .i64),(.int .i64),.str,.slice,.slice,.slice])) (H.cells (A,0) 32) K=K r:=by
 have:H.cells (A,0) 32=some (.agg (smx r)):=o.cells (j:=0) (m:=32) (Nat.le_refl _)
 rw [this,aggS]
theorem finS {H:Heap} {A:Nat} {r0:SmV} (o:H.own A (smx r0)) (r:SmV) {β:Type} (K:SmV→Heap→Option β) :
  (need (H.store (A,0) [.int .i64 r.1,.int .i64 r.2.1,.bool r.2.2.1,.str r.2.2.2.1,.int .i64 r.2.2.2.2.1,.str r.2.2.2.2.2.1,.slice r.2.2.2.2.2.2.1.a r.2.2.2.2.2.2.1.len r.2.2.2.2.2.2.1.cap r.2.2.2.2.2.2.1.sz,.slice r.2.2.2.2.2.2.2.1.a r.2.2.2.2.2.2.2.1.len r.2.2.2.2.2.2.2.1.cap r.2.2.2.2.2.2.2.1.sz,.bool r.2.2.2.2.2.2.2.2.1,.str r.2.2.2.2.2.2.2.2.2.1,.slice r.2.2.2.2.2.2.2.2.2.2.1.a r.2.2.2.2.2.2.2.2.2.2.1.len r.2.2.2.2.2.2.2.2.2.2.1.cap r.2.2.2.2.2.2.2.2.2.2.1.sz,.int .i64 r.2.2.2.2.2.2.2.2.2.2.2.1,.int .i64 r.2.2.2.2.2.2.2.2.2.2.2.2.1,.int .i64 r.2.2.2.2.2.2.2.2.2.2.2.2.2.1,.str r.2.2.2.2.2.2.2.2.2.2.2.2.2.2.1,.slice r.2.2.2.2.2.2.2.2.2.2.2.2.2.2.2.1.a r.2.2.2.2.2.2.2.2.2.2.2.2.2.2.2.1.len r.2.2.2.2.2.2.2.2.2.2.2.2.2.2.2.1.cap r.2.2.2.2.2.2.2.2.2.2.2.2.2.2.2.1.sz,.int .i64 r.2.2.2.2.2.2.2.2.2.2.2.2.2.2.2.2.1,.int .i64 r.2.2.2.2.2.2.2.2.2.2.2.2.2.2.2.2.2.1,.str r.2.2.2.2.2.2.2.2.2.2.2.2.2.2.2.2.2.2.1,.slice r.2.2.2.2.2.2.2.2.2.2.2.2.2.2.2.2.2.2.2.1.a r.2.2.2.2.2.2.2.2.2.2.2.2.2.2.2.2.2.2.2.1.len r.2.2.2.2.2.2.2.2.2.2.2.2.2.2.2.2.2.2.2.1.cap r.2.2.2.2.2.2.2.2.2.2.2.2.2.2.2.2.2.2.2.1.sz,.int .i64 r.2.2.2.2.2.2.2.2.2.2.2.2.2.2.2.2.2.2.2.2.1,.str r.2.2.2.2.2.2.2.2.2.2.2.2.2.2.2.2.2.2.2.2.2.1,.slice r.2.2.2.2.2.2.2.2.2.2.2.2.2.2.2.2.2.2.2.2.2.2.1.a r.2.2.2.2.2.2.2.2.2.2.2.2.2.2.2.2.2.2.2.2.2.2.1.len r.2.2.2.2.2.2.2.2.2.2.2.2.2.2.2.2.2.2.2.2.2.2.1.cap r.2.2.2.2.2.2.2.2.2.2.2.2.2.2.2.2.2.2.2.2.2.2.1.sz,.str r.2.2.2.2.2.2.2.2.2.2.2.2.2.2.2.2.2.2.2.2.2.2.2.1,.slice r.2.2.2.2.2.2.2.2.2.2.2.2.2.2.2.2.2.2.2.2.2.2.2.2.1.a r.2.2.2.2.2.2.2.2.2.2.2.2.2.2.2.2.2.2.2.2.2.2.2.2.1.len r.2.2.2.2.2.2.2.2.2.2.2.2.2.2.2.2.2.2.2.2.2.2.2.2.1.cap r.2.2.2.2.2.2.2.2.2.2.2.2.2.2.2.2.2.2.2.2.2.2.2.2.1.sz,.slice r.2.2.2.2.2.2.2.2.2.2.2.2.2.2.2.2.2.2.2.2.2.2.2.2.2.1.a r.2.2.2.2.2.2.2.2.2.2.2.2.2.2.2.2.2.2.2.2.2.2.2.2.2.1.len r.2.2.2.2.2.2.2.2.2.2.2.2.2.2.2.2.2.2.2.2.2.2.2.2.2.1.cap r.2.2.2.2.2.2.2.2.2.2.2.2.2.2.2.2.2.2.2.2.2.2.2.2.2.1.sz,.int .i64 r.2.2.2.2.2.2.2.2.2.2.2.2.2.2.2.2.2.2.2.2.2.2.2.2.2.2.1,.int .i64 r.2.2.2.2.2.2.2.2.2.2.2.2.2.2.2.2.2.2.2.2.2.2.2.2.2.2.2.1,.str r.2.2.2.2.2.2.2.2.2.2.2.2.2.2.2.2.2.2.2.2.2.2.2.2.2.2.2.2.1,.slice r.2.2.2.2.2.2.2.2.2.2.2.2.2.2.2.2.2.2.2.2.2.2.2.2.2.2.2.2.2.1.a r.2.2.2.2.2.2.2.2.2.2.2.2.2.2.2.2.2.2.2.2.2.2.2.2.2.2.2.2.2.1.len r.2.2.2.2.2.2.2.2.2.2.2.2.2.2.2.2.2.2.2.2.2.2.2.2.2.2.2.2.2.1.cap r.2.2.2.2.2.2.2.2.2.2.2.2.2.2.2.2.2.2.2.2.2.2.2.2.2.2.2.2.2.1.sz,.slice r.2.2.2.2.2.2.2.2.2.2.2.2.2.2.2.2.2.2.2.2.2.2.2.2.2.2.2.2.2.2.1.a r.2.2.2.2.2.2.2.2.2.2.2.2.2.2.2.2.2.2.2.2.2.2.2.2.2.2.2.2.2.2.1.len r.2.2.2.2.2.2.2.2.2.2.2.2.2.2.2.2.2.2.2.2.2.2.2.2.2.2.2.2.2.2.1.cap r.2.2.2.2.2.2.2.2.2.2.2.2.2.2.2.2.2.2.2.2.2.2.2.2.2.2.2.2.2.2.1.sz,.slice r.2.2.2.2.2.2.2.2.2.2.2.2.2.2.2.2.2.2.2.2.2.2.2.2.2.2.2.2.2.2.2.1.a r.2.2.2.2.2.2.2.2.2.2.2.2.2.2.2.2.2.2.2.2.2.2.2.2.2.2.2.2.2.2.2.1.len r.2.2.2.2.2.2.2.2.2.2.2.2.2.2.2.2.2.2.2.2.2.2.2.2.2.2.2.2.2.2.2.1.cap r.2.2.2.2.2.2.2.2.2.2.2.2.2.2.2.2.2.2.2.2.2.2.2.2.2.2.2.2.2.2.2.1.sz]) fun h7=>bindV (.val (.agg [(.int .i64),(.int .i64),.bool,.str,(.int .i64),.str,.slice,.slice,.bool,.str,.slice,(.int .i64),(.int .i64),(.int .i64),.str,.slice,(.int .i64),(.int .i64),.str,.slice,(.int .i64),.str,.slice,.str,.slice,.slice,(.int .i64),(.int .i64),.str,.slice,.slice,.slice])) (h7.cells (A,0) 32) fun x8=>K x8 h7)=K r (H.put A (.row (smx r) .own)):=by
 have:H.store (A,0) [.int .i64 r.1,.int .i64 r.2.1,.bool r.2.2.1,.str r.2.2.2.1,.int .i64 r.2.2.2.2.1,.str r.2.2.2.2.2.1,.slice r.2.2.2.2.2.2.1.a r.2.2.2.2.2.2.1.len r.2.2.2.2.2.2.1.cap r.2.2.2.2.2.2.1.sz,.slice r.2.2.2.2.2.2.2.1.a r.2.2.2.2.2.2.2.1.len r.2.2.2.2.2.2.2.1.cap r.2.2.2.2.2.2.2.1.sz,.bool r.2.2.2.2.2.2.2.2.1,.str r.2.2.2.2.2.2.2.2.2.1,.slice r.2.2.2.2.2.2.2.2.2.2.1.a r.2.2.2.2.2.2.2.2.2.2.1.len r.2.2.2.2.2.2.2.2.2.2.1.cap r.2.2.2.2.2.2.2.2.2.2.1.sz,.int .i64 r.2.2.2.2.2.2.2.2.2.2.2.1,.int .i64 r.2.2.2.2.2.2.2.2.2.2.2.2.1,.int .i64 r.2.2.2.2.2.2.2.2.2.2.2.2.2.1,.str r.2.2.2.2.2.2.2.2.2.2.2.2.2.2.1,.slice r.2.2.2.2.2.2.2.2.2.2.2.2.2.2.2.1.a r.2.2.2.2.2.2.2.2.2.2.2.2.2.2.2.1.len r.2.2.2.2.2.2.2.2.2.2.2.2.2.2.2.1.cap r.2.2.2.2.2.2.2.2.2.2.2.2.2.2.2.1.sz,.int .i64 r.2.2.2.2.2.2.2.2.2.2.2.2.2.2.2.2.1,.int .i64 r.2.2.2.2.2.2.2.2.2.2.2.2.2.2.2.2.2.1,.str r.2.2.2.2.2.2.2.2.2.2.2.2.2.2.2.2.2.2.1,.slice r.2.2.2.2.2.2.2.2.2.2.2.2.2.2.2.2.2.2.2.1.a r.2.2.2.2.2.2.2.2.2.2.2.2.2.2.2.2.2.2.2.1.len r.2.2.2.2.2.2.2.2.2.2.2.2.2.2.2.2.2.2.2.1.cap r.2.2.2.2.2.2.2.2.2.2.2.2.2.2.2.2.2.2.2.1.sz,.int .i64 r.2.2.2.2.2.2.2.2.2.2.2.2.2.2.2.2.2.2.2.2.1,.str r.2.2.2.2.2.2.2.2.2.2.2.2.2.2.2.2.2.2.2.2.2.1,.slice r.2.2.2.2.2.2.2.2.2.2.2.2.2.2.2.2.2.2.2.2.2.2.1.a r.2.2.2.2.2.2.2.2.2.2.2.2.2.2.2.2.2.2.2.2.2.2.1.len r.2.2.2.2.2.2.2.2.2.2.2.2.2.2.2.2.2.2.2.2.2.2.1.cap r.2.2.2.2.2.2.2.2.2.2.2.2.2.2.2.2.2.2.2.2.2.2.1.sz,.str r.2.2.2.2.2.2.2.2.2.2.2.2.2.2.2.2.2.2.2.2.2.2.2.1,.slice r.2.2.2.2.2.2.2.2.2.2.2.2.2.2.2.2.2.2.2.2.2.2.2.2.1.a r.2.2.2.2.2.2.2.2.2.2.2.2.2.2.2.2.2.2.2.2.2.2.2.2.1.len r.2.2.2.2.2.2.2.2.2.2.2.2.2.2.2.2.2.2.2.2.2.2.2.2.1.cap r.2.2.2.2.2.2.2.2.2.2.2.2.2.2.2.2.2.2.2.2.2.2.2.2.1.sz,.slice r.2.2.2.2.2.2.2.2.2.2.2.2.2.2.2.2.2.2.2.2.2.2.2.2.2.1.a r.2.2.2.2.2.2.2.2.2.2.2.2.2.2.2.2.2.2.2.2.2.2.2.2.2.1.len r.2.2.2.2.2.2.2.2.2.2.2.2.2.2.2.2.2.2.2.2.2.2.2.2.2.1.cap r.2.2.2.2.2.2.2.2.2.2.2.2.2.2.2.2.2.2.2.2.2.2.2.2.2.1.sz,.int .i64 r.2.2.2.2.2.2.2.2.2.2.2.2.2.2.2.2.2.2.2.2.2.2.2.2.2.2.1,.int .i64 r.2.2.2.2.2.2.2.2.2.2.2.2.2.2.2.2.2.2.2.2.2.2.2.2.2.2.2.1,.str r.2.2.2.2.2.2.2.2.2.2.2.2.2.2.2.2.2.2.2.2.2.2.2.2.2.2.2.2.1,.slice r.2.2.2.2.2.2.2.2.2.2.2.2.2.2.2.2.2.2.2.2.2.2.2.2.2.2.2.2.2.1.a r.2.2.2.2.2.2.2.2.2.2.2.2.2.2.2.2.2.2.2.2.2.2.2.2.2.2.2.2.2.1.len r.2.2.2.2.2.2.2.2.2.2.2.2.2.2.2.2.2.2.2.2.2.2.2.2.2.2.2.2.2.1.cap r.2.2.2.2.2.2.2.2.2.2.2.2.2.2.2.2.2.2.2.2.2.2.2.2.2.2.2.2.2.1.sz,.slice r.2.2.2.2.2.2.2.2.2.2.2.2.2.2.2.2.2.2.2.2.2.2.2.2.2.2.2.2.2.2.1.a r.2.2.2.2.2.2.2.2.2.2.2.2.2.2.2.2.2.2.2.2.2.2.2.2.2.2.2.2.2.2.1.len r.2.2.2.2.2.2.2.2.2.2.2.2.2.2.2.2.2.2.2.2.2.2.2.2.2.2.2.2.2.2.1.cap r.2.2.2.2.2.2.2.2.2.2.2.2.2.2.2.2.2.2.2.2.2.2.2.2.2.2.2.2.2.2.1.sz,.slice r.2.2.2.2.2.2.2.2.2.2.2.2.2.2.2.2.2.2.2.2.2.2.2.2.2.2.2.2.2.2.2.1.a r.2.2.2.2.2.2.2.2.2.2.2.2.2.2.2.2.2.2.2.2.2.2.2.2.2.2.2.2.2.2.2.1.len r.2.2.2.2.2.2.2.2.2.2.2.2.2.2.2.2.2.2.2.2.2.2.2.2.2.2.2.2.2.2.2.1.cap r.2.2.2.2.2.2.2.2.2.2.2.2.2.2.2.2.2.2.2.2.2.2.2.2.2.2.2.2.2.2.2.1.sz]=some (H.put A (.row (smx r) .own)):=o.store rfl
 rw [this,need_some,cellsS (own_put o _)]
section
variable {N:Nat} {T:List Tok} {P:Nat} {X:List Nat} {h:Heap} {σ:St}
theorem KE.opt {c:Nat} (hk:KE T (σ,c)) {w:Bs} (h:(optS T w σ).1=true):c≤2000:=by
 have hn:=(optS_none h).2
 rcases hk with (hk | hk) | ⟨_,hk⟩
 ·exact hk
 ·rw [hn] at hk;cases hk
 ·obtain ⟨i,e⟩:=σ
  simp only at hn;subst hn
  rw [optS_end hk] at h;cases h
theorem KS.le {s:SC} (h:s.2≤2000):KS s:=.inl h
theorem f190_pc (hT:Toks T) (hN:100≤N) {F:Option (Nat×Nat)→Int→Heap→Option (SL×Heap)} {G} {blk:SC→List D×SC} {deep:Nat} (hd:deep≤100) (hB:BlkOK N T P F blk ((deep+1:Nat):Int)) (hK:∀ s,KS s→KS (blk s).2) {c:Nat} (x:PC T P X h σ (c:Int)) (hk:KE T (σ,c)) :
  ∃ r h',f190_r N F G (some (P,0)) (deep:Int) h=some (r,h')∧PC T P X h' (stmtS T blk (σ,c)).2.1 ((stmtS T blk (σ,c)).2.2:Int)∧Chg [P] h h'∧Dt h' (fun C=>h.next≤C) (stmtS T blk (σ,c)).1 (smx r):=by
 unfold f190_r
 have hP:=x.P_lt
 have oR:=own_push h (smc (smR0 0))
 have cR:=chg_push h (.row (smc (smR0 0)) .own)
 have eR:h.push (.row [.int .i64 0,.int .i64 0,.bool false,.str [],.int .i64 0,.str [],.slice none 0 0 0,.slice none 0 0 0,.bool false,.str [],.slice none 0 0 0,.int .i64 0,.int .i64 0,.int .i64 0,.str [],.slice none 0 0 0,.int .i64 0,.int .i64 0,.str [],.slice none 0 0 0,.int .i64 0,.str [],.slice none 0 0 0,.str [],.slice none 0 0 0,.slice none 0 0 0,.int .i64 0,.int .i64 0,.str [],.slice none 0 0 0,.slice none 0 0 0,.slice none 0 0 0] .own)=h.push (.row (smc (smR0 0)) .own):=rfl
 have nR:(h.push (.row (smc (smR0 0)) .own)).next=h.next+1:=rfl
 have x1:=x.add cR (A:=h.next) (Nat.le_refl _) (Nat.lt_succ_self _)
 rw [eR]
 generalize h.push (.row (smc (smR0 0)) .own)=h1 at *
 dsimp only
 obtain ⟨h3,e3,c3⟩:=f56_eq (N:=N) x1.pa
 rw [e3,bind2_some]
 obtain ⟨h5,e5,c5,o5⟩:=tokRow h3 (tk T σ.1)
 rw [e5,need_some]
 have k5:h5.cell (h3.next,0+2)=some (.int .i64 ((tk T σ.1).2.2:Int)):=o5.cell 2
 rw [k5]
 simp only [bindV_some,cast_int]
 have c15:=c3.trans c5
 have x5:=x1.chg c15
 have oR5:=oR.chg c15 (by simp)
 have hn5:=c15.next
 simp only [stmtS]
 generalize ((tk T σ.1).2.2:Int)=at_ at *
 have oO0:=own_push h5 (smc (smR0 0))
 have cO0:=chg_push h5 (.row (smc (smR0 0)) .own)
 have eO:h5.push (.row [.int .i64 0,.int .i64 0,.bool false,.str [],.int .i64 0,.str [],.slice none 0 0 0,.slice none 0 0 0,.bool false,.str [],.slice none 0 0 0,.int .i64 0,.int .i64 0,.int .i64 0,.str [],.slice none 0 0 0,.int .i64 0,.int .i64 0,.str [],.slice none 0 0 0,.int .i64 0,.str [],.slice none 0 0 0,.str [],.slice none 0 0 0,.slice none 0 0 0,.int .i64 0,.int .i64 0,.str [],.slice none 0 0 0,.slice none 0 0 0,.slice none 0 0 0] .own)=h5.push (.row (smc (smR0 0)) .own):=rfl
 have hstO:(h5.push (.row (smc (smR0 0)) .own)).store (h5.next,0) (smc (smR0 at_))=some ((h5.push (.row (smc (smR0 0)) .own)).put h5.next (.row (smc (smR0 at_)) .own)):=oO0.store rfl
 have hstO':(h5.push (.row (smc (smR0 0)) .own)).store (h5.next,0) (.int .i64 0::.int .i64 at_::([.int .i64 0,.int .i64 0,.bool false,.str [],.int .i64 0,.str [],.slice none 0 0 0,.slice none 0 0 0,.bool false,.str [],.slice none 0 0 0,.int .i64 0,.int .i64 0,.int .i64 0,.str [],.slice none 0 0 0,.int .i64 0,.int .i64 0,.str [],.slice none 0 0 0,.int .i64 0,.str [],.slice none 0 0 0,.str [],.slice none 0 0 0,.slice none 0 0 0,.int .i64 0,.int .i64 0,.str [],.slice none 0 0 0,.slice none 0 0 0,.slice none 0 0 0]).drop 2)=some ((h5.push (.row (smc (smR0 0)) .own)).put h5.next (.row (smc (smR0 at_)) .own)):=hstO
 simp only [List.drop_succ_cons,List.drop_zero] at hstO'
 rw [eO,hstO',need_some]
 have oO:=own_put oO0 (smc (smR0 at_))
 have cO:Chg [] h5 ((h5.push (.row (smc (smR0 0)) .own)).put h5.next (.row (smc (smR0 at_)) .own)):=cO0.put (.inr (Nat.le_refl _)) _
 have nO:((h5.push (.row (smc (smR0 0)) .own)).put h5.next (.row (smc (smR0 at_)) .own)).next=h5.next+1:=rfl
 have x8:=x5.add cO (A:=h5.next) (Nat.le_refl _) (Nat.lt_succ_self _)
 have oR8:=oR5.chg cO (by simp)
 have c08:Chg [P] h ((h5.push (.row (smc (smR0 0)) .own)).put h5.next (.row (smc (smR0 at_)) .own)):=((cR.mono (by simp)).trans (c15.mono (by simp))).trans (cO.mono (by simp))
 generalize (h5.push (.row (smc (smR0 0)) .own)).put h5.next (.row (smc (smR0 at_)) .own)=h8 at *
 have s8:SI T P X h h.next h5.next (smR0 at_) smT0 h8 σ (c:Int):=⟨x8,c08,oR8,oO,⟨Nat.le_refl _,by omega,hP⟩,dt_ty0 _ _ _ _,dt_pl0 _ _,dt_va0 _ _,dt_op0 _ _,Sl.nil _ _ _,Sl.nil _ _ _⟩
 have hR:h.next<h5.next:=by omega
 generalize h5.next=O at *
 generalize h.next=R at *
 -- what stands at the end
 have fin:∀ {h60:Heap} {z:D×SC},SmOK T P X h R O ((z.2.2:Int)) h60 (z.1,z.2.1)→∃ r h',
   (bindV (.val (.agg [(.int .i64),(.int .i64),.bool,.str,(.int .i64),.str,.slice,.slice,.bool,.str,.slice,(.int .i64),(.int .i64),(.int .i64),.str,.slice,(.int .i64),(.int .i64),.str,.slice,(.int .i64),.str,.slice,.str,.slice,.slice,(.int .i64),(.int .i64),.str,.slice,.slice,.slice])) (h60.cells (O,0) 32) fun x62=>need (h60.store (R,0) [.int .i64 x62.1,.int .i64 x62.2.1,.bool x62.2.2.1,.str x62.2.2.2.1,.int .i64 x62.2.2.2.2.1,.str x62.2.2.2.2.2.1,.slice x62.2.2.2.2.2.2.1.a x62.2.2.2.2.2.2.1.len x62.2.2.2.2.2.2.1.cap x62.2.2.2.2.2.2.1.sz,.slice x62.2.2.2.2.2.2.2.1.a x62.2.2.2.2.2.2.2.1.len x62.2.2.2.2.2.2.2.1.cap x62.2.2.2.2.2.2.2.1.sz,.bool x62.2.2.2.2.2.2.2.2.1,.str x62.2.2.2.2.2.2.2.2.2.1,.slice x62.2.2.2.2.2.2.2.2.2.2.1.a x62.2.2.2.2.2.2.2.2.2.2.1.len x62.2.2.2.2.2.2.2.2.2.2.1.cap x62.2.2.2.2.2.2.2.2.2.2.1.sz,.int .i64 x62.2.2.2.2.2.2.2.2.2.2.2.1,.int .i64 x62.2.2.2.2.2.2.2.2.2.2.2.2.1,.int .i64 x62.2.2.2.2.2.2.2.2.2.2.2.2.2.1,.str x62.2.2.2.2.2.2.2.2.2.2.2.2.2.2.1,.slice x62.2.2.2.2.2.2.2.2.2.2.2.2.2.2.2.1.a x62.2.2.2.2.2.2.2.2.2.2.2.2.2.2.2.1.len x62.2.2.2.2.2.2.2.2.2.2.2.2.2.2.2.1.cap x62.2.2.2.2.2.2.2.2.2.2.2.2.2.2.2.1.sz,.int .i64 x62.2.2.2.2.2.2.2.2.2.2.2.2.2.2.2.2.1,.int .i64 x62.2.2.2.2.2.2.2.2.2.2.2.2.2.2.2.2.2.1,.str x62.2.2.2.2.2.2.2.2.2.2.2.2.2.2.2.2.2.2.1,.slice x62.2.2.2.2.2.2.2.2.2.2.2.2.2.2.2.2.2.2.2.1.a x62.2.2.2.2.2.2.2.2.2.2.2.2.2.2.2.2.2.2.2.1.len x62.2.2.2.2.2.2.2.2.2.2.2.2.2.2.2.2.2.2.2.1.cap x62.2.2.2.2.2.2.2.2.2.2.2.2.2.2.2.2.2.2.2.1.sz,.int .i64 x62.2.2.2.2.2.2.2.2.2.2.2.2.2.2.2.2.2.2.2.2.1,.str x62.2.2.2.2.2.2.2.2.2.2.2.2.2.2.2.2.2.2.2.2.2.1,.slice x62.2.2.2.2.2.2.2.2.2.2.2.2.2.2.2.2.2.2.2.2.2.2.1.a x62.2.2.2.2.2.2.2.2.2.2.2.2.2.2.2.2.2.2.2.2.2.2.1.len x62.2.2.2.2.2.2.2.2.2.2.2.2.2.2.2.2.2.2.2.2.2.2.1.cap x62.2.2.2.2.2.2.2.2.2.2.2.2.2.2.2.2.2.2.2.2.2.2.1.sz,.str x62.2.2.2.2.2.2.2.2.2.2.2.2.2.2.2.2.2.2.2.2.2.2.2.1,.slice x62.2.2.2.2.2.2.2.2.2.2.2.2.2.2.2.2.2.2.2.2.2.2.2.2.1.a x62.2.2.2.2.2.2.2.2.2.2.2.2.2.2.2.2.2.2.2.2.2.2.2.2.1.len x62.2.2.2.2.2.2.2.2.2.2.2.2.2.2.2.2.2.2.2.2.2.2.2.2.1.cap x62.2.2.2.2.2.2.2.2.2.2.2.2.2.2.2.2.2.2.2.2.2.2.2.2.1.sz,.slice x62.2.2.2.2.2.2.2.2.2.2.2.2.2.2.2.2.2.2.2.2.2.2.2.2.2.1.a x62.2.2.2.2.2.2.2.2.2.2.2.2.2.2.2.2.2.2.2.2.2.2.2.2.2.1.len x62.2.2.2.2.2.2.2.2.2.2.2.2.2.2.2.2.2.2.2.2.2.2.2.2.2.1.cap x62.2.2.2.2.2.2.2.2.2.2.2.2.2.2.2.2.2.2.2.2.2.2.2.2.2.1.sz,.int .i64 x62.2.2.2.2.2.2.2.2.2.2.2.2.2.2.2.2.2.2.2.2.2.2.2.2.2.2.1,.int .i64 x62.2.2.2.2.2.2.2.2.2.2.2.2.2.2.2.2.2.2.2.2.2.2.2.2.2.2.2.1,.str x62.2.2.2.2.2.2.2.2.2.2.2.2.2.2.2.2.2.2.2.2.2.2.2.2.2.2.2.2.1,.slice x62.2.2.2.2.2.2.2.2.2.2.2.2.2.2.2.2.2.2.2.2.2.2.2.2.2.2.2.2.2.1.a x62.2.2.2.2.2.2.2.2.2.2.2.2.2.2.2.2.2.2.2.2.2.2.2.2.2.2.2.2.2.1.len x62.2.2.2.2.2.2.2.2.2.2.2.2.2.2.2.2.2.2.2.2.2.2.2.2.2.2.2.2.2.1.cap x62.2.2.2.2.2.2.2.2.2.2.2.2.2.2.2.2.2.2.2.2.2.2.2.2.2.2.2.2.2.1.sz,.slice x62.2.2.2.2.2.2.2.2.2.2.2.2.2.2.2.2.2.2.2.2.2.2.2.2.2.2.2.2.2.2.1.a x62.2.2.2.2.2.2.2.2.2.2.2.2.2.2.2.2.2.2.2.2.2.2.2.2.2.2.2.2.2.2.1.len x62.2.2.2.2.2.2.2.2.2.2.2.2.2.2.2.2.2.2.2.2.2.2.2.2.2.2.2.2.2.2.1.cap x62.2.2.2.2.2.2.2.2.2.2.2.2.2.2.2.2.2.2.2.2.2.2.2.2.2.2.2.2.2.2.1.sz,.slice x62.2.2.2.2.2.2.2.2.2.2.2.2.2.2.2.2.2.2.2.2.2.2.2.2.2.2.2.2.2.2.2.1.a x62.2.2.2.2.2.2.2.2.2.2.2.2.2.2.2.2.2.2.2.2.2.2.2.2.2.2.2.2.2.2.2.1.len x62.2.2.2.2.2.2.2.2.2.2.2.2.2.2.2.2.2.2.2.2.2.2.2.2.2.2.2.2.2.2.2.1.cap x62.2.2.2.2.2.2.2.2.2.2.2.2.2.2.2.2.2.2.2.2.2.2.2.2.2.2.2.2.2.2.2.1.sz]) fun h63=>bindV (.val (.agg [(.int .i64),(.int .i64),.bool,.str,(.int .i64),.str,.slice,.slice,.bool,.str,.slice,(.int .i64),(.int .i64),(.int .i64),.str,.slice,(.int .i64),(.int .i64),.str,.slice,(.int .i64),.str,.slice,.str,.slice,.slice,(.int .i64),(.int .i64),.str,.slice,.slice,.slice])) (h63.cells (R,0) 32) fun x66=>some (x66,h63))=some (r,h')∧PC T P X h' z.2.1 (z.2.2:Int)∧Chg [P] h h'∧Dt h' (fun C=>R≤C) z.1 (smx r):=by
  rintro h60 z ⟨r,d,s,e⟩
  have hle:=s.le
  refine ⟨smv r,h60.put R (.row (smx (smv r)) .own),?_,?_,?_,?_⟩
  ·rw [cellsS (r:=smv r) s.oO]
   exact finS s.oR (smv r) (fun x h=>some (x,h))
  ·exact (s.pc.chg1 (s.oR.put _) (by simp)).sub (by simp +contextual)
  ·exact s.chg.step (s.oR.put _) (fun A hA hl=>by rw [List.mem_singleton] at hA;omega)
  ·show Dt _ _ z.1 _
   rw [show z.1=smD r d from e]
   exact (s.dt.chg (s.oR.put _) (fun C hC=>by simp;omega)).weak fun C hC _=>by omega
 obtain ⟨h10,e10,c10,y10⟩:=f92_pc (N:=N) hT s8.pc (w:=[108,101,116]) (by decide)
 rw [e10,bind2_some]
 have s10:=s8.step c10 y10
 cases hb1:(optS T [108,101,116] σ).1 with
 | true=>
  simp only [cond_true,if_true]
  obtain ⟨h12,e12,sm⟩:=f207_pc (N:=N) hT hN s10
  rw [e12,bind2_some]
  simp only [bind2_some,need_some]
  exact fin (z:=((letS T at_ (optS T [108,101,116] σ).2).1,((letS T at_ (optS T [108,101,116] σ).2).2,c))) sm
 | false=>
 rw [optS_false hb1] at s10 ⊢
 simp only [cond_false,Bool.false_eq_true,if_false]
 obtain ⟨h14,e14,c14,y14⟩:=f92_pc (N:=N) hT s10.pc (w:=[105,102]) (by decide)
 rw [e14,bind2_some]
 have s14:=s10.step c14 y14
 cases hb2:(optS T [105,102] σ).1 with
 | true=>
  have hc:=hk.opt hb2
  simp only [cond_true,if_true]
  obtain ⟨co,h16,e16,y16,c16,d16⟩:=f208_pc (N:=N) hT hN s14.pc
  rw [e16,bind2_some]
  have s16:=s14.step c16 y16
  have hlt:=s14.lt
  generalize (operS T (optS T [105,102] σ).2)=o at *
  simp only [Nat.zero_add]
  obtain ⟨h17,e17,s17,c17⟩:=s16.setK 4
  rw [e17,need_some]
  obtain ⟨h18,e18,s18,c18⟩:=s17.setC co ((d16.weak (W:=fun C=>O<C) fun C hC _=>by omega).chg c17 (fun C hC=>by simp;omega))
  rw [e18,need_some,wrap_succ (by omega)]
  obtain ⟨v,h21,e21,y21,c21,d21⟩:=hB _ h18 _ c s18.pc (KS.le hc)
  rw [e21,bind2_some]
  have s21:=s18.step c21 y21
  have hlt2:=s18.lt
  have hk2:=hK (o.2,c) (KS.le hc)
  generalize blk (o.2,c)=t at *
  obtain ⟨h22,e22,s22,c22⟩:=s21.setTh v (d21.weak fun C hC _=>by omega)
  rw [e22,need_some]
  obtain ⟨h24,e24,c24,y24⟩:=f92_pc (N:=N) hT s22.pc (w:=[101,108,115,101]) (by decide)
  rw [e24,bind2_some]
  have s24:=s22.step c24 y24
  obtain ⟨h25,e25,s25,c25⟩:=s24.setH (optS T [101,108,115,101] t.2.1).1
  rw [e25,need_some]
  have r25:h25.cell (O,8)=some (.bool (optS T [101,108,115,101] t.2.1).1):=s25.oO.cell 8
  simp only [r25,bindV_some,cast_bool]
  cases hb3:(optS T [101,108,115,101] t.2.1).1 with
  | true=>
   rw [hb3] at s25
   simp only [cond_true,if_true]
   have hk3:KS ((optS T [101,108,115,101] t.2.1).2,t.2.2):=KS.err (σ:=t.2.1) hk2 (fun i e h=>by rw [h];rfl)
   obtain ⟨v2,h29,e29,y29,c29,d29⟩:=hB _ h25 _ t.2.2 s25.pc hk3
   rw [e29,bind2_some]
   have s29:=s25.step c29 y29
   have hlt3:=s25.lt
   obtain ⟨h30,e30,s30,c30⟩:=s29.setEl v2 (d29.weak fun C hC _=>by omega)
   rw [e30,need_some]
   simp only [bind2_some,need_some]
   exact fin (z:=(smD { smR0 at_ with k:=4,has:=true } { smT0 with co:=o.1,th:=t.1,el:=(blk ((optS T [101,108,115,101] t.2.1).2,t.2.2)).1 },(blk ((optS T [101,108,115,101] t.2.1).2,t.2.2)).2)) ⟨_,_,s30,smD_eq ⟨rfl,rfl,rfl,rfl,rfl⟩⟩
  | false=>
   rw [hb3] at s25
   simp only [cond_false,Bool.false_eq_true,if_false]
   simp only [bind2_some,need_some]
   exact fin (z:=(smD { smR0 at_ with k:=4 } { smT0 with co:=o.1,th:=t.1 },((optS T [101,108,115,101] t.2.1).2,t.2.2))) ⟨_,_,s25,smD_eq ⟨rfl,rfl,rfl,rfl,rfl⟩⟩
 | false=>
 rw [optS_false hb2] at s14 ⊢
 simp only [cond_false,Bool.false_eq_true,if_false]
 obtain ⟨h32,e32,c32,y32⟩:=f92_pc (N:=N) hT s14.pc (w:=[119,104,105,108,101]) (by decide)
 rw [e32,bind2_some]
 have s32:=s14.step c32 y32
 cases hb3:(optS T [119,104,105,108,101] σ).1 with
 | true=>
  have hc:=hk.opt hb3
  simp only [cond_true,if_true]
  obtain ⟨co,h34,e34,y34,c34,d34⟩:=f208_pc (N:=N) hT hN s32.pc
  rw [e34,bind2_some]
  have s34:=s32.step c34 y34
  have hlt:=s32.lt
  generalize (operS T (optS T [119,104,105,108,101] σ).2)=o at *
  simp only [Nat.zero_add]
  obtain ⟨h35,e35,s35,c35⟩:=s34.setK 5
  rw [e35,need_some]
  obtain ⟨h36,e36,s36,c36⟩:=s35.setC co ((d34.weak (W:=fun C=>O<C) fun C hC _=>by omega).chg c35 (fun C hC=>by simp;omega))
  rw [e36,need_some,wrap_succ (by omega)]
  obtain ⟨v,h39,e39,y39,c39,d39⟩:=hB _ h36 _ c s36.pc (KS.le hc)
  rw [e39,bind2_some]
  have s39:=s36.step c39 y39
  have hlt2:=s36.lt
  obtain ⟨h40,e40,s40,c40⟩:=s39.setTh v (d39.weak fun C hC _=>by omega)
  rw [e40,need_some]
  simp only [bind2_some,need_some]
  exact fin (z:=(smD { smR0 at_ with k:=5 } { smT0 with co:=o.1,th:=(blk (o.2,c)).1 },(blk (o.2,c)).2)) ⟨_,_,s40,smD_eq ⟨rfl,rfl,rfl,rfl,rfl⟩⟩
 | false=>
 rw [optS_false hb3] at s32 ⊢
 simp only [cond_false,Bool.false_eq_true,if_false]
 obtain ⟨h42,e42,c42,y42⟩:=f92_pc (N:=N) hT s32.pc (w:=[108,111,111,112]) (by decide)
 rw [e42,bind2_some]
 have s42:=s32.step c42 y42
 cases hb4:(optS T [108,111,111,112] σ).1 with
 | true=>
  have hc:=hk.opt hb4
  simp only [cond_true,if_true,Nat.zero_add]
  rw [wrap_succ (by omega)]
  obtain ⟨v,h45,e45,y45,c45,d45⟩:=hB _ h42 _ c s42.pc (KS.le hc)
  rw [e45,bind2_some]
  have s45:=s42.step c45 y45
  have hlt2:=s42.lt
  obtain ⟨h46,e46,s46,c46⟩:=s45.setK 6
  rw [e46,need_some]
  obtain ⟨h47,e47,s47,c47⟩:=s46.setTh v ((d45.weak (W:=fun C=>O<C) fun C hC _=>by omega).chg c46 (fun C hC=>by simp;omega))
  rw [e47,need_some]
  simp only [bind2_some,need_some]
  exact fin (z:=(smD { smR0 at_ with k:=6 } { smT0 with th:=(blk ((optS T [108,111,111,112] σ).2,c)).1 },(blk ((optS T [108,111,111,112] σ).2,c)).2)) ⟨_,_,s47,smD_eq ⟨rfl,rfl,rfl,rfl,rfl⟩⟩
 | false=>
 rw [optS_false hb4] at s42 ⊢
 simp only [cond_false,Bool.false_eq_true,if_false]
 obtain ⟨h49,e49,c49⟩:=f146_pc (N:=N) hT s42.pc (w:=[123]) (by decide)
 rw [e49,bind2_some]
 have s49:=s42.step0 c49
 cases hb5:(optS T [123] σ).1 with
 | true=>
  have hc:=hk.opt hb5
  simp only [cond_true,if_true,Nat.zero_add]
  rw [wrap_succ (by omega)]
  obtain ⟨v,h45,e45,y45,c45,d45⟩:=hB _ h49 _ c s49.pc (KS.le hc)
  rw [e45,bind2_some]
  have s45:=s49.step c45 y45
  have hlt2:=s49.lt
  obtain ⟨h46,e46,s46,c46⟩:=s45.setK 7
  rw [e46,need_some]
  obtain ⟨h47,e47,s47,c47⟩:=s46.setTh v ((d45.weak (W:=fun C=>O<C) fun C hC _=>by omega).chg c46 (fun C hC=>by simp;omega))
  rw [e47,need_some]
  simp only [bind2_some,need_some]
  exact fin (z:=(smD { smR0 at_ with k:=7 } { smT0 with th:=(blk (σ,c)).1 },(blk (σ,c)).2)) ⟨_,_,s47,smD_eq ⟨rfl,rfl,rfl,rfl,rfl⟩⟩
 | false=>
  simp only [cond_false,Bool.false_eq_true,if_false]
  obtain ⟨h56,e56,r,d,s56,hs⟩:=f209_pc (N:=N) hT hN s49
  rw [e56,bind2_some]
  obtain ⟨h58,e58,c58,y58⟩:=f149_pc (N:=N) hT s56.pc (w:=[59]) (by decide)
  rw [e58,bind2_some]
  simp only [bind2_some,need_some]
  exact fin (z:=((plainS T at_ σ).1,(wantS T [59] (plainS T at_ σ).2,c))) ⟨r,d,s56.step c58 y58,hs⟩
end
end Go.Proofs.YtkcjphhjmlienaaGreatDoor.Qp

set_option linter.unusedVariables false
set_option linter.unusedSimpArgs false
open Go Go.Proofs.YtkcjphhjmlienaaGreatDoor.Ai Go.Proofs
namespace Go.Proofs.YtkcjphhjmlienaaGreatDoor.Qp
def stmtsS (T:List Tok) (one:SC→D×SC):Nat→SC→(List D×Bool)×SC
 | 0,s=>(([],false),s)
 | f+1,s=>
  if s.1.2.isSome=true then (([],false),s) else
  let b:=optS T [125] s.1
  if b.1=true then (([],false),(b.2,s.2)) else
  if s.2=2000∧(tk T s.1.1).1≠0 then (([],true),(failS T 5 s.1,s.2)) else
  let x:=one (s.1,s.2+1)
  ((x.1::(stmtsS T one f x.2).1.1,(stmtsS T one f x.2).1.2),(stmtsS T one f x.2).2)
def blockS (T:List Tok):Nat→SC→List D×SC
 | 0,s=>([],(failS T 6 s.1,s.2))
 | g+1,s=>
  let r:=stmtsS T (stmtS T (blockS T g)) 2001 (wantS T [123] s.1,s.2)
  (if r.1.2=true then [] else r.1.1,r.2)
section
variable {T:List Tok}
theorem plainS_end {i:Nat} (h:(tk T i).1=0) (a:Int):(plainS T a (i,none)).2.2.isSome=true:=by
 have hc:callsS T (i,none)=false:=by simp [callsS,behindS,h]
 have ht:textS T 1 (i,none)=([],(i,some (21,((tk T i).2.2:Int)))):=by simp [textS,failS,h]
 simp only [plainS,optS_end h,Bool.false_eq_true,if_false,hc,placeS,ht,pathS_err,wantS_err,valueS_err,Option.isSome_some]
theorem err_isSome {σ τ:St} (h:σ.2.isSome=true) (hs:∀ i e,σ=(i,some e)→τ=(i,some e)):τ.2.isSome=true:=by
 obtain ⟨i,e,rfl⟩:=isSome_err h
 rw [hs i e rfl];rfl
theorem stmtS_K {blk:SC→List D×SC} (hK:∀ s,KS s→KS (blk s).2∧s.2≤(blk s).2.2) {σ:St} {c:Nat} (hk:KE T (σ,c)):KS (stmtS T blk (σ,c)).2∧c≤(stmtS T blk (σ,c)).2.2:=by
 simp only [stmtS]
 cases hb1:(optS T [108,101,116] σ).1 with
 | true=>
  simp only [if_true]
  exact ⟨.inl (hk.opt hb1),Nat.le_refl _⟩
 | false=>
 rw [optS_false hb1]
 simp only [Bool.false_eq_true,if_false]
 cases hb2:(optS T [105,102] σ).1 with
 | true=>
  have hc:=hk.opt hb2
  simp only [if_true]
  have k1:=hK ((operS T (optS T [105,102] σ).2).2,c) (.inl hc)
  generalize blk ((operS T (optS T [105,102] σ).2).2,c)=t at *
  cases hb3:(optS T [101,108,115,101] t.2.1).1 with
  | true=>
   simp only [if_true]
   have k2:=hK ((optS T [101,108,115,101] t.2.1).2,t.2.2) (KS.err (σ:=t.2.1) k1.1 (fun i e h=>by rw [h,optS_err]))
   exact ⟨k2.1,Nat.le_trans k1.2 k2.2⟩
  | false=>
   simp only [Bool.false_eq_true,if_false]
   exact ⟨KS.err (σ:=t.2.1) k1.1 (fun i e h=>by rw [h,optS_err]),k1.2⟩
 | false=>
 rw [optS_false hb2]
 simp only [Bool.false_eq_true,if_false]
 cases hb3:(optS T [119,104,105,108,101] σ).1 with
 | true=>
  simp only [if_true]
  exact hK _ (.inl (hk.opt hb3))
 | false=>
 rw [optS_false hb3]
 simp only [Bool.false_eq_true,if_false]
 cases hb4:(optS T [108,111,111,112] σ).1 with
 | true=>
  simp only [if_true]
  exact hK _ (.inl (hk.opt hb4))
 | false=>
 rw [optS_false hb4]
 simp only [Bool.false_eq_true,if_false]
 cases hb5:(optS T [123] σ).1 with
 | true=>
  simp only [if_true]
  exact hK _ (.inl (hk.opt hb5))
 | false=>
  simp only [Bool.false_eq_true,if_false]
  refine ⟨?_,Nat.le_refl _⟩
  rcases hk with (hk | hk) | ⟨hk,he⟩
  ·exact .inl hk
  ·obtain ⟨i,e,rfl⟩:=isSome_err hk
   refine .inr ?_
   show (wantS T [59] (plainS T _ (i,some e)).2).2.isSome=true
   rw [plainS_err,wantS_err];rfl
  ·obtain ⟨i,e⟩:=σ
   refine .inr ?_
   show (wantS T [59] (plainS T _ (i,e)).2).2.isSome=true
   have:(plainS T ((tk T i).2.2:Int) (i,e)).2.2.isSome=true:=by
    cases e with
    | some e=>rw [plainS_err];rfl
    | none=>exact plainS_end he _
   exact err_isSome this (fun j f h=>by
    show wantS T [59] (plainS T ((tk T i).2.2:Int) (i,e)).2=_
    rw [h,wantS_err])
theorem stmtsS_K {one:SC→D×SC} (hO:∀ s,KE T s→KS (one s).2∧s.2≤(one s).2.2):∀ (f:Nat) (s:SC),KS s→KS (stmtsS T one f s).2∧s.2≤(stmtsS T one f s).2.2
 | 0,s,hk=>⟨hk,Nat.le_refl _⟩
 | f+1,(σ,c),hk=>by
  simp only [stmtsS]
  cases hn:σ.2.isSome with
  | true=>simp only [if_true];exact ⟨hk,Nat.le_refl _⟩
  | false=>
  simp only [Bool.false_eq_true,if_false]
  have hc:c≤2000:=by
   rcases hk with hk | hk
   ·exact hk
   ·rw [hn] at hk;cases hk
  cases hb:(optS T [125] σ).1 with
  | true=>simp only [if_true];exact ⟨.inl hc,Nat.le_refl _⟩
  | false=>
  simp only [Bool.false_eq_true,if_false]
  by_cases q:c=2000∧(tk T σ.1).1≠0
  ·rw [if_pos q];exact ⟨.inl hc,Nat.le_refl _⟩
  ·rw [if_neg q]
   have h1:=hO (σ,c+1) (by
    by_cases q1:c=2000
    ·refine .inr ⟨by show c+1≤2001;omega,?_⟩
     by_cases q2:(tk T σ.1).1=0
     ·exact q2
     ·exact absurd ⟨q1,q2⟩ q
    ·exact .inl (.inl (by show c+1≤2000;omega)))
   have h2:=stmtsS_K hO f (one (σ,c+1)).2 h1.1
   exact ⟨h2.1,Nat.le_trans (Nat.le_of_succ_le h1.2) h2.2⟩
theorem blockS_K:∀ (g:Nat) (s:SC),KS s→KS (blockS T g s).2∧s.2≤(blockS T g s).2.2
 | 0,(σ,c),hk=>⟨KS.err hk (fun i e h=>by
   show failS T 6 σ=_
   rw [h,failS_err]),Nat.le_refl _⟩
 | g+1,(σ,c),hk=>by
  simp only [blockS]
  have:=stmtsS_K (T:=T) (one:=stmtS T (blockS T g)) (fun s hs=>stmtS_K (blockS_K g) (σ:=s.1) (c:=s.2) hs) 2001 (wantS T [123] σ,c) (KS.err hk (fun i e h=>by rw [h,wantS_err]))
  exact this
end
theorem app42:AppN E 42 106 32 10000:=AppN.of (by kernel_rfl)
section
variable {N:Nat} {T:List Tok} {P:Nat} {X:List Nat} {h:Heap} {σ:St} {st:Int}
theorem PC.setSt (x:PC T P X h σ st) (st':Int):∃ h',h.store (P,2) [.int .i64 st']=some h'∧Chg [P] h h'∧PC T P X h' σ st':=by
 obtain ⟨⟨⟨s,v,h1,h2,h3,h4⟩,h5,h6⟩,hp,p4⟩:=x
 have c:=h1.put [SL.av s,.int .i64 (σ.1:Int),.int .i64 st',v]
 have hl:=h1.2
 refine ⟨_,h1.store1 (j:=2) (by show 2<4;omega) _,c,⟨⟨s,v,own_put h1 _,h2.chg c (fun A hA=>by simp;omega),h3,h4.chg c (fun A hA=>.inl (by simpa using hA))⟩,h5,fun A hA=>h6 A hA⟩,pin_chg c (by simp;omega) (by omega) hp,p4⟩
theorem PC.readSt (x:PC T P X h σ st):h.cell (P,2)=some (.int .i64 st):=by
 obtain ⟨⟨⟨s,v,h1,_⟩,_⟩,_⟩:=x
 exact h1.cell 2
def OneOK (T:List Tok) (P:Nat) (G:Option (Nat×Nat)→Int→Heap→Option (SmV×Heap)) (one:SC→D×SC) (deep:Int):Prop:=∀ (X:List Nat) (h:Heap) (σ:St) (c:Nat),PC T P X h σ (c:Int)→KE T (σ,c)→∃ r h',G (some (P,0)) deep h=some (r,h')∧PC T P X h' (one (σ,c)).2.1 ((one (σ,c)).2.2:Int)∧Chg [P] h h'∧Dt h' (fun C=>h.next≤C) (one (σ,c)).1 (smx r)
theorem stmts_loop (hT:Toks T) {F} {G:Option (Nat×Nat)→Int→Heap→Option (SmV×Heap)} {one:SC→D×SC} {deep:Int} (hG:OneOK T P G one deep) (hO:∀ s,KE T s→KS (one s).2∧s.2≤(one s).2.2) {h0:Heap} {v4:SL} (hP0:P<h0.next):∀ (f M:Nat) (h:Heap) (σ:St) (c:Nat) (v:SL) (xs:List D),f<M→2001≤c+f→xs.length≤c→KS (σ,c)→PC T P X h σ (c:Int)→Chg [P] h0 h→Ow h0.next h v 32 xs→
  ∃ o r h',f158_l1 N F G M (some (P,0)) deep ⟨none,0,0,0⟩ v h=some (o,r,h')∧PC T P X h' (stmtsS T one f (σ,c)).2.1 ((stmtsS T one f (σ,c)).2.2:Int)∧Chg [P] h0 h'∧
   (((stmtsS T one f (σ,c)).1.2=false∧o=.exit 0∧Ow h0.next h' r.2.1 32 (xs++(stmtsS T one f (σ,c)).1.1))∨((stmtsS T one f (σ,c)).1.2=true∧o=.ret∧r.1=⟨none,0,0,0⟩)):=by
 intro f
 induction f with
 | zero=>
  intro M h σ c v xs hM hc hx hk x ch w
  obtain ⟨M,rfl⟩:∃ m,M=m+1:=⟨M-1,by omega⟩
  rw [f158_l1_succ]
  unfold f158_l1_b
  obtain ⟨e,k3,hv⟩:=x.pa.readE
  have hs:σ.2.isSome=true:=by
   rcases hk with hk | hk
   ·have hk:c≤2000:=hk;omega
   ·exact hk
  have hs':σ.2.isNone=false:=by cases hh:σ.2 <;> simp_all
  simp only [need_some,Nat.zero_add,k3,bindV_some,cast_any,hv.eq 15,cast_bool,hs',cond_false,stmtsS]
  exact ⟨_,_,h,rfl,x,ch,.inl ⟨trivial,rfl,by rw [List.append_nil];exact w⟩⟩
 | succ f ih=>
  intro M h σ c v xs hM hc hx hk x ch w
  obtain ⟨M,rfl⟩:∃ m,M=m+1:=⟨M-1,by omega⟩
  rw [f158_l1_succ]
  unfold f158_l1_b
  obtain ⟨e,k3,hv⟩:=x.pa.readE
  simp only [need_some,Nat.zero_add,k3,bindV_some,cast_any,hv.eq 15,cast_bool,stmtsS]
  cases hn:σ.2 with
  | some q=>
   simp only [Option.isNone_some,cond_false,Option.isSome_some,if_true]
   exact ⟨_,_,h,rfl,x,ch,.inl ⟨trivial,rfl,by rw [List.append_nil];exact w⟩⟩
  | none=>
  simp only [Option.isNone_none,cond_true,Option.isSome_none,Bool.false_eq_true,if_false]
  have hc2:c≤2000:=by
   rcases hk with hk | hk
   ·exact hk
   ·simp [hn] at hk
  obtain ⟨h12,e12,c12,x12⟩:=f93_pc (N:=N) hT x (w:=[125]) (by decide)
  rw [e12,bind2_some]
  have w12:=w.chg c12 (by intro A hA;rw [List.mem_singleton] at hA;omega)
  have ch12:=ch.trans c12
  cases hb:(optS T [125] σ).1 with
  | true=>
   simp only [Bool.not_true,cond_false,if_true]
   exact ⟨_,_,h12,rfl,x12,ch12,.inl ⟨trivial,rfl,by rw [List.append_nil];exact w12⟩⟩
  | false=>
  rw [optS_false hb] at x12
  simp only [Bool.not_false,cond_true,Bool.false_eq_true,if_false,x12.readSt,bindV_some,cast_int,eqI]
  -- is it too long?
  have hlong:∃ h21,(bif decide ((c:Int)=2000) then
    (bind2 (f56 N (some (P,0)) h12) fun (x17:(Int×List UInt8×Int×Unit)) h18=>
    let x19:Bool:=!decide (x17.1=0)
    some ((some (P,0),deep,(⟨none,0,0,0⟩:SL),v,x19,()),h18))
    else
    some ((some (P,0),deep,(⟨none,0,0,0⟩:SL),v,false,()),h12))=some ((some (P,0),deep,(⟨none,0,0,0⟩:SL),v,decide (c=2000∧(tk T σ.1).1≠0),()),h21)∧Chg [] h12 h21:=by
   by_cases q:c=2000
   ·obtain ⟨h18,e18,c18⟩:=f56_eq (N:=N) x12.pa
    have q':((c:Int)=2000):=by omega
    simp only [q',decide_true,cond_true]
    rw [e18,bind2_some]
    refine ⟨h18,?_,c18⟩
    simp only [ttOf,q,true_and]
    by_cases q2:(tk T σ.1).1=0
    ·simp [q2]
    ·simp [q2]
   ·have q':¬ ((c:Int)=2000):=by omega
    simp only [q',decide_false,cond_false,q,false_and]
    exact ⟨h12,rfl,Chg.refl _ _⟩
  obtain ⟨h21,e21,c21⟩:=hlong
  rw [e21,bind2_some]
  have x21:=x12.chg c21
  have w21:=w12.chg c21 (by simp)
  have ch21:=ch12.trans (c21.mono (N:=[P]) (by simp))
  by_cases q:c=2000∧(tk T σ.1).1≠0
  ·simp only [q,decide_true,cond_true,if_true,ne_eq,not_false_eq_true,and_self]
   obtain ⟨h23,e23,c23,x23⟩:=f57_pc (N:=N) x21 (c:=5) (by decide)
   rw [e23,bind2_some]
   have q1:=q.1
   subst q1
   exact ⟨_,_,h23,rfl,x23,ch21.trans c23,.inr ⟨trivial,rfl,rfl⟩⟩
  ·rw [if_neg q]
   simp only [q,decide_false,cond_false,need_some,Nat.zero_add,x21.readSt,bindV_some,cast_int]
   rw [wrap_succ (by omega)]
   obtain ⟨h28,e28,c28,x28⟩:=x21.setSt ((c+1:Nat):Int)
   rw [e28,need_some]
   have w28:=w21.chg c28 (by intro A hA;rw [List.mem_singleton] at hA;omega)
   have ch28:=ch21.trans c28
   have hge:∀ A∈v.blk.toList,h0.next≤A∧A<h28.next:=fun A hA=>w28.ge A (by simpa using hA)
   obtain ⟨i,er⟩:=σ
   simp only at hn;subst hn
   have hke:KE T ((i,none),c+1):=by
    by_cases q1:c=2000
    ·refine .inr ⟨by show c+1≤2001;omega,?_⟩
     by_cases q2:(tk T i).1=0
     ·exact q2
     ·exact absurd ⟨q1,q2⟩ q
    ·exact .inl (.inl (by show c+1≤2000;omega))
   obtain ⟨r,h30,e30,x30,c30,d30⟩:=hG (v.blk.toList++X) h28 (i,none) (c+1) (x28.free fun A hA=>by
    rcases List.mem_append.1 hA with hA | hA
    ·have:=hge A hA;omega
    ·exact x28.pa.xl A hA) hke
   rw [e30,bind2_some]
   have hk1:=hO ((i,none),c+1) hke
   have w30:=w28.chg c30 (by intro A hA;rw [List.mem_singleton] at hA;omega)
   have ch30:=ch28.trans c30
   have hn28:=ch28.next
   obtain ⟨v',h33,eK,w33,c33,hb33⟩:=app_sl app42 (by decide) ch30 w30 (d30.weak (W:=fun C=>h0.next≤C∧v.blk≠some C) fun C hC _=>⟨by omega,fun e=>by have:=hge C (by simpa using e);omega⟩) rfl (by
    have:(xs.length+1) * 10000≤2001 * 10000:=Nat.mul_le_mul_right _ (by omega)
    omega)
   have x33:=(x30.chgM c33 (fun A hA=>List.mem_append_left _ hA)).sub (X':=X) (fun A hA=>List.mem_append_right _ hA)
   have ch33:=ch30.step c33 (fun A hA hl=>by have:=hge A hA;omega)
   generalize one ((i,none),c+1)=z at *
   have:=ih M h33 z.2.1 z.2.2 v' (xs++[z.1]) (by omega) (by have:c+1≤z.2.2:=hk1.2;omega) (by simp;have:c+1≤z.2.2:=hk1.2;omega) hk1.1 x33 ch33 w33
   rw [List.append_assoc] at this
   obtain ⟨o,rr,h',e',x',c',hres⟩:=this
   exact ⟨o,rr,h',(eK _).trans e',x',c',hres⟩
end
end Go.Proofs.YtkcjphhjmlienaaGreatDoor.Qp

set_option linter.unusedVariables false
set_option linter.unusedSimpArgs false
open Go Go.Proofs.YtkcjphhjmlienaaGreatDoor.Ai Go.Proofs
namespace Go.Proofs.YtkcjphhjmlienaaGreatDoor.Qp
theorem failS_isSome (T:List Tok) (k:Int) (σ:St):(failS T k σ).2.isSome=true:=by
 obtain ⟨i,e⟩:=σ
 cases e <;> rfl
theorem wantS_of {T:List Tok} {w:Bs} {σ:St} (h:σ.2.isSome=true):wantS T w σ=σ:=by
 obtain ⟨i,e,rfl⟩:=isSome_err h
 exact wantS_err T i e w
section
variable {N:Nat} {T:List Tok} {P:Nat} {X:List Nat} {h:Heap} {σ:St} {st:Int}
theorem block_ok (hT:Toks T) (hN:3000≤N):∀ (g M:Nat),g≤64→2 * g+1≤M→BlkOK N T P (f158 N M) (blockS T g) ((65-g:Nat):Int):=by
 intro g
 induction g with
 | zero=>
  intro M hg hM X h σ c x hk
  obtain ⟨M,rfl⟩:∃ m,M=m+1:=⟨M-1,by omega⟩
  rw [f158_succ]
  unfold f158_r
  simp only [show ltInt 64 ((65-0:Nat):Int)=true from rfl,cond_true]
  obtain ⟨h3,e3,c3,x3⟩:=f57_pc (N:=N) x (c:=6) (by decide)
  rw [e3,bind2_some,bind2_some]
  dsimp only
  obtain ⟨h7,e7,c7,x7⟩:=f149_pc (N:=N) hT x3 (w:=[123]) (by decide)
  rw [e7,bind2_some]
  have hs:=failS_isSome T 6 σ
  rw [wantS_of hs] at x7
  obtain ⟨n,hn⟩:∃ n,N=n+1:=⟨N-1,by omega⟩
  have hl:∀ (F G) (M:Nat),f158_l1 N F G (M+1) (some (P,0)) ((65-0:Nat):Int) ⟨none,0,0,0⟩ ⟨none,0,0,0⟩ h7=some (.exit 0,(⟨none,0,0,0⟩,⟨none,0,0,0⟩,()),h7):=by
   intro F G M
   rw [f158_l1_succ]
   unfold f158_l1_b
   obtain ⟨e,k3,hv⟩:=x7.pa.readE
   have hs':(failS T 6 σ).2.isNone=false:=by cases hh:(failS T 6 σ).2 <;> simp_all
   simp only [need_some,Nat.zero_add,k3,bindV_some,cast_any,hv.eq 15,cast_bool,hs',cond_false]
  have hl':=hl (f158 N M) (f190 N M) n
  rw [← hn] at hl'
  rw [hl']
  simp only [bind3_some]
  exact ⟨sl0,h7,rfl,x7,c3.trans c7,Sl.nil _ _ _⟩
 | succ g ih=>
  intro M hg hM X h σ c x hk
  obtain ⟨M,rfl⟩:∃ m,M=m+2:=⟨M-2,by omega⟩
  rw [f158_succ]
  unfold f158_r
  have hlt:ltInt 64 ((65-(g+1):Nat):Int)=false:=by rw [ltI];exact decide_eq_false (by omega)
  simp only [hlt,cond_false,bind2_some]
  obtain ⟨h7,e7,c7,x7⟩:=f149_pc (N:=N) hT x (w:=[123]) (by decide)
  rw [e7,bind2_some]
  have hB:=ih M (by omega) (by omega)
  have hd:65-g=(65-(g+1))+1:=by omega
  rw [hd] at hB
  have hone:OneOK T P (f190 N (M+1)) (stmtS T (blockS T g)) ((65-(g+1):Nat):Int):=by
   intro X h σ c x hk
   rw [f190_succ]
   exact f190_pc hT (by omega) (by omega) hB (fun s hs=>(blockS_K g s hs).1) x hk
  have hk7:KS (wantS T [123] σ,c):=hk.err (fun i e h=>by rw [h,wantS_err])
  obtain ⟨o,r,h',e',x',c',hres⟩:=stmts_loop (N:=N) hT (F:=f158 N (M+1)) hone (fun s hs=>stmtS_K (blockS_K g) (σ:=s.1) (c:=s.2) hs) (h0:=h7) (v4:=sl0) x7.P_lt 2001 N h7 _ c sl0 [] (by omega) (by omega) (by simp) hk7 x7 (Chg.refl _ _) (Ow.nil _ _ _ _)
  rw [e']
  simp only [bind3_some,blockS]
  have hn7:=c7.next
  rcases hres with ⟨e1,rfl,w⟩ | ⟨e1,rfl,e2⟩
  ·rw [e1]
   rw [List.nil_append] at w
   exact ⟨_,h',rfl,x',c7.trans c',w.sl.weak fun C hC _=>by omega⟩
  ·rw [e1]
   exact ⟨_,h',rfl,x',c7.trans c',by rw [e2];exact Sl.nil _ _ _⟩
end
structure FuR where
 pub:Bool
 nm:Bs
 lv:SL
 ps:SL
 ty:TyV
 bd:SL
 at_:Int
structure FuT where
 lv:List D
 ps:List D
 ty:D
 bd:List D
abbrev FuV:=Bool×List UInt8×SL×SL×Int×List UInt8×SL×SL×SL×Int×Unit
def fux (x:FuV):List AV:=[.bool x.1,.str x.2.1,.slice x.2.2.1.a x.2.2.1.len x.2.2.1.cap x.2.2.1.sz,.slice x.2.2.2.1.a x.2.2.2.1.len x.2.2.2.1.cap x.2.2.2.1.sz,.int .i64 x.2.2.2.2.1,.str x.2.2.2.2.2.1,.slice x.2.2.2.2.2.2.1.a x.2.2.2.2.2.2.1.len x.2.2.2.2.2.2.1.cap x.2.2.2.2.2.2.1.sz,.slice x.2.2.2.2.2.2.2.1.a x.2.2.2.2.2.2.2.1.len x.2.2.2.2.2.2.2.1.cap x.2.2.2.2.2.2.2.1.sz,.slice x.2.2.2.2.2.2.2.2.1.a x.2.2.2.2.2.2.2.2.1.len x.2.2.2.2.2.2.2.2.1.cap x.2.2.2.2.2.2.2.2.1.sz,.int .i64 x.2.2.2.2.2.2.2.2.2.1]
def fuv (r:FuR):FuV:=(r.pub,r.nm,r.lv,r.ps,r.ty.1,r.ty.2.1,r.ty.2.2.1,r.ty.2.2.2.1,r.bd,r.at_,())
def fuc (r:FuR):List AV:=fux (fuv r)
def fuD (r:FuR) (d:FuT):D:=.t [.b r.pub,.s r.nm,.l d.lv,.l d.ps,d.ty,.l d.bd,.i r.at_]
def fuR0 (pub:Bool) (nm:Bs) (at_:Int):FuR:=⟨pub,nm,sl0,sl0,ty00,sl0,at_⟩
def fuT0:FuT:=⟨[],[],ty0D,[]⟩
theorem aggF {β:Type} (r:FuV) (K:FuV→Option β):bindV (.val (.agg [.bool,.str,.slice,.slice,(.int .i64),.str,.slice,.slice,.slice,(.int .i64)])) (some (.agg (fux r))) K=K r:=by
 obtain ⟨x1,x2,x3,x4,x5,x6,x7,x8,x9,x10,_⟩:=r
 simp [fux]
theorem cellsF {H:Heap} {A:Nat} {r:FuV} (o:H.own A (fux r)) {β:Type} (K:FuV→Option β):bindV (.val (.agg [.bool,.str,.slice,.slice,(.int .i64),.str,.slice,.slice,.slice,(.int .i64)])) (H.cells (A,0) 10) K=K r:=by
 have:H.cells (A,0) 10=some (.agg (fux r)):=o.cells (j:=0) (m:=10) (Nat.le_refl _)
 rw [this,aggF]
theorem finF {H:Heap} {A:Nat} {r0:FuV} (o:H.own A (fux r0)) (x:FuV) {β:Type} (K:FuV→Heap→Option β) :
  (need (H.store (A,0) [.bool x.1,.str x.2.1,.slice x.2.2.1.a x.2.2.1.len x.2.2.1.cap x.2.2.1.sz,.slice x.2.2.2.1.a x.2.2.2.1.len x.2.2.2.1.cap x.2.2.2.1.sz,.int .i64 x.2.2.2.2.1,.str x.2.2.2.2.2.1,.slice x.2.2.2.2.2.2.1.a x.2.2.2.2.2.2.1.len x.2.2.2.2.2.2.1.cap x.2.2.2.2.2.2.1.sz,.slice x.2.2.2.2.2.2.2.1.a x.2.2.2.2.2.2.2.1.len x.2.2.2.2.2.2.2.1.cap x.2.2.2.2.2.2.2.1.sz,.slice x.2.2.2.2.2.2.2.2.1.a x.2.2.2.2.2.2.2.2.1.len x.2.2.2.2.2.2.2.2.1.cap x.2.2.2.2.2.2.2.2.1.sz,.int .i64 x.2.2.2.2.2.2.2.2.2.1]) fun h7=>bindV (.val (.agg [.bool,.str,.slice,.slice,(.int .i64),.str,.slice,.slice,.slice,(.int .i64)])) (h7.cells (A,0) 10) fun x8=>K x8 h7)=K x (H.put A (.row (fux x) .own)):=by
 have:H.store (A,0) (fux x)=some (H.put A (.row (fux x) .own)):=o.store rfl
 show (need (H.store (A,0) (fux x)) _)=_
 rw [this,need_some,cellsF (own_put o _)]
structure FI (T:List Tok) (P:Nat) (X:List Nat) (hb:Heap) (Q R O:Nat) (r:FuR) (d:FuT) (h:Heap) (σ:St) (st:Int):Prop where
 pc:PC T P (O::R::X) h σ st
 chg:Chg [P] hb h
 oQ:h.own Q [.ptr (some (P,0))]
 oR:h.own R (fuc (fuR0 false [] 0))
 oO:h.own O (fuc r)
 le:hb.next≤Q∧Q<R∧R<O∧P<hb.next
 dlv:Sl h (fun C=>O<C) r.lv d.lv
 dps:Sl h (fun C=>O<C) r.ps d.ps
 dty:Dt h (fun C=>O<C) d.ty (tyc r.ty)
 dbd:Sl h (fun C=>O<C) r.bd d.bd
section
variable {T:List Tok} {P:Nat} {X:List Nat} {st st':Int} {hb h h':Heap} {Q R O:Nat} {r r':FuR} {d d':FuT} {σ σ':St}
theorem FI.dt (x:FI T P X hb Q R O r d h σ st):Dt h (fun C=>O<C) (fuD r d) (fuc r):=
 dt_t (dp_cons (a:=[_]) (dt_b h _ r.pub) (dp_cons (a:=[_]) (dt_str h _ r.nm) (dp_cons (a:=[_]) (dt_av.2 x.dlv) (dp_cons (a:=[_]) (dt_av.2 x.dps) (dp_cons (a:=tyc r.ty) x.dty (dp_cons (a:=[_]) (dt_av.2 x.dbd) (dp_cons (a:=[_]) (b:=[]) (dt_i h _ r.at_) (dp_nil h _))))))))
theorem FI.old (x:FI T P X hb Q R O r d h σ st) (c:Chg [P,O] h h'):Chg [P] hb h'∧h'.own Q [.ptr (some (P,0))]∧h'.own R (fuc (fuR0 false [] 0))∧Sl h' (fun C=>O<C) r.lv d.lv∧Sl h' (fun C=>O<C) r.ps d.ps∧Dt h' (fun C=>O<C) d.ty (tyc r.ty)∧Sl h' (fun C=>O<C) r.bd d.bd:=by
 obtain ⟨x1,x2,x3,x4,x5,x6,x7,x8,x9,x10⟩:=x
 have hM:∀ A,O<A→A ∉ [P,O]:=fun C hC=>by simp;omega
 exact ⟨x2.step c (fun A hA hl=>by simp only [List.mem_cons,List.not_mem_nil,or_false] at hA ⊢;omega),x3.chg c (by simp;omega),x4.chg c (by simp;omega),x7.chg c hM,x8.chg c hM,x9.chg c hM,x10.chg c hM⟩
theorem FI.step (x:FI T P X hb Q R O r d h σ st) (c:Chg [P] h h') (y:PC T P (O::R::X) h' σ' st'):FI T P X hb Q R O r d h' σ' st':=by
 have hle:=x.le
 obtain ⟨g1,g2,g3,g4,g5,g6,g7⟩:=x.old (c.mono (by simp))
 exact ⟨y,g1,g2,g3,x.oO.chg c (by simp;omega),x.le,g4,g5,g6,g7⟩
theorem FI.lt (x:FI T P X hb Q R O r d h σ st):O<h.next:=x.oO.2
end
def funcS (T:List Tok) (pub:Bool) (at_:Int) (σ:St):D×SC:=
 let n:=textS T 1 σ
 let a:=optS T [60] n.2
 let l:=if a.1=true then ((listE T (lifS T) [44] a.2).1,wantS T [62] (listE T (lifS T) [44] a.2).2) else ([],a.2)
 let b:=optS T [41] (wantS T [40] l.2)
 let p:=if b.1=true then ([],b.2) else ((listE T (paramS T) [44] b.2).1,wantS T [41] (listE T (paramS T) [44] b.2).2)
 let c:=optS T [45,62] p.2
 let t:=if c.1=true then typS T 64 c.2 else (ty0D,c.2)
 let k:=blockS T 64 (t.2,0)
 (fuD (fuR0 pub n.1 at_) ⟨l.1,p.1,t.1,k.1⟩,k.2)
theorem fu2 (r:FuR) (v:SL):(fuc { r with lv:=v })[2]? = some (SL.av v):=by simp [fuc,fux,fuv,SL.av]
theorem fs2 (r:FuR) (v v':SL):(fuc { r with lv:=v }).set 2 (SL.av v')=fuc { r with lv:=v' }:=by simp [fuc,fux,fuv,SL.av]
theorem fu3 (r:FuR) (v:SL):(fuc { r with ps:=v })[3]? = some (SL.av v):=by simp [fuc,fux,fuv,SL.av]
theorem fs3 (r:FuR) (v v':SL):(fuc { r with ps:=v }).set 3 (SL.av v')=fuc { r with ps:=v' }:=by simp [fuc,fux,fuv,SL.av]
end Go.Proofs.YtkcjphhjmlienaaGreatDoor.Qp

set_option linter.unusedVariables false
set_option linter.unusedSimpArgs false
open Go Go.Proofs.YtkcjphhjmlienaaGreatDoor.Ai Go.Proofs
namespace Go.Proofs.YtkcjphhjmlienaaGreatDoor.Qp
section
variable {N:Nat} {T:List Tok} {P:Nat} {X:List Nat} {h:Heap} {σ:St} {st:Int}
theorem f103_pc (hT:Toks T) (hN:3000≤N) (x:PC T P X h σ st) (pub:Bool) (at_:Int):∃ r h',f103 N (some (P,0)) pub at_ h=some (r,h')∧PC T P X h' (funcS T pub at_ σ).2.1 ((funcS T pub at_ σ).2.2:Int)∧Chg [P] h h'∧Dt h' (fun C=>h.next≤C) (funcS T pub at_ σ).1 (fux r):=by
 unfold f103
 have hN1:100≤N:=by omega
 have hP:=x.P_lt
 have oQ:=own_push h [AV.ptr (some (P,0))]
 have cQ:=chg_push h (.row [AV.ptr (some (P,0))] .own)
 have nQ:(h.push (.row [AV.ptr (some (P,0))] .own)).next=h.next+1:=rfl
 dsimp only
 generalize h.push (.row [AV.ptr (some (P,0))] .own)=h1 at *
 have oR:=own_push h1 (fuc (fuR0 false [] 0))
 have cR:=chg_push h1 (.row (fuc (fuR0 false [] 0)) .own)
 have eR:h1.push (.row [(.bool false),(.str []),(.slice none 0 0 0),(.slice none 0 0 0),(.int .i64 0),(.str []),(.slice none 0 0 0),(.slice none 0 0 0),(.slice none 0 0 0),(.int .i64 0)] .own)=h1.push (.row (fuc (fuR0 false [] 0)) .own):=rfl
 have nR:(h1.push (.row (fuc (fuR0 false [] 0)) .own)).next=h1.next+1:=rfl
 have x2:=(x.chg cQ).add cR (A:=h1.next) (Nat.le_refl _) (Nat.lt_succ_self _)
 rw [eR]
 generalize h1.push (.row (fuc (fuR0 false [] 0)) .own)=h2 at *
 have oQ2:=oQ.chg cR (by simp)
 have c02:=cQ.trans cR
 have r2:h2.cell (h.next,0)=some (.ptr (some (P,0))):=oQ2.cell 0
 simp only [r2,bindV_some,cast_ptr,need_some,Nat.zero_add]
 obtain ⟨h5,e5,c5,x5⟩:=x2.setSt 0
 rw [e5,need_some]
 have oQ5:=oQ2.chg c5 (by simp;omega)
 have r5:h5.cell (h.next,0)=some (.ptr (some (P,0))):=oQ5.cell 0
 simp only [r5,bindV_some,cast_ptr]
 obtain ⟨h8,e8,c8,x8⟩:=f94_pc (N:=N) hT x5 (k:=1) (by decide)
 rw [e8,bind2_some]
 have c28:=c5.trans c8
 have oQ8:=oQ5.chg c8 (by simp;omega)
 have oR8:=oR.chg c28 (by simp;omega)
 have hn8:=c28.next
 simp only [funcS]
 generalize (textS T 1 σ).1=nm at *
 generalize (textS T 1 σ).2=σ1 at *
 have oO0:=own_push h8 (fuc (fuR0 false [] 0))
 have cO0:=chg_push h8 (.row (fuc (fuR0 false [] 0)) .own)
 have eO:h8.push (.row [(.bool false),(.str []),(.slice none 0 0 0),(.slice none 0 0 0),(.int .i64 0),(.str []),(.slice none 0 0 0),(.slice none 0 0 0),(.slice none 0 0 0),(.int .i64 0)] .own)=h8.push (.row (fuc (fuR0 false [] 0)) .own):=rfl
 have hstO:(h8.push (.row (fuc (fuR0 false [] 0)) .own)).store (h8.next,0) [(.bool pub),(.str nm),(.slice none 0 0 0),(.slice none 0 0 0),(.int .i64 0),(.str []),(.slice none 0 0 0),(.slice none 0 0 0),(.slice none 0 0 0),(.int .i64 at_)]=some ((h8.push (.row (fuc (fuR0 false [] 0)) .own)).put h8.next (.row (fuc (fuR0 pub nm at_)) .own)):=oO0.store rfl
 rw [eO,hstO,need_some]
 have oO:=own_put oO0 (fuc (fuR0 pub nm at_))
 have cO:Chg [] h8 ((h8.push (.row (fuc (fuR0 false [] 0)) .own)).put h8.next (.row (fuc (fuR0 pub nm at_)) .own)):=cO0.put (.inr (Nat.le_refl _)) _
 have nO:((h8.push (.row (fuc (fuR0 false [] 0)) .own)).put h8.next (.row (fuc (fuR0 pub nm at_)) .own)).next=h8.next+1:=rfl
 have x10:=x8.add cO (A:=h8.next) (Nat.le_refl _) (Nat.lt_succ_self _)
 have oQ10:=oQ8.chg cO (by simp)
 have oR10:=oR8.chg cO (by simp)
 have c010:Chg [P] h ((h8.push (.row (fuc (fuR0 false [] 0)) .own)).put h8.next (.row (fuc (fuR0 pub nm at_)) .own)):=((c02.mono (by simp)).trans c28).trans (cO.mono (by simp))
 generalize (h8.push (.row (fuc (fuR0 false [] 0)) .own)).put h8.next (.row (fuc (fuR0 pub nm at_)) .own)=h10 at *
 have i10:FI T P X h h.next h1.next h8.next (fuR0 pub nm at_) fuT0 h10 σ1 0:=⟨x10,c010,oQ10,oR10,oO,⟨Nat.le_refl _,by omega,by omega,hP⟩,Sl.nil _ _ _,Sl.nil _ _ _,dt_ty0 _ _ _ _,Sl.nil _ _ _⟩
 generalize hQe:h.next=Q at *
 generalize h1.next=R at *
 generalize h8.next=O at *
 have q10:h10.cell (Q,0)=some (.ptr (some (P,0))):=i10.oQ.cell 0
 simp only [q10,bindV_some,cast_ptr]
 obtain ⟨h13,e13,c13,y13⟩:=f93_pc (N:=N) hT i10.pc (w:=[60]) (by decide)
 rw [e13,bind2_some]
 have i13:=i10.step c13 y13
 have q13:h13.cell (Q,0)=some (.ptr (some (P,0))):=i13.oQ.cell 0
 -- lifetimes
 have h21s:∃ v h21,(bif (optS T [60] σ1).1 then
    (bindV (.val (.one .ptr)) (h13.cell (Q,0)) fun (x14:Option (Nat×Nat))=>
    (bind2 (f147c155 N x14 [44] ((some (O,0)),(some (Q,0)),()) h13) fun (x15:(Unit)) h16=>
    (bindV (.val (.one .ptr)) (h16.cell (Q,0)) fun (x17:Option (Nat×Nat))=>
    (bind2 (f149 N x17 [62] h16) fun (x18:(Unit)) h19=>
    some (((some (Q,0)),(some (R,0)),(some (O,0)),()),h19)))))
    else
    some (((some (Q,0)),(some (R,0)),(some (O,0)),()),h13))=some (((some (Q,0)),(some (R,0)),(some (O,0)),()),h21)∧
   FI T P X h Q R O { fuR0 pub nm at_ with lv:=v } { fuT0 with lv:=(if (optS T [60] σ1).1=true then ((listE T (lifS T) [44] (optS T [60] σ1).2).1,wantS T [62] (listE T (lifS T) [44] (optS T [60] σ1).2).2) else ([],(optS T [60] σ1).2)).1 } h21 (if (optS T [60] σ1).1=true then ((listE T (lifS T) [44] (optS T [60] σ1).2).1,wantS T [62] (listE T (lifS T) [44] (optS T [60] σ1).2).2) else ([],(optS T [60] σ1).2)).2 0:=by
  have hle:=i13.le
  cases hb:(optS T [60] σ1).1 with
  | false=>exact ⟨sl0,h13,rfl,i13⟩
  | true=>
   simp only [cond_true,if_true,q13,bindV_some,cast_ptr]
   have hl:=i13.lt
   have f:CF P (O::R::X) h13 O Q 2 2 (fun v=>fuc { fuR0 pub nm at_ with lv:=v }):=⟨by omega,by omega,by simp,fun v=>fu2 _ v,fun v v'=>fs2 _ v v'⟩
   obtain ⟨h16,e16,ci⟩:=lifs_list (N:=N) hT hN1 f ⟨i13.pc,Chg.refl _ _,i13.oQ,sl0,i13.oO,Ow.nil _ _ _ _⟩
   rw [e16,bind2_some]
   obtain ⟨v,oO16,w16⟩:=ci.ex
   have q16:h16.cell (Q,0)=some (.ptr (some (P,0))):=ci.q.cell 0
   simp only [q16,bindV_some,cast_ptr]
   obtain ⟨g1,g2,g3,g4,g5,g6,g7⟩:=i13.old ci.chg
   have i16:FI T P X h Q R O { fuR0 pub nm at_ with lv:=v } { fuT0 with lv:=(listE T (lifS T) [44] (optS T [60] σ1).2).1 } h16 (listE T (lifS T) [44] (optS T [60] σ1).2).2 0:=⟨ci.pc,g1,g2,g3,oO16,i13.le,w16.sl.weak (fun C hC _=>by omega),g5,g6,g7⟩
   obtain ⟨h19,e19,c19,y19⟩:=f149_pc (N:=N) hT i16.pc (w:=[62]) (by decide)
   rw [e19,bind2_some]
   exact ⟨v,h19,rfl,i16.step c19 y19⟩
 obtain ⟨lv,h21,e21,i21⟩:=h21s
 rw [e21,bind2_some]
 generalize (if (optS T [60] σ1).1=true then ((listE T (lifS T) [44] (optS T [60] σ1).2).1,wantS T [62] (listE T (lifS T) [44] (optS T [60] σ1).2).2) else ([],(optS T [60] σ1).2))=zl at *
 have q21:h21.cell (Q,0)=some (.ptr (some (P,0))):=i21.oQ.cell 0
 simp only [need_some,q21,bindV_some,cast_ptr]
 obtain ⟨h25,e25,c25,y25⟩:=f149_pc (N:=N) hT i21.pc (w:=[40]) (by decide)
 rw [e25,bind2_some]
 have i25:=i21.step c25 y25
 have q25:h25.cell (Q,0)=some (.ptr (some (P,0))):=i25.oQ.cell 0
 simp only [q25,bindV_some,cast_ptr]
 obtain ⟨h29,e29,c29,y29⟩:=f93_pc (N:=N) hT i25.pc (w:=[41]) (by decide)
 rw [e29,bind2_some]
 have i29:=i25.step c29 y29
 have q29:h29.cell (Q,0)=some (.ptr (some (P,0))):=i29.oQ.cell 0
 have h40s:∃ v h40,(bif !(optS T [41] (wantS T [40] zl.2)).1 then
    (bindV (.val (.one .ptr)) (h29.cell (Q,0)) fun (x32:Option (Nat×Nat))=>
    (bind2 (f147c157 N x32 [44] ((some (Q,0)),(some (O,0)),()) h29) fun (x33:(Unit)) h34=>
    (bindV (.val (.one .ptr)) (h34.cell (Q,0)) fun (x36:Option (Nat×Nat))=>
    (bind2 (f149 N x36 [41] h34) fun (x37:(Unit)) h38=>
    some (((some (Q,0)),(some (R,0)),(some (O,0)),()),h38)))))
    else
    some (((some (Q,0)),(some (R,0)),(some (O,0)),()),h29))=some (((some (Q,0)),(some (R,0)),(some (O,0)),()),h40)∧
   FI T P X h Q R O { fuR0 pub nm at_ with lv:=lv,ps:=v } { fuT0 with lv:=zl.1,ps:=(if (optS T [41] (wantS T [40] zl.2)).1=true then ([],(optS T [41] (wantS T [40] zl.2)).2) else ((listE T (paramS T) [44] (optS T [41] (wantS T [40] zl.2)).2).1,wantS T [41] (listE T (paramS T) [44] (optS T [41] (wantS T [40] zl.2)).2).2)).1 } h40 (if (optS T [41] (wantS T [40] zl.2)).1=true then ([],(optS T [41] (wantS T [40] zl.2)).2) else ((listE T (paramS T) [44] (optS T [41] (wantS T [40] zl.2)).2).1,wantS T [41] (listE T (paramS T) [44] (optS T [41] (wantS T [40] zl.2)).2).2)).2 0:=by
  have hle:=i29.le
  cases hb:(optS T [41] (wantS T [40] zl.2)).1 with
  | true=>exact ⟨sl0,h29,rfl,i29⟩
  | false=>
   simp only [Bool.not_false,cond_true,Bool.false_eq_true,if_false,q29,bindV_some,cast_ptr]
   have hl:=i29.lt
   have f:CF P (O::R::X) h29 O Q 6 3 (fun v=>fuc { fuR0 pub nm at_ with lv:=lv,ps:=v }):=⟨by omega,by omega,by simp,fun v=>fu3 { fuR0 pub nm at_ with lv:=lv } v,fun v v'=>fs3 { fuR0 pub nm at_ with lv:=lv } v v'⟩
   obtain ⟨h34,e34,ci⟩:=params_list (N:=N) hT hN1 f ⟨i29.pc,Chg.refl _ _,i29.oQ,sl0,i29.oO,Ow.nil _ _ _ _⟩
   rw [e34,bind2_some]
   obtain ⟨v,oO34,w34⟩:=ci.ex
   have q34:h34.cell (Q,0)=some (.ptr (some (P,0))):=ci.q.cell 0
   simp only [q34,bindV_some,cast_ptr]
   obtain ⟨g1,g2,g3,g4,g5,g6,g7⟩:=i29.old ci.chg
   have i34:FI T P X h Q R O { fuR0 pub nm at_ with lv:=lv,ps:=v } { fuT0 with lv:=zl.1,ps:=(listE T (paramS T) [44] (optS T [41] (wantS T [40] zl.2)).2).1 } h34 (listE T (paramS T) [44] (optS T [41] (wantS T [40] zl.2)).2).2 0:=⟨ci.pc,g1,g2,g3,oO34,i29.le,g4,w34.sl.weak (fun C hC _=>by omega),g6,g7⟩
   obtain ⟨h38,e38,c38,y38⟩:=f149_pc (N:=N) hT i34.pc (w:=[41]) (by decide)
   rw [e38,bind2_some]
   exact ⟨v,h38,rfl,i34.step c38 y38⟩
 obtain ⟨ps,h40,e40,i40⟩:=h40s
 rw [e40,bind2_some]
 generalize (if (optS T [41] (wantS T [40] zl.2)).1=true then ([],(optS T [41] (wantS T [40] zl.2)).2) else ((listE T (paramS T) [44] (optS T [41] (wantS T [40] zl.2)).2).1,wantS T [41] (listE T (paramS T) [44] (optS T [41] (wantS T [40] zl.2)).2).2))=zp at *
 have q40:h40.cell (Q,0)=some (.ptr (some (P,0))):=i40.oQ.cell 0
 simp only [need_some,q40,bindV_some,cast_ptr]
 obtain ⟨h44,e44,c44,y44⟩:=f93_pc (N:=N) hT i40.pc (w:=[45,62]) (by decide)
 rw [e44,bind2_some]
 have i44:=i40.step c44 y44
 have q44:h44.cell (Q,0)=some (.ptr (some (P,0))):=i44.oQ.cell 0
 have h52s:∃ v h52,(bif (optS T [45,62] zp.2).1 then
    (bindV (.val (.one .ptr)) (h44.cell (Q,0)) fun (x46:Option (Nat×Nat))=>
    (bind2 (f55 N N x46 1 h44) fun (x47:(Int×List UInt8×SL×SL×Unit)) h48=>
    (need (h48.store (O,4) [(.int .i64 x47.1),(.str x47.2.1),(.slice x47.2.2.1.a x47.2.2.1.len x47.2.2.1.cap x47.2.2.1.sz),(.slice x47.2.2.2.1.a x47.2.2.2.1.len x47.2.2.2.1.cap x47.2.2.2.1.sz)]) fun h50=>
    some (((some (Q,0)),(some (R,0)),(some (O,0)),()),h50))))
    else
    some (((some (Q,0)),(some (R,0)),(some (O,0)),()),h44))=some (((some (Q,0)),(some (R,0)),(some (O,0)),()),h52)∧
   FI T P X h Q R O { fuR0 pub nm at_ with lv:=lv,ps:=ps,ty:=v } { fuT0 with lv:=zl.1,ps:=zp.1,ty:=(if (optS T [45,62] zp.2).1=true then typS T 64 (optS T [45,62] zp.2).2 else (ty0D,(optS T [45,62] zp.2).2)).1 } h52 (if (optS T [45,62] zp.2).1=true then typS T 64 (optS T [45,62] zp.2).2 else (ty0D,(optS T [45,62] zp.2).2)).2 0:=by
  have hle:=i44.le
  cases hb:(optS T [45,62] zp.2).1 with
  | false=>exact ⟨ty00,h44,rfl,i44⟩
  | true=>
   simp only [cond_true,if_true,q44,bindV_some,cast_ptr]
   have hl:=i44.lt
   obtain ⟨t,h48,e48,y48,c48,d48⟩:=f55_pc (N:=N) hT hN1 i44.pc
   rw [e48,bind2_some]
   have i48:=i44.step c48 y48
   have hst:h48.store (O,4) [(.int .i64 t.1),(.str t.2.1),(.slice t.2.2.1.a t.2.2.1.len t.2.2.1.cap t.2.2.1.sz),(.slice t.2.2.2.1.a t.2.2.2.1.len t.2.2.2.1.cap t.2.2.2.1.sz)]=some (h48.put O (.row (fuc { fuR0 pub nm at_ with lv:=lv,ps:=ps,ty:=t }) .own)):=own_storeN i48.oO (by simp only [fuc,fux,fuv,over_succ,over_zero,over_nil,Option.map_some])
   rw [hst,need_some]
   have cp:=i48.oO.put (fuc { fuR0 pub nm at_ with lv:=lv,ps:=ps,ty:=t })
   obtain ⟨g1,g2,g3,g4,g5,g6,g7⟩:=i48.old (cp.mono (N:=[P,O]) (by simp))
   exact ⟨t,_,rfl,i48.pc.chg1 cp (by simp),g1,g2,g3,own_put i48.oO _,i48.le,g4,g5,(d48.chg cp (fun C hC=>by simp;omega)).weak (fun C hC _=>by omega),g7⟩
 obtain ⟨t,h52,e52,i52⟩:=h52s
 rw [e52,bind2_some]
 generalize (if (optS T [45,62] zp.2).1=true then typS T 64 (optS T [45,62] zp.2).2 else (ty0D,(optS T [45,62] zp.2).2))=zt at *
 have q52:h52.cell (Q,0)=some (.ptr (some (P,0))):=i52.oQ.cell 0
 simp only [need_some,q52,bindV_some,cast_ptr]
 have hlt:=i52.lt
 have hle:=i52.le
 obtain ⟨v,h56,e56,y56,c56,s56⟩:=block_ok (N:=N) (P:=P) hT hN 64 N (Nat.le_refl _) (by omega) (O::R::X) h52 zt.2 0 i52.pc (.inl (by show 0≤2000;omega))
 rw [show ((65-64:Nat):Int)=1 from rfl] at e56
 rw [e56,bind2_some]
 have i56:=i52.step c56 y56
 have hst:h56.store (O,8) [.slice v.a v.len v.cap v.sz]=some (h56.put O (.row (fuc { fuR0 pub nm at_ with lv:=lv,ps:=ps,ty:=t,bd:=v }) .own)):=own_storeN i56.oO (by simp only [fuc,fux,fuv,over_succ,over_zero,over_nil,Option.map_some])
 simp only [Nat.zero_add]
 rw [hst,need_some]
 have cp:=i56.oO.put (fuc { fuR0 pub nm at_ with lv:=lv,ps:=ps,ty:=t,bd:=v })
 obtain ⟨g1,g2,g3,g4,g5,g6,g7⟩:=i56.old (cp.mono (N:=[P,O]) (by simp))
 have i58:FI T P X h Q R O { fuR0 pub nm at_ with lv:=lv,ps:=ps,ty:=t,bd:=v } ⟨zl.1,zp.1,zt.1,(blockS T 64 (zt.2,0)).1⟩ (h56.put O (.row (fuc { fuR0 pub nm at_ with lv:=lv,ps:=ps,ty:=t,bd:=v }) .own)) (blockS T 64 (zt.2,0)).2.1 ((blockS T 64 (zt.2,0)).2.2:Int):=⟨i56.pc.chg1 cp (by simp),g1,g2,g3,own_put i56.oO _,i56.le,g4,g5,g6,(s56.chg cp (fun C hC=>by simp;omega)).weak (fun C hC _=>by omega)⟩
 generalize h56.put O (.row (fuc { fuR0 pub nm at_ with lv:=lv,ps:=ps,ty:=t,bd:=v }) .own)=h58 at *
 rw [cellsF (r:=fuv { fuR0 pub nm at_ with lv:=lv,ps:=ps,ty:=t,bd:=v }) i58.oO]
 refine ⟨fuv { fuR0 pub nm at_ with lv:=lv,ps:=ps,ty:=t,bd:=v },_,finF i58.oR (fuv { fuR0 pub nm at_ with lv:=lv,ps:=ps,ty:=t,bd:=v }) (fun x h=>some (x,h)),?_,?_,?_⟩
 ·exact (i58.pc.chg1 (i58.oR.put _) (by simp)).sub (by simp +contextual)
 ·exact i58.chg.step (i58.oR.put _) (fun A hA hl=>by rw [List.mem_singleton] at hA;omega)
 ·exact (i58.dt.chg (i58.oR.put _) (fun C hC=>by simp;omega)).weak fun C hC _=>by omega
end
end Go.Proofs.YtkcjphhjmlienaaGreatDoor.Qp

set_option linter.unusedVariables false
set_option linter.unusedSimpArgs false
open Go Go.Proofs.YtkcjphhjmlienaaGreatDoor.Ai Go.Proofs
namespace Go.Proofs.YtkcjphhjmlienaaGreatDoor.Qp
abbrev Er3:=Option (Int×Int×Option Int)
def ErrW (h:Heap) (v:AV):Er3→Prop
 | none=>v=AV.nilIface
 | some (c,a,none)=>FaultAt h v c a
 | some (c,a,some b)=>∃ A B,v=AV.iface 127 (.ptr (some (A,0)))∧h.own A [.int .i64 c,.int .i64 a,AV.iface 127 (.ptr (some (B,0)))]∧h.own B [.int .i64 c,.int .i64 b,AV.iface 78 (.int .i64 c)]
def inS (at_:Int):Er→Er3
 | none=>none
 | some (c,a)=>some (c,at_,some a)
def flatS:Er→Er3
 | none=>none
 | some (c,a)=>some (c,a,none)
theorem asF_fault {h:Heap} {A:Nat} {p:Nat×Nat} {v:AV} (hp:Qw.pinned h=true) (o:h.own A [v]):Qz.asF (AV.iface 127 (.ptr (some p))) (AV.iface 214 (.ptr (some (A,0)))) h=some (true,h.put A (.row [.ptr (some p)] .own)):=by
 simp only [Qw.pinned,Qx.pinned,Bool.and_eq_true] at hp
 obtain ⟨⟨⟨⟨b1,b2⟩,b3⟩,_⟩,_⟩:=hp
 have hr:Qa.rowOG h A=some ([v],.own):=by
  have:=o.1
  unfold Qa.rowOG
  unfold Heap.g at this
  rw [this]
 simp [Qz.asF,Qa.asN,b1,b2,b3,hr,over]
section
variable {N:Nat} {T:List Tok} {P:Nat} {X:List Nat} {h:Heap} {σ:St} {st:Int}
theorem f159_fault {B:Nat} {c:Int} {w:List AV} (hp:Qw.pinned h=true) (h4:4≤h.next) (o:h.own B (.int .i64 c::w)):∃ h',f159 N (AV.iface 127 (.ptr (some (B,0)))) h=some (c,h')∧Chg [] h h':=by
 unfold f159 f191
 simp only [eq_fault,bindV_some,cast_bool,cond_false,ne_fault,cond_true]
 have o1:=own_push h [AV.ptr none]
 have c1:=chg_push h (.row [AV.ptr none] .own)
 have p1:=pin_chg c1 (by simp) h4 hp
 have e2:f192 N (AV.iface 127 (.ptr (some (B,0)))) (AV.iface 214 (.ptr (some (h.next,0)))) (h.push (.row [AV.ptr none] .own))=_:=asF_fault p1 o1
 rw [e2,bind2_some]
 have o2:=own_put o1 [AV.ptr (some (B,0))]
 have c2:Chg [] h ((h.push (.row [AV.ptr none] .own)).put h.next (.row [AV.ptr (some (B,0))] .own)):=c1.put (.inr (Nat.le_refl _)) _
 have r2:((h.push (.row [AV.ptr none] .own)).put h.next (.row [AV.ptr (some (B,0))] .own)).cell (h.next,0)=some (.ptr (some (B,0))):=o2.cell 0
 have r3:((h.push (.row [AV.ptr none] .own)).put h.next (.row [AV.ptr (some (B,0))] .own)).cell (B,0)=some (.int .i64 c):=(o.chg c2 (by simp)).cell 0
 simp only [cond_true,r2,bindV_some,cast_ptr,bind2_some,Option.isNone_some,Bool.not_false,need_some,Nat.zero_add,r3,cast_int]
 exact ⟨_,rfl,c2⟩
theorem f104_pc (hp:Qw.pinned h=true) (h4:4≤h.next) {e:Er} {v:AV} (hv:ErrV h P X v e) (at_:Int):∃ v' h',f104 N v at_ h=some (v',h')∧Chg [] h h'∧ErrW h' v' (inS at_ e)∧AV.single v'=true:=by
 cases e with
 | none=>
  have hv:v=AV.nilIface:=hv
  subst hv
  exact ⟨AV.nilIface,h,f104_nil N at_ h,Chg.refl _ _,rfl,rfl⟩
 | some q=>
  obtain ⟨c,a⟩:=q
  obtain ⟨B,rfl,_,o⟩:=hv
  obtain ⟨h3,e3,c3⟩:=f159_fault (N:=N) hp h4 o
  rw [f104_fault,e3,bind2_some]
  have c4:=chg_push h3 (.row [(.int .i64 c),(.int .i64 at_),(AV.iface 127 (.ptr (some (B,0))))] .own)
  exact ⟨_,_,rfl,c3.trans c4,⟨h3.next,B,rfl,own_push h3 _,(o.chg c3 (by simp)).chg c4 (by simp)⟩,rfl⟩
theorem ErrW.chg {h h':Heap} {v:AV} {e:Er3} {M:List Nat} (x:ErrW h v e) (c:Chg M h h') (hM:∀ A∈M,∃ cs w,h.own A (cs::w)∧∀ n,cs≠.int .i64 n):ErrW h' v e:=by
 have key:∀ {A:Nat} {n:Int} {w:List AV},h.own A (.int .i64 n::w)→h'.own A (.int .i64 n::w):=fun {A n w} o=>o.chg c fun hm=>by
  obtain ⟨cs,w',o',hn⟩:=hM A hm
  have:=o.1.symm.trans o'.1
  simp only [Option.some.injEq,Blk.row.injEq,List.cons.injEq,and_true] at this
  exact hn n this.1.symm
 match e with
 | none=>exact x
 | some (c,a,none)=>
  obtain ⟨F,f1,f2⟩:=x
  exact ⟨F,f1,key f2⟩
 | some (c,a,some b)=>
  obtain ⟨A,B,f1,f2,f3⟩:=x
  exact ⟨A,B,f1,key f2,key f3⟩
theorem PC.chgC {h':Heap} {C:Nat} {a b:SL} (x:PC T P X h σ st) (o:h.own C [SL.av a,SL.av b]) (hC:C<P∧4≤C) (c:Chg [C] h h'):PC T P X h' σ st:=by
 obtain ⟨⟨⟨s,v,h1,h2,h3,h4⟩,h5,h6⟩,hp,p4⟩:=x
 have hs:∀ A,s.blk=some A→A≠C:=by
  intro A hA e
  subst e
  obtain ⟨vs,hse,hde⟩:=h2.els
  cases hq:s.a with
  | none=>simp [SL.blk,hq] at hA
  | some q=>
   obtain ⟨A',off⟩:=q
   simp [SL.blk,hq] at hA
   subst hA
   obtain ⟨_,cs,g1,g2⟩:=hse.2.2 A' off hq
   rw [o.1] at g1
   have g1':cs=[SL.av a,SL.av b]:=by
    have:(some [SL.av a,SL.av b]:Option (List AV))=some cs:=g1
    simpa using this.symm
   subst g1'
   cases T with
   | nil=>simp at h5
   | cons t r=>
    rw [List.map_cons] at hde
    simp only [De] at hde
    obtain ⟨x1,x2,hx,hl,hd,_⟩:=hde
    have hd':=dt_tok' hd
    subst hd'
    rw [hx] at g2
    have hm:AV.int .i64 t.1∈[SL.av a,SL.av b]:=by
     have:AV.int .i64 t.1∈([SL.av a,SL.av b].drop off).take (tkc t.1 t.2.1 (t.2.2:Int)++x2).length:=by
      rw [g2];simp [tkc]
     exact List.mem_of_mem_drop (List.mem_of_mem_take this)
    simp [SL.av] at hm
 have h2':Sl h (fun A=>A<P∧A≠C) s (T.map tokD):=by
  refine ⟨h2.len,h2.cap,fun A hA=>⟨h2.blk A hA,hs A hA⟩,?_⟩
  obtain ⟨vs,hse,hde⟩:=h2.els
  refine ⟨vs,hse,?_⟩
  have gen:∀ (l:List Tok) (vs:List AV),De h (fun C=>C<P) s.sz (l.map tokD) vs→De h (fun A=>A<P∧A≠C) s.sz (l.map tokD) vs:=by
   intro l
   induction l with
   | nil=>intro vs hd;exact hd
   | cons t r ih=>
    intro vs hd
    rw [List.map_cons] at hd ⊢
    simp only [De] at hd ⊢
    obtain ⟨x1,x2,e1,e2,e3,e4⟩:=hd
    refine ⟨x1,x2,e1,e2,?_,ih _ e4⟩
    have:=dt_tok' e3
    subst this
    exact dt_t (dp_cons (a:=[_]) (dt_i h _ _) (dp_cons (a:=[_]) (dt_str h _ _) (dp_cons (a:=[_]) (b:=[]) (dt_i h _ _) (dp_nil h _))))
  exact gen T vs hde
 have h4':ErrV h' P X v σ.2:=by
  cases he:σ.2 with
  | none=>rw [he] at h4;exact h4
  | some q=>
   rw [he] at h4
   obtain ⟨A,g1,g2,g3⟩:=h4
   refine ⟨A,g1,g2,g3.chg c fun hm=>?_⟩
   rw [List.mem_singleton] at hm;subst hm
   have:=g3.1.symm.trans o.1
   simp [SL.av] at this
 exact ⟨⟨⟨s,v,h1.chg c (by simp;omega),(h2'.chg c (fun A hA=>by simp;exact hA.2)).weak fun A hA _=>hA.1,h3,h4'⟩,h5,fun A hA=>⟨(h6 A hA).1,Nat.lt_of_lt_of_le (h6 A hA).2 c.next⟩⟩,pin_chg c (by simp;omega) (by have:=o.2;omega) hp,p4⟩
end
end Go.Proofs.YtkcjphhjmlienaaGreatDoor.Qp

set_option linter.unusedVariables false
set_option linter.unusedSimpArgs false
open Go Go.Proofs.YtkcjphhjmlienaaGreatDoor.Ai Go.Proofs
namespace Go.Proofs.YtkcjphhjmlienaaGreatDoor.Qp
structure ItS where
 d:Option (Bool×D)
 i:Nat
 e:Er3
 n:Nat
def itemS (T:List Tok) (σ:St):ItS:=
 let p:=optS T [112,117,98] σ
 let at_:Int:=((tk T p.2.1).2.2:Int)
 let b:=optS T [115,116,114,117,99,116] p.2
 if b.1=true then ⟨some (true,(structS T p.1 at_ b.2).1),(structS T p.1 at_ b.2).2.1,inS at_ (structS T p.1 at_ b.2).2.2,0⟩ else
 let f:=optS T [102,110] b.2
 if f.1=true then ⟨some (false,(funcS T p.1 at_ f.2).1),(funcS T p.1 at_ f.2).2.1.1,inS at_ (funcS T p.1 at_ f.2).2.1.2,(funcS T p.1 at_ f.2).2.2⟩
 else ⟨none,(failS T 21 f.2).1,flatS (failS T 21 f.2).2,0⟩
theorem app22:AppN E 22 72 5 1000:=AppN.of (by kernel_rfl)
theorem app23:AppN E 23 44 10 1000:=AppN.of (by kernel_rfl)
def CrOK (h0 h:Heap) (C:Nat) (xs ys:List D):Prop:=∃ v w,h.own C [SL.av v,SL.av w]∧OwV (fun A=>h0.next≤A∧w.blk≠some A) h v 5 xs∧OwV (fun A=>h0.next≤A∧v.blk≠some A) h w 10 ys
def addX (d:Option (Bool×D)) (xs:List D):List D:=match d with | some (true,x)=>xs++[x] | _=>xs
def addY (d:Option (Bool×D)) (ys:List D):List D:=match d with | some (false,y)=>ys++[y] | _=>ys
def PE (T:List Tok) (P:Nat) (h:Heap) (i:Nat) (e:Er3):Prop:=(∃ v,h.cell (P,3)=some v∧ErrW h v e)∧(e=none→∃ st,PC T P [] h (i,none) st)
section
variable {N:Nat} {T:List Tok} {P:Nat} {X:List Nat} {h:Heap} {σ:St} {st:Int}
theorem wrap_step (x:PC T P X h σ st) (at_:Int):∃ h',(need (some (P,0)) fun q16=>
   (bindV (.val (.one .any)) (h.cell (q16.1,q16.2+3)) fun (x17:AV)=>
   (bind2 (f104 N x17 at_ h) fun (x18:AV) h19=>
   (need (some (P,0)) fun q20=>
   (guardB (AV.single x18)
   (need (h19.store (q20.1,q20.2+3) [x18]) fun h21=>
   some ((()),h21)))))))=some ((),h')∧Chg [P] h h'∧PE T P h' σ.1 (inS at_ σ.2):=by
 obtain ⟨v,k3,hv⟩:=x.pa.readE
 have hP:=x.P_lt
 obtain ⟨v',h19,e19,c19,w19,s19⟩:=f104_pc (N:=N) x.pin (by have:=x.p4;omega) hv at_
 simp only [need_some,Nat.zero_add,k3,bindV_some,cast_any]
 rw [e19,bind2_some,s19,guardB_true]
 have x19:=x.chg c19
 obtain ⟨⟨⟨s,v0,h1,h2,h3,h4⟩,h5,h6⟩,hp,p4⟩:=x19
 have hst:h19.store (P,3) [v']=some (h19.put P (.row [SL.av s,.int .i64 (σ.1:Int),.int .i64 st,v'] .own)):=h1.store1 (j:=3) (by show 3<4;omega) _
 rw [hst,need_some]
 have cp:=h1.put [SL.av s,.int .i64 (σ.1:Int),.int .i64 st,v']
 have hl:=h1.2
 refine ⟨_,rfl,(c19.mono (by simp)).trans cp,⟨v',(own_put h1 _).cell 3,w19.chg cp fun A hA=>by
  rw [List.mem_singleton] at hA;subst hA
  exact ⟨_,_,h1,fun n=>by simp [SL.av]⟩⟩,fun he=>?_⟩
 obtain ⟨i,e⟩:=σ
 cases e with
 | some q=>obtain ⟨c,a⟩:=q;cases he
 | none=>
  have hv':v'=AV.nilIface:=w19
  subst hv'
  exact ⟨st,⟨⟨⟨s,AV.nilIface,own_put h1 _,h2.chg cp (fun A hA=>by simp;omega),h3,rfl⟩,h5,by simp⟩,pin_chg cp (by simp;omega) (by omega) hp,p4⟩⟩
theorem f63_pc (hT:Toks T) (hN:3000≤N) {h0:Heap} {C:Nat} {xs ys:List D} {i:Nat} (x:PC T P [] h (i,none) st) (hC:C<P∧4≤C) (hP0:P<h0.next) (ch:Chg [P,C] h0 h) (cr:CrOK h0 h C xs ys) (hx:xs.length≤1000) (hy:ys.length≤1000) :
  ∃ h',f63 N (some (P,0)) (some (C,0)) h=some ((),h')∧Chg [P,C] h0 h'∧PE T P h' (itemS T (i,none)).i (itemS T (i,none)).e∧CrOK h0 h' C (addX (itemS T (i,none)).d xs) (addY (itemS T (i,none)).d ys):=by
 unfold f63
 obtain ⟨h2,e2,c2,x2⟩:=f92_pc (N:=N) hT x (w:=[112,117,98]) (by decide)
 rw [e2,bind2_some]
 simp only [itemS]
 obtain ⟨h4,e4,c4⟩:=f56_eq (N:=N) x2.pa
 rw [e4,bind2_some]
 have x4:=x2.chg c4
 obtain ⟨h6,e6,c6,x6⟩:=f92_pc (N:=N) hT x4 (w:=[115,116,114,117,99,116]) (by decide)
 rw [e6,bind2_some]
 have c06:Chg [P] h h6:=(c2.trans (c4.mono (by simp))).trans c6
 have ch6:=ch.trans (c06.mono (N:=[P,C]) (by simp))
 have crStep:∀ {h1 h2:Heap},Chg [P] h1 h2→CrOK h0 h1 C xs ys→CrOK h0 h2 C xs ys:=by
  rintro h1 h2 c ⟨v,w,o,w1,w2⟩
  exact ⟨v,w,o.chg c (by simp;omega),w1.chg c (by intro A hA _;simp;omega),w2.chg c (by intro A hA _;simp;omega)⟩
 have cr6:=crStep c06 cr
 have hn06:=ch6.next
 generalize (optS T [112,117,98] (i,none)).1=pub at *
 generalize (optS T [112,117,98] (i,none)).2=σ2 at *
 simp only [ttOf]
 generalize ((tk T σ2.1).2.2:Int)=at_ at *
 cases hb:(optS T [115,116,114,117,99,116] σ2).1 with
 | true=>
  obtain ⟨v,w,o6,w1,w2⟩:=cr6
  have hs:=(optS_none hb).1
  rw [hs] at x6
  rw [hs]
  simp only [cond_true,if_true,need_some,Nat.zero_add]
  have r6:h6.cell (C,0)=some (.slice v.a v.len v.cap v.sz):=o6.cell 0
  simp only [r6,bindV_some,cast_slice]
  have hv:∀ A∈v.blk.toList,h0.next≤A∧A<h6.next∧w.blk≠some A:=fun A hA=>by
   have:=w1.ge A (by simpa using hA);exact ⟨this.1.1,this.2,this.1.2⟩
  have y6:PC T P v.blk.toList h6 (σ2.1+1,none) st:=x6.free fun A hA=>by have:=hv A hA;omega
  obtain ⟨r,h10,e10,x10,c10,d10⟩:=f102_pc (N:=N) hT (by omega) y6 pub at_
  rw [e10,bind2_some]
  have o10:=o6.chg c10 (by simp;omega)
  have w1_10:=w1.chg c10 (by intro A hA _;simp;omega)
  have w2_10:=w2.chg c10 (by intro A hA _;simp;omega)
  have hn10:=c10.next
  have hw:∀ A∈w.blk.toList,h0.next≤A∧A<h6.next:=fun A hA=>by have:=w2.ge A (by simpa using hA);exact ⟨this.1.1,this.2⟩
  obtain ⟨v',h13,eA,w1_13,c13,hb13⟩:=append_owV (cs:=stc r) app22 (by decide) w1_10 (d10.weak fun A hA _=>⟨⟨by omega,fun e=>by have:=hw A (by simpa using e);omega⟩,fun e=>by have:=hv A (by simpa using e);omega⟩) rfl (fun A hA=>⟨by omega,fun e=>by have:=hw A (by simpa using e);omega⟩) (by omega)
  have eA':appendA E 22 22 (.slice v.a v.len v.cap v.sz) (.slice (some (h10.next,0)) 1 1 5) (h10.push (.row [(.bool r.1),(.str r.2.1),(.slice r.2.2.1.a r.2.2.1.len r.2.2.1.cap r.2.2.1.sz),(.slice r.2.2.2.1.a r.2.2.2.1.len r.2.2.2.1.cap r.2.2.2.1.sz),(.int .i64 r.2.2.2.2.1)] .own))=some (.slice v'.a v'.len v'.cap v'.sz,h13):=eA
  rw [eA',bindT_some,cast_slice]
  have o13:=o10.chg c13 (fun hm=>by have:=hv C hm;omega)
  have o11:=o10.chg (chg_push h10 (.row (stc r) .own)) (by simp)
  have k11:(h10.push (.row [(.bool r.1),(.str r.2.1),(.slice r.2.2.1.a r.2.2.1.len r.2.2.1.cap r.2.2.1.sz),(.slice r.2.2.2.1.a r.2.2.2.1.len r.2.2.2.1.cap r.2.2.2.1.sz),(.int .i64 r.2.2.2.2.1)] .own)).cell (C,0)=some (.slice v.a v.len v.cap v.sz):=o11.cell 0
  have k10:h10.cell (C,0)=some (.slice v.a v.len v.cap v.sz):=o10.cell 0
  have hst:h13.store (C,0) [.slice v'.a v'.len v'.cap v'.sz]=some (h13.put C (.row [SL.av v',SL.av w] .own)):=o13.store1 (j:=0) (by show 0<2;omega) _
  rw [hst,need_some]
  simp only [k11,k10,r6,sameO_some,cond_true,guardB_true]
  have cp:=o13.put [SL.av v',SL.av w]
  have x13:=(x10.chgM c13 (fun A hA=>hA)).sub (X':=[]) (by simp)
  have x15:=x13.chgC o13 hC cp
  have ch13:Chg [P,C] h0 h13:=(ch6.trans (c10.mono (by simp))).step c13 (fun A hA hl=>by have:=hv A hA;omega)
  have ch15:=ch13.trans (cp.mono (N:=[P,C]) (by simp))
  have w2_13:OwV (fun A=>h0.next≤A∧v'.blk≠some A) h13 w 10 ys:=by
   have a1:OwV (fun A=>(h0.next≤A∧v.blk≠some A)∧A<h10.next) h10 w 10 ys:=w2_10.weak fun A hA hl=>⟨hA,hl⟩
   have a2:=a1.chg c13 (by intro A hA _ hm;exact hA.1.2 (by simpa using hm))
   exact a2.weak fun A hA _=>⟨hA.1.1,fun e=>by rcases hb13 A e with e | e;exact hA.1.2 e;omega⟩
  have hn13:=ch13.next
  have cr15:CrOK h0 (h13.put C (.row [SL.av v',SL.av w] .own)) C (xs++[(structS T pub at_ (σ2.1+1,none)).1]) ys:=⟨v',w,own_put o13 _,w1_13.chg cp (by intro A hA _;simp;omega),w2_13.chg cp (by intro A hA _;simp;omega)⟩
  obtain ⟨h21,e21,c21,pe⟩:=wrap_step (N:=N) x15 at_
  simp only [need_some,Nat.zero_add] at e21
  refine ⟨h21,e21,ch15.trans (c21.mono (by simp)),pe,?_⟩
  obtain ⟨v1,w1',o1,z1,z2⟩:=cr15
  exact ⟨v1,w1',o1.chg c21 (by simp;omega),z1.chg c21 (by intro A hA _;simp;omega),z2.chg c21 (by intro A hA _;simp;omega)⟩
 | false=>
 rw [optS_false hb] at x6 ⊢
 simp only [cond_false,Bool.false_eq_true,if_false]
 obtain ⟨h23,e23,c23,x23⟩:=f92_pc (N:=N) hT x6 (w:=[102,110]) (by decide)
 rw [e23,bind2_some]
 have cr23:=crStep c23 cr6
 have ch23:=ch6.trans (c23.mono (N:=[P,C]) (by simp))
 have hn23:=ch23.next
 cases hb2:(optS T [102,110] σ2).1 with
 | true=>
  obtain ⟨v,w,o6,w1,w2⟩:=cr23
  have hs:=(optS_none hb2).1
  rw [hs] at x23
  rw [hs]
  simp only [cond_true,if_true,need_some,Nat.zero_add]
  have r6:h23.cell (C,1)=some (.slice w.a w.len w.cap w.sz):=o6.cell 1
  simp only [r6,bindV_some,cast_slice]
  have hv:∀ A∈v.blk.toList,h0.next≤A∧A<h23.next:=fun A hA=>by have:=w1.ge A (by simpa using hA);exact ⟨this.1.1,this.2⟩
  have hw:∀ A∈w.blk.toList,h0.next≤A∧A<h23.next∧v.blk≠some A:=fun A hA=>by
   have:=w2.ge A (by simpa using hA);exact ⟨this.1.1,this.2,this.1.2⟩
  have y6:PC T P w.blk.toList h23 (σ2.1+1,none) st:=x23.free fun A hA=>by have:=hw A hA;omega
  obtain ⟨r,h10,e10,x10,c10,d10⟩:=f103_pc (N:=N) hT hN y6 pub at_
  rw [e10,bind2_some]
  have o10:=o6.chg c10 (by simp;omega)
  have w1_10:=w1.chg c10 (by intro A hA _;simp;omega)
  have w2_10:=w2.chg c10 (by intro A hA _;simp;omega)
  have hn10:=c10.next
  obtain ⟨w',h13,eA,w2_13,c13,hb13⟩:=append_owV (cs:=fux r) app23 (by decide) w2_10 (d10.weak fun A hA _=>⟨⟨by omega,fun e=>by have:=hv A (by simpa using e);omega⟩,fun e=>by have:=hw A (by simpa using e);omega⟩) rfl (fun A hA=>⟨by omega,fun e=>by have:=hv A (by simpa using e);omega⟩) (by omega)
  have eA':appendA E 23 23 (.slice w.a w.len w.cap w.sz) (.slice (some (h10.next,0)) 1 1 10) (h10.push (.row [(.bool r.1),(.str r.2.1),(.slice r.2.2.1.a r.2.2.1.len r.2.2.1.cap r.2.2.1.sz),(.slice r.2.2.2.1.a r.2.2.2.1.len r.2.2.2.1.cap r.2.2.2.1.sz),(.int .i64 r.2.2.2.2.1),(.str r.2.2.2.2.2.1),(.slice r.2.2.2.2.2.2.1.a r.2.2.2.2.2.2.1.len r.2.2.2.2.2.2.1.cap r.2.2.2.2.2.2.1.sz),(.slice r.2.2.2.2.2.2.2.1.a r.2.2.2.2.2.2.2.1.len r.2.2.2.2.2.2.2.1.cap r.2.2.2.2.2.2.2.1.sz),(.slice r.2.2.2.2.2.2.2.2.1.a r.2.2.2.2.2.2.2.2.1.len r.2.2.2.2.2.2.2.2.1.cap r.2.2.2.2.2.2.2.2.1.sz),(.int .i64 r.2.2.2.2.2.2.2.2.2.1)] .own))=some (.slice w'.a w'.len w'.cap w'.sz,h13):=eA
  rw [eA',bindT_some,cast_slice]
  have o13:=o10.chg c13 (fun hm=>by have:=hw C hm;omega)
  have o11:=o10.chg (chg_push h10 (.row (fux r) .own)) (by simp)
  have k11:(h10.push (.row [(.bool r.1),(.str r.2.1),(.slice r.2.2.1.a r.2.2.1.len r.2.2.1.cap r.2.2.1.sz),(.slice r.2.2.2.1.a r.2.2.2.1.len r.2.2.2.1.cap r.2.2.2.1.sz),(.int .i64 r.2.2.2.2.1),(.str r.2.2.2.2.2.1),(.slice r.2.2.2.2.2.2.1.a r.2.2.2.2.2.2.1.len r.2.2.2.2.2.2.1.cap r.2.2.2.2.2.2.1.sz),(.slice r.2.2.2.2.2.2.2.1.a r.2.2.2.2.2.2.2.1.len r.2.2.2.2.2.2.2.1.cap r.2.2.2.2.2.2.2.1.sz),(.slice r.2.2.2.2.2.2.2.2.1.a r.2.2.2.2.2.2.2.2.1.len r.2.2.2.2.2.2.2.2.1.cap r.2.2.2.2.2.2.2.2.1.sz),(.int .i64 r.2.2.2.2.2.2.2.2.2.1)] .own)).cell (C,1)=some (.slice w.a w.len w.cap w.sz):=o11.cell 1
  have k10:h10.cell (C,1)=some (.slice w.a w.len w.cap w.sz):=o10.cell 1
  have hst:h13.store (C,1) [.slice w'.a w'.len w'.cap w'.sz]=some (h13.put C (.row [SL.av v,SL.av w'] .own)):=o13.store1 (j:=1) (by show 1<2;omega) _
  rw [hst,need_some]
  simp only [k11,k10,r6,sameO_some,cond_true,guardB_true]
  have cp:=o13.put [SL.av v,SL.av w']
  have x13:=(x10.chgM c13 (fun A hA=>hA)).sub (X':=[]) (by simp)
  have x15:=x13.chgC o13 hC cp
  have ch13:Chg [P,C] h0 h13:=(ch23.trans (c10.mono (by simp))).step c13 (fun A hA hl=>by have:=hw A hA;omega)
  have ch15:=ch13.trans (cp.mono (N:=[P,C]) (by simp))
  have w1_13:OwV (fun A=>h0.next≤A∧w'.blk≠some A) h13 v 5 xs:=by
   have a1:OwV (fun A=>(h0.next≤A∧w.blk≠some A)∧A<h10.next) h10 v 5 xs:=w1_10.weak fun A hA hl=>⟨hA,hl⟩
   have a2:=a1.chg c13 (by intro A hA _ hm;exact hA.1.2 (by simpa using hm))
   exact a2.weak fun A hA _=>⟨hA.1.1,fun e=>by rcases hb13 A e with e | e;exact hA.1.2 e;omega⟩
  have hn13:=ch13.next
  have cr15:CrOK h0 (h13.put C (.row [SL.av v,SL.av w'] .own)) C xs (ys++[(funcS T pub at_ (σ2.1+1,none)).1]):=⟨v,w',own_put o13 _,w1_13.chg cp (by intro A hA _;simp;omega),w2_13.chg cp (by intro A hA _;simp;omega)⟩
  obtain ⟨h21,e21,c21,pe⟩:=wrap_step (N:=N) x15 at_
  simp only [need_some,Nat.zero_add] at e21
  refine ⟨h21,e21,ch15.trans (c21.mono (by simp)),pe,?_⟩
  obtain ⟨v1,w1',o1,z1,z2⟩:=cr15
  exact ⟨v1,w1',o1.chg c21 (by simp;omega),z1.chg c21 (by intro A hA _;simp;omega),z2.chg c21 (by intro A hA _;simp;omega)⟩
 | false=>
  rw [optS_false hb2] at x23 ⊢
  simp only [cond_false,Bool.false_eq_true,if_false]
  obtain ⟨h40,e40,c40,x40⟩:=f57_pc (N:=N) x23 (c:=21) (by decide)
  rw [e40,bind2_some]
  obtain ⟨v,k3,hv⟩:=x40.pa.readE
  refine ⟨h40,rfl,ch23.trans (c40.mono (by simp)),⟨⟨v,k3,?_⟩,fun he=>?_⟩,crStep c40 cr23⟩
  ·cases hh:(failS T 21 σ2).2 with
   | none=>rw [hh] at hv;exact hv
   | some q=>
    rw [hh] at hv
    obtain ⟨A,g1,_,g3⟩:=hv
    exact ⟨A,g1,g3⟩
  ·have:=failS_isSome T 21 σ2
   cases hh:(failS T 21 σ2).2 with
   | none=>rw [hh] at this;cases this
   | some q=>rw [hh] at he;cases he
end
end Go.Proofs.YtkcjphhjmlienaaGreatDoor.Qp

set_option linter.unusedVariables false
set_option linter.unusedSimpArgs false
open Go Go.Proofs.YtkcjphhjmlienaaGreatDoor.Ai Go.Proofs
namespace Go.Proofs.YtkcjphhjmlienaaGreatDoor.Qp
def itemsS (T:List Tok):Nat→Nat→(List D×List D)×Er3
 | 0,i=>if (tk T i).1=0 then (([],[]),none) else (([],[]),flatS (failS T 5 (i,none)).2)
 | f+1,i=>if (tk T i).1=0 then (([],[]),none) else
  let z:=itemS T (i,none)
  match z.e with
  | some q=>(([],[]),some q)
  | none=>let r:=itemsS T f z.i;((addX z.d []++r.1.1,addY z.d []++r.1.2),r.2)
def crateT (T:List Tok):(List D×List D)×Er3:=
 let r:=itemsS T 256 0
 match r.2 with
 | some q=>(([],[]),some q)
 | none=>(r.1,none)
def crateS (N:Nat) (s:Bs):(List D×List D)×Er3:=match lexT N s with
 | .inr a=>(([],[]),some (20,(a:Int),none))
 | .inl T=>crateT T
theorem addX_app (d:Option (Bool×D)) (xs:List D):addX d xs=xs++addX d []:=by
 unfold addX;split <;> simp
theorem addY_app (d:Option (Bool×D)) (ys:List D):addY d ys=ys++addY d []:=by
 unfold addY;split <;> simp
theorem addX_len (d:Option (Bool×D)) (xs:List D):(addX d xs).length≤xs.length+1:=by
 unfold addX;split <;> simp
theorem addY_len (d:Option (Bool×D)) (ys:List D):(addY d ys).length≤ys.length+1:=by
 unfold addY;split <;> simp
section
variable {N:Nat} {T:List Tok} {P:Nat} {X:List Nat} {h:Heap} {σ:St} {st:Int}
theorem ErrW.eq {h:Heap} {v:AV} {e:Er3} (x:ErrW h v e) (k:Nat):binA E .eql 29 (.tmp k) (.const .nilIface) v AV.nilIface=some (.bool e.isNone):=by
 match e with
 | none=>rw [show v=AV.nilIface from x];exact eq_nil k
 | some (c,a,none)=>obtain ⟨A,h1,_⟩:=x;rw [h1];exact eq_fault k _
 | some (c,a,some b)=>obtain ⟨A,B,h1,_⟩:=x;rw [h1];exact eq_fault k _
theorem ErrW.ne {h:Heap} {v:AV} {e:Er3} (x:ErrW h v e) (k:Nat):binA E .neq 29 (.tmp k) (.const .nilIface) v AV.nilIface=some (.bool e.isSome):=by
 match e with
 | none=>rw [show v=AV.nilIface from x];exact ne_nil k
 | some (c,a,none)=>obtain ⟨A,h1,_⟩:=x;rw [h1];exact ne_fault k _
 | some (c,a,some b)=>obtain ⟨A,B,h1,_⟩:=x;rw [h1];exact ne_fault k _
theorem PE.of (x:PC T P X h σ st) (hx:σ.2.isSome=true):PE T P h σ.1 (flatS σ.2):=by
 obtain ⟨v,k3,hv⟩:=x.pa.readE
 refine ⟨⟨v,k3,?_⟩,fun he=>?_⟩
 ·cases hh:σ.2 with
  | none=>rw [hh] at hv;exact hv
  | some q=>
   rw [hh] at hv
   obtain ⟨A,g1,_,g3⟩:=hv
   exact ⟨A,g1,g3⟩
 ·cases hh:σ.2 with
  | none=>rw [hh] at hx;cases hx
  | some q=>rw [hh] at he;cases he
theorem items_loop (hT:Toks T) (hN:3000≤N) {h0:Heap} {C:Nat} {R:Option (Nat×Nat)} (hC:C<P∧4≤C) (hP0:P<h0.next):∀ (f M:Nat) (h:Heap) (i:Nat) (st:Int) (xs ys:List D),f+1<M→f≤256→xs.length+f≤256→ys.length+f≤256→PC T P [] h (i,none) st→Chg [P,C] h0 h→CrOK h0 h C xs ys→
  ∃ h' xs' ys',f27_l1 N M R (some (C,0)) (some (P,0)) ((256-f:Nat):Int) h=some (.exit 0,(R,some (C,0),some (P,0),()),h')∧Chg [P,C] h0 h'∧CrOK h0 h' C xs' ys'∧(∃ v,h'.cell (P,3)=some v∧ErrW h' v (itemsS T f i).2)∧((itemsS T f i).2=none→xs'=xs++(itemsS T f i).1.1∧ys'=ys++(itemsS T f i).1.2):=by
 intro f
 induction f with
 | zero=>
  intro M h i st xs ys hM hf hx hy x ch cr
  obtain ⟨M,rfl⟩:∃ m,M=m+1:=⟨M-1,by omega⟩
  rw [f27_l1_succ]
  unfold f27_l1_b
  obtain ⟨v,k3,hv⟩:=x.pa.readE
  have hv:v=AV.nilIface:=hv
  subst hv
  simp only [need_some,Nat.zero_add,k3,bindV_some,cast_any,eq_nil,cast_bool,cond_true]
  obtain ⟨h13,e13,c13⟩:=f56_eq (N:=N) x.pa
  rw [e13,bind2_some]
  have x13:=x.chg c13
  have ch13:=ch.trans (c13.mono (N:=[P,C]) (by simp))
  have crS:∀ {h1 h2:Heap},Chg [P] h1 h2→CrOK h0 h1 C xs ys→CrOK h0 h2 C xs ys:=by
   rintro h1 h2 c ⟨v,w,o,w1,w2⟩
   exact ⟨v,w,o.chg c (by simp;omega),w1.chg c (by intro A hA _;simp;omega),w2.chg c (by intro A hA _;simp;omega)⟩
  have cr13:=crS (c13.mono (by simp)) cr
  simp only [ttOf,eqI,itemsS]
  by_cases q:(tk T i).1=0
  ·simp only [q,decide_true,Bool.not_true,cond_false,if_true]
   obtain ⟨v,k3,hv⟩:=x13.pa.readE
   exact ⟨h13,xs,ys,rfl,ch13,cr13,⟨v,k3,hv⟩,fun _=>⟨by simp,by simp⟩⟩
  ·simp only [q,decide_false,Bool.not_false,cond_true,if_false,show decide (((256-0:Nat):Int)=256)=true from rfl]
   obtain ⟨h17,e17,c17,x17⟩:=f57_pc (N:=N) x13 (c:=5) (by decide)
   rw [e17,bind2_some]
   have pe:=PE.of x17 (failS_isSome T 5 (i,none))
   exact ⟨h17,xs,ys,rfl,ch13.trans (c17.mono (by simp)),crS c17 cr13,pe.1,fun h=>by cases h⟩
 | succ f ih=>
  intro M h i st xs ys hM hf hx hy x ch cr
  obtain ⟨M,rfl⟩:∃ m,M=m+1:=⟨M-1,by omega⟩
  rw [f27_l1_succ]
  unfold f27_l1_b
  obtain ⟨v,k3,hv⟩:=x.pa.readE
  have hv:v=AV.nilIface:=hv
  subst hv
  simp only [need_some,Nat.zero_add,k3,bindV_some,cast_any,eq_nil,cast_bool,cond_true]
  obtain ⟨h13,e13,c13⟩:=f56_eq (N:=N) x.pa
  rw [e13,bind2_some]
  have x13:=x.chg c13
  have ch13:=ch.trans (c13.mono (N:=[P,C]) (by simp))
  have crS:∀ {h1 h2:Heap},Chg [P] h1 h2→CrOK h0 h1 C xs ys→CrOK h0 h2 C xs ys:=by
   rintro h1 h2 c ⟨v,w,o,w1,w2⟩
   exact ⟨v,w,o.chg c (by simp;omega),w1.chg c (by intro A hA _;simp;omega),w2.chg c (by intro A hA _;simp;omega)⟩
  have cr13:=crS (c13.mono (by simp)) cr
  simp only [ttOf,eqI,itemsS]
  by_cases q:(tk T i).1=0
  ·simp only [q,decide_true,Bool.not_true,cond_false,if_true]
   obtain ⟨v,k3,hv⟩:=x13.pa.readE
   exact ⟨h13,xs,ys,rfl,ch13,cr13,⟨v,k3,hv⟩,fun _=>⟨by simp,by simp⟩⟩
  ·have hne:decide (((256-(f+1):Nat):Int)=256)=false:=decide_eq_false (by omega)
   simp only [q,decide_false,Bool.not_false,cond_true,if_false,hne,cond_false]
   obtain ⟨h19,e19,ch19,pe,cr19⟩:=f63_pc (N:=N) hT hN x13 hC hP0 ch13 cr13 (by omega) (by omega)
   rw [e19,bind2_some]
   rw [wrap_succ (by omega),show 256-(f+1)+1=256-f by omega]
   generalize itemS T (i,none)=z at *
   cases he:z.e with
   | some q=>
    rw [he] at pe
    obtain ⟨⟨v,k3,hv⟩,_⟩:=pe
    -- the loop ends at once
    obtain ⟨M,rfl⟩:∃ m,M=m+1:=⟨M-1,by omega⟩
    rw [f27_l1_succ]
    unfold f27_l1_b
    simp only [need_some,Nat.zero_add,k3,bindV_some,cast_any,hv.eq 24,cast_bool,Option.isNone_some,cond_false]
    exact ⟨h19,_,_,rfl,ch19,cr19,⟨v,k3,hv⟩,fun h=>by cases h⟩
   | none=>
    obtain ⟨st',x19⟩:=pe.2 he
    have l1:=addX_len z.d xs
    have l2:=addY_len z.d ys
    obtain ⟨h',xs',ys',e',ch',cr',er',hres⟩:=ih M h19 z.i st' (addX z.d xs) (addY z.d ys) (by omega) (by omega) (by omega) (by omega) x19 ch19 cr19
    refine ⟨h',xs',ys',e',ch',cr',er',fun h=>?_⟩
    obtain ⟨h1,h2⟩:=hres h
    rw [addX_app] at h1
    rw [addY_app] at h2
    exact ⟨by rw [h1,List.append_assoc],by rw [h2,List.append_assoc]⟩
abbrev CrV:=SL×SL×Unit
theorem aggC {β:Type} (r:CrV) (K:CrV→Option β):bindV (.val (.agg [.slice,.slice])) (some (.agg [SL.av r.1,SL.av r.2.1])) K=K r:=by
 obtain ⟨x1,x2,_⟩:=r
 simp [SL.av]
theorem cellsC {H:Heap} {A:Nat} {v w:SL} (o:H.own A [SL.av v,SL.av w]) {β:Type} (K:CrV→Option β):bindV (.val (.agg [.slice,.slice])) (H.cells (A,0) 2) K=K (v,w,()):=by
 have:H.cells (A,0) 2=some (.agg [SL.av v,SL.av w]):=o.cells (j:=0) (m:=2) (Nat.le_refl _)
 rw [this,aggC (v,w,())]
theorem f27_eq {s:Bs} (hs:s.length≤1000000) (hN:s.length<N) (hN2:3000≤N) (hp:Qw.pinned h=true) (h4:4≤h.next) :
  ∃ v w e h',f27 N s h=some (((v,w,()),e,()),h')∧Chg [] h h'∧Sl h' (fun A=>h.next≤A) v (crateS N s).1.1∧Sl h' (fun A=>h.next≤A) w (crateS N s).1.2∧ErrW h' e (crateS N s).2:=by
 unfold f27 crateS
 have o1:=own_push h [SL.av sl0,SL.av sl0]
 have c1:=chg_push h (.row [SL.av sl0,SL.av sl0] .own)
 have e1:h.push (.row [(.slice none 0 0 0),(.slice none 0 0 0)] .own)=h.push (.row [SL.av sl0,SL.av sl0] .own):=rfl
 have n1:(h.push (.row [SL.av sl0,SL.av sl0] .own)).next=h.next+1:=rfl
 rw [e1]
 generalize h.push (.row [SL.av sl0,SL.av sl0] .own)=h1 at *
 dsimp only
 obtain ⟨r2,h3,e3,c3,p3⟩:=f54_eq (by omega) hN (by omega) h1
 rw [e3,bind2_some]
 have o3:=o1.chg c3 (by simp)
 have c03:=c1.trans c3
 have hn3:=c3.next
 cases hl:lexT N s with
 | inr a=>
  rw [hl] at p3
  obtain ⟨F,f1,f2⟩:=p3
  rw [f1,ne_fault]
  simp only [bindV_some,cast_bool,cond_true]
  have hne:=own_ne o3 f2 (by show (2:Nat)≠3;decide)
  have cp:=o3.put [SL.av sl0,SL.av sl0]
  have hst:h3.store (h.next,0) [(.slice none 0 0 0),(.slice none 0 0 0)]=some (h3.put h.next (.row [SL.av sl0,SL.av sl0] .own)):=o3.store rfl
  rw [hst,need_some,cellsC (own_put o3 _)]
  exact ⟨sl0,sl0,_,_,rfl,c03.put (.inr (Nat.le_refl _)) _,Sl.nil _ _ _,Sl.nil _ _ _,F,rfl,f2.chg cp (by simpa using fun e=>hne e.symm)⟩
 | inl T=>
  rw [hl] at p3
  obtain ⟨pe,po,pl⟩:=p3
  obtain ⟨hT,hT0⟩:=lexT_toks (by omega) hl (by omega)
  rw [pe,ne_nil]
  simp only [bindV_some,cast_bool,cond_false]
  have sl3:=po.sl
  have hz:r2.1.sz=3:=by
   rcases po with ⟨_,_,_,h4⟩ | ⟨A,cs,st',vs,_,h2,_⟩
   ·have:T.length=0:=by rw [← List.length_map (f:=tokD),h4];rfl
    omega
   ·exact h2
  have oC:=own_push h3 [SL.av sl0,SL.av sl0]
  have cC:=chg_push h3 (.row [SL.av sl0,SL.av sl0] .own)
  have eC:h3.push (.row [(.slice none 0 0 0),(.slice none 0 0 0)] .own)=h3.push (.row [SL.av sl0,SL.av sl0] .own):=rfl
  have nC:(h3.push (.row [SL.av sl0,SL.av sl0] .own)).next=h3.next+1:=rfl
  rw [eC]
  have o7:=o3.chg cC (by simp)
  have sl7:=(sl3.weak (W:=fun A=>A<h3.next) (fun C _ hlt=>hlt)).chg cC (by simp)
  generalize h3.push (.row [SL.av sl0,SL.av sl0] .own)=h7 at *
  have oP:=own_push h7 [SL.av r2.1,.int .i64 0,.int .i64 0,AV.nilIface]
  have cP:=chg_push h7 (.row [SL.av r2.1,.int .i64 0,.int .i64 0,AV.nilIface] .own)
  have eP:h7.push (.row [(.slice r2.1.a r2.1.len r2.1.cap r2.1.sz),(.int .i64 0),(.int .i64 0),AV.nilIface] .own)=h7.push (.row [SL.av r2.1,.int .i64 0,.int .i64 0,AV.nilIface] .own):=rfl
  have nP:(h7.push (.row [SL.av r2.1,.int .i64 0,.int .i64 0,AV.nilIface] .own)).next=h7.next+1:=rfl
  rw [eP]
  have oC8:=oC.chg cP (by simp)
  have o8:=o7.chg cP (by simp)
  have c08:=(c03.trans cC).trans cP
  have p8:=pin_chg c08 (by simp) h4 hp
  have sl8:=(sl7.weak (W:=fun A=>A<h7.next) (fun A hA _=>by omega)).chg cP (by simp)
  generalize h7.push (.row [SL.av r2.1,.int .i64 0,.int .i64 0,AV.nilIface] .own)=h8 at *
  have x8:PC T h7.next [] h8 (0,none) 0:=⟨⟨⟨r2.1,AV.nilIface,oP,sl8,hz,rfl⟩,hT0,by simp⟩,p8,by omega⟩
  have cr8:CrOK h8 h8 h3.next [] []:=⟨sl0,sl0,oC8,OwV.nil _ _ _ _,OwV.nil _ _ _ _⟩
  obtain ⟨h23,xs',ys',e23,c23,⟨v,w,o23,w1,w2⟩,⟨er,k23,her⟩,hres⟩:=items_loop (N:=N) hT hN2 (R:=some (h.next,0)) (C:=h3.next) (P:=h7.next) (by omega) (by omega) 256 N h8 0 0 [] [] (by omega) (Nat.le_refl _) (by simp) (by simp) x8 (Chg.refl _ _) cr8
  rw [show ((256-256:Nat):Int)=0 from rfl] at e23
  rw [e23]
  simp only [bind3_some,need_some,Nat.zero_add,k23,bindV_some,cast_any,her.ne 43,cast_bool,crateT]
  have o23':=o8.chg c23 (by simp;omega)
  have c023:Chg [] h h23:=c08.step c23 (fun A hA hl=>by simp only [List.mem_cons,List.not_mem_nil,or_false] at hA;omega)
  have hn8:=c23.next
  have herC:∀ {hh:Heap} {vs:List AV},Chg [h.next] h23 hh→ErrW hh er (itemsS T 256 0).2:=fun c=>her.chg c fun A hA=>by
   rw [List.mem_singleton] at hA;subst hA
   exact ⟨_,_,o23',fun n=>by simp [SL.av]⟩
  cases he:(itemsS T 256 0).2 with
  | some q=>
   simp only [Option.isSome_some,cond_true]
   have hst:h23.store (h.next,0) [(.slice none 0 0 0),(.slice none 0 0 0)]=some (h23.put h.next (.row [SL.av sl0,SL.av sl0] .own)):=o23'.store rfl
   rw [hst,need_some]
   have cp:=o23'.put [SL.av sl0,SL.av sl0]
   have hPP:∀ x,h23.cell (h7.next,3)=some x→(h23.put h.next (.row [SL.av sl0,SL.av sl0] .own)).cell (h7.next,3)=some x:=by
    intro x hx
    rw [Heap.cell_g,cp.g h7.next (by have:=c23.next;omega) (by simp;omega),← Heap.cell_g];exact hx
   rw [hPP _ k23]
   simp only [sameO_some,cond_true,guardB_true]
   rw [cellsC (own_put o23' _)]
   exact ⟨sl0,sl0,er,_,rfl,c023.put (.inr (Nat.le_refl _)) _,Sl.nil _ _ _,Sl.nil _ _ _,by rw [← he];exact herC (vs:=[]) cp⟩
  | none=>
   obtain ⟨hx1,hy1⟩:=hres he
   rw [List.nil_append] at hx1 hy1
   subst hx1;subst hy1
   simp only [Option.isSome_none,cond_false]
   rw [cellsC o23]
   have hst:h23.store (h.next,0) [(.slice v.a v.len v.cap v.sz),(.slice w.a w.len w.cap w.sz)]=some (h23.put h.next (.row [SL.av v,SL.av w] .own)):=o23'.store rfl
   rw [hst,need_some,cellsC (own_put o23' _)]
   have cp:=o23'.put [SL.av v,SL.av w]
   refine ⟨v,w,AV.nilIface,_,rfl,c023.put (.inr (Nat.le_refl _)) _,?_,?_,rfl⟩
   ·exact (w1.sl.chg cp (fun A hA=>by have:=hA.1;simp;omega)).weak fun A hA _=>by have:=hA.1;omega
   ·exact (w2.sl.chg cp (fun A hA=>by have:=hA.1;simp;omega)).weak fun A hA _=>by have:=hA.1;omega
end
end Go.Proofs.YtkcjphhjmlienaaGreatDoor.Qp

set_option linter.unusedVariables false
set_option linter.unusedSimpArgs false
set_option maxRecDepth 100000
open Go Go.Proofs.YtkcjphhjmlienaaGreatDoor.Ai Go.Proofs
namespace Go.Proofs.YtkcjphhjmlienaaGreatDoor.Qp
open Go.ChangeShapes Go.WideShapes
open Go.Proofs.YtkcjphhjmlienaaGreatDoor
section
variable {H:Type} {P:Program} {h:Heap} {S:List TypeId}
end
end Go.Proofs.YtkcjphhjmlienaaGreatDoor.Qp

set_option linter.unusedVariables false
set_option linter.unusedSimpArgs false
open Go Go.Proofs.YtkcjphhjmlienaaGreatDoor.Ai Go.Proofs
namespace Go.Proofs.YtkcjphhjmlienaaGreatDoor.Qp
inductive PT where
 | int | bool | st (nm:Bs) (lv:List Bs) | ref (mu:Bool) (lv:List Bs) (t:PT)
end Go.Proofs.YtkcjphhjmlienaaGreatDoor.Qp

set_option linter.unusedVariables false
set_option linter.unusedSimpArgs false
open Go Go.Proofs.YtkcjphhjmlienaaGreatDoor.Ai Go.Proofs
namespace Go.Proofs.YtkcjphhjmlienaaGreatDoor.Qp
end Go.Proofs.YtkcjphhjmlienaaGreatDoor.Qp

set_option linter.unusedVariables false
set_option linter.unusedSimpArgs false
open Go Go.Proofs.YtkcjphhjmlienaaGreatDoor.Ai Go.Proofs
namespace Go.Proofs.YtkcjphhjmlienaaGreatDoor.Qp
section
variable {N:Nat} {h:Heap} {V:Nat→Prop}
end
end Go.Proofs.YtkcjphhjmlienaaGreatDoor.Qp

set_option linter.unusedVariables false
set_option linter.unusedSimpArgs false
open Go Go.Proofs.YtkcjphhjmlienaaGreatDoor.Ai Go.Proofs
namespace Go.Proofs.YtkcjphhjmlienaaGreatDoor.Qp
abbrev KT:=Int×Bs
def kt (q:Tok):KT:=(q.1,q.2.1)
def noB (t:Bs):Prop:=blankN false t=0
theorem noB_cons {c:UInt8} {r:Bs} (h1:blankB c=false) (h2:c.toNat≠47):noB (c::r):=by
 have:hasP [47,47] (c::r)=false:=by
  cases e:hasP [47,47] (c::r) with
  | false=>rfl
  | true=>exact absurd (hasP_47 e).1 h2
 simp [noB,blankN,h1,this]
def brk (t:Bs):Prop:=headB goesB t=false
theorem runN_app:∀ {x r:Bs},(∀ c∈x,goesB c=true)→brk r→runN (x++r)=x.length
 | [],r,_,h=>by
  cases r with
  | nil=>rfl
  | cons c q=>have:goesB c=false:=h;simp [runN,this]
 | c::x,r,hx,h=>by
  have ih:=runN_app (x:=x) (r:=r) (fun d hd=>hx d (by simp [hd])) h
  simp [runN,hx c (by simp),ih]
theorem run_all:∀ {x:Bs},runN x=x.length→∀ c∈x,goesB c=true
 | [],_,c,hc=>by cases hc
 | d::x,h,c,hc=>by
  simp only [runN] at h
  split at h
  ·rename_i hd
   rcases List.mem_cons.1 hc with rfl | hc
   ·exact hd
   ·exact run_all (by simpa using h) c hc
  ·simp at h
theorem lifeB_parts {x:Bs} (h:lifeB x=true):∃ c q,x=c::q∧letterB c=true∧(∀ c∈x,goesB c=true)∧x.length≤32:=by
 simp only [lifeB,Bool.and_eq_true,decide_eq_true_eq] at h
 obtain ⟨⟨⟨h1,h2⟩,h3⟩,h4⟩:=h
 cases x with
 | nil=>simp at h1
 | cons c q=>exact ⟨c,q,rfl,h3,run_all h4,h2⟩
theorem next_word_app {x r:Bs} (hl:lifeB x=true) (hw:isWord x=true) (hb:brk r):nextTok (x++r)=some (2,x,x.length):=by
 obtain ⟨c,q,rfl,h1,h2,h3⟩:=lifeB_parts hl
 have hr:=runN_app h2 hb
 have ht:((c::q)++r).take (c::q).length=c::q:=List.take_left' rfl
 simp only [List.cons_append] at hr ht ⊢
 simp only [nextTok,h1,if_true,wordTok,hr,ht,hw]
theorem next_name_app {x r:Bs} (hn:nameB x=true) (hb:brk r):nextTok (x++r)=some (1,x,x.length):=by
 simp only [nameB,Bool.and_eq_true,Bool.not_eq_true'] at hn
 obtain ⟨hl,hw⟩:=hn
 obtain ⟨c,q,rfl,h1,h2,h3⟩:=lifeB_parts hl
 have hr:=runN_app h2 hb
 have ht:((c::q)++r).take (c::q).length=c::q:=List.take_left' rfl
 simp only [List.cons_append] at hr ht ⊢
 simp only [nextTok,h1,if_true,wordTok,hr,ht,hw,Bool.false_eq_true,if_false,h3]
theorem brk_of {c:UInt8} {r:Bs} (h:goesB c=false):brk (c::r):=h
theorem drop_app (x r:Bs):(x++r).drop x.length=r:=List.drop_left' rfl
end Go.Proofs.YtkcjphhjmlienaaGreatDoor.Qp

set_option linter.unusedVariables false
set_option linter.unusedSimpArgs false
open Go Go.Proofs.YtkcjphhjmlienaaGreatDoor.Ai Go.Proofs
namespace Go.Proofs.YtkcjphhjmlienaaGreatDoor.Qp
def codeP:Er3→Int×Int
 | none=>(0,0)
 | some (c,a,none)=>(c,a)
 | some (c,_,some b)=>(c,b)
section
variable {N:Nat} {h:Heap}
theorem f29_end {B:Nat} {c a b k:Int} {M:Nat} (o:h.own B [.int .i64 c,.int .i64 a,AV.iface 78 (.int .i64 k)]) (v6 v7:Int) {n:Int} (hn:n<200):∃ o',f29_l1 N (M+1) (some (B,0)) v6 v7 n h=some (o',(v6,v7,()),h):=by
 have k2:h.cell (B,2)=some (AV.iface 78 (.int .i64 k)):=o.cell 2
 rw [f29_l1_succ]
 unfold f29_l1_b
 have:ltInt n 200=true:=by rw [ltI];exact decide_eq_true hn
 rw [this]
 simp only [cond_true,need_some,Nat.zero_add,k2,bindV_some,cast_any]
 rw [as_errno]
 simp only [Bool.not_false,cond_true]
 exact ⟨_,rfl⟩
theorem f29_w {v:AV} {e:Er3} (x:ErrW h v e) (hN:10≤N):f29 N v h=some (((codeP e).1,(codeP e).2,()),h):=by
 unfold f29
 obtain ⟨N,rfl⟩:∃ m,N=m+2:=⟨N-2,by omega⟩
 match e with
 | none=>rw [show v=AV.nilIface from x,eq_nil];rfl
 | some (c,a,none)=>
  obtain ⟨F,f1,f2⟩:=x
  rw [f1,eq_fault]
  simp only [bindV_some,cast_bool,cond_false]
  rw [as_fault]
  have k0:h.cell (F,0)=some (.int .i64 c):=f2.cell 0
  have k1:h.cell (F,1)=some (.int .i64 a):=f2.cell 1
  simp only [Bool.not_true,cond_false,Option.isNone_some,need_some,Nat.add_zero,Nat.zero_add,k0,k1,bindV_some,cast_int]
  obtain ⟨o',e'⟩:=f29_end (N:=N+2) (M:=N+1) (b:=0) f2 c a (n:=0) (by omega)
  rw [e'];rfl
 | some (c,a,some b)=>
  obtain ⟨A,B,f1,f2,f3⟩:=x
  rw [f1,eq_fault]
  simp only [bindV_some,cast_bool,cond_false]
  rw [as_fault]
  have k0:h.cell (A,0)=some (.int .i64 c):=f2.cell 0
  have k1:h.cell (A,1)=some (.int .i64 a):=f2.cell 1
  have k2:h.cell (A,2)=some (AV.iface 127 (.ptr (some (B,0)))):=f2.cell 2
  have j1:h.cell (B,1)=some (.int .i64 b):=f3.cell 1
  simp only [Bool.not_true,cond_false,Option.isNone_some,need_some,Nat.add_zero,Nat.zero_add,k0,k1,bindV_some,cast_int]
  rw [f29_l1_succ]
  unfold f29_l1_b
  rw [show ltInt 0 200=true from rfl]
  simp only [cond_true,need_some,Nat.zero_add,k2,bindV_some,cast_any]
  rw [as_fault]
  simp only [Bool.not_true,cond_false,Option.isNone_some,need_some,Nat.zero_add,j1,bindV_some,cast_int]
  rw [show wrapA .i64 (0+1)=1 from rfl]
  obtain ⟨o',e'⟩:=f29_end (N:=N+2) (M:=N) (b:=0) f3 c b (n:=1) (by omega)
  rw [e'];rfl
theorem f18_w {v:AV} {e:Er3} (x:ErrW h v e) (hN:10≤N) (c a:Int):f18 N v c a h=some (decide (codeP e=(c,a)),h):=by
 unfold f18
 rw [f29_w x hN,bind2_some]
 simp only [eqI]
 by_cases q:(codeP e).1=c
 ·simp only [q,decide_true,cond_true]
  by_cases q2:(codeP e).2=a
  ·have:codeP e=(c,a):=by rw [← q,← q2]
   simp only [q2,this,decide_true]
  ·have:¬ codeP e=(c,a):=fun h=>q2 (by rw [h])
   simp [q2,this]
 ·have:¬ codeP e=(c,a):=fun h=>q (by rw [h])
  simp [q,this]
end
def LxA (t:Bs) (a:Nat) (l:List Tok):Prop:=∀ M,t.length<M→lexG M t a=.inl l
theorem LxA.nil (a:Nat):LxA [] a []:=fun M hM=>by
 obtain ⟨M,rfl⟩:∃ m,M=m+1:=⟨M-1,by omega⟩
 rfl
theorem LxA.cons {t x r:Bs} {k:Int} {n m a:Nat} {l:List Tok} (h:nextTok t=some (k,x,n)) (hb:blankN false (t.drop n)=m) (hr:t.drop (n+m)=r) (q:LxA r (a+(n+m)) l):LxA t a ((k,x,a)::l):=fun M hM=>by
 obtain ⟨M,rfl⟩:∃ m,M=m+1:=⟨M-1,by omega⟩
 subst hr
 cases t with
 | nil=>cases h
 | cons c p=>
  have hn:=nextTok_some h
  have h1:=q M (by rw [List.length_drop];omega)
  simp only [lexG,h]
  rw [hb,h1]
theorem lexT_of {N:Nat} {s:Bs} {l:List Tok} (hN:s.length<N) (hb:blankN false s=0) (h:LxA s 0 l):lexT N s=.inl (l++[(0,[],s.length)]):=by
 unfold lexT
 rw [hb,List.drop_zero,h N hN]
def At (T:List Tok) (i:Nat) (l:List Tok):Prop:=T.drop i=l
section
variable {T l r:List Tok} {i:Nat} {k:Int} {x w:Bs} {a:Nat}
theorem At.tk (h:At T i ((k,x,a)::r)):tk T i=(k,x,a):=by
 have:(T.drop i)[0]? = some (k,x,a):=by rw [show T.drop i=_ from h];rfl
 rw [List.getElem?_drop,Nat.add_zero] at this
 simp [Qp.tk,List.getD,this]
theorem At.next {t:Tok} (h:At T i (t::r)):At T (i+1) r:=by
 unfold At at h ⊢
 rw [← List.drop_drop,h];rfl
theorem At.nexts {l:List Tok} (h:At T i (l++r)):At T (i+l.length) r:=by
 unfold At at h ⊢
 rw [← List.drop_drop,h,List.drop_left' rfl]
theorem opt_yes (h:At T i ((k,x,a)::r)) (hk:k=2∨k=5):optS T x (i,none)=(true,(i+1,none)):=by
 have:isS T x i=true:=by simp [isS,h.tk,hk,eqBytes_eq]
 simp [optS,this]
theorem opt_no (h:At T i ((k,x,a)::r)) (hw:(decide (k=2∨k=5)&&eqBytes x w)=false):optS T w (i,none)=(false,(i,none)):=by
 have:isS T w i=false:=by simp only [isS,h.tk];exact hw
 simp [optS,this]
theorem text_yes (h:At T i ((k,x,a)::r)):textS T k (i,none)=(x,(i+1,none)):=by simp [textS,h.tk]
theorem want_yes (h:At T i ((k,x,a)::r)) (hk:k=2∨k=5):wantS T x (i,none)=(i+1,none):=by simp [wantS,opt_yes h hk]
theorem fail_at (h:At T i ((k,x,a)::r)) (c:Int):failS T c (i,none)=(i,some (c,(a:Int))):=by simp [failS,h.tk]
end
end Go.Proofs.YtkcjphhjmlienaaGreatDoor.Qp

set_option linter.unusedVariables false
set_option linter.unusedSimpArgs false
open Go Go.Proofs.YtkcjphhjmlienaaGreatDoor.Ai Go.Proofs
namespace Go.Proofs.YtkcjphhjmlienaaGreatDoor.Qp
def repT (c:UInt8):Nat→Nat→List Tok
 | 0,_=>[]
 | k+1,a=>(5,[c],a)::repT c k (a+1)
section
variable {T r:List Tok} {i a c:Nat}
theorem no_words (h:At T i ((5,[123],a)::r)):(optS T [108,101,116] (i,none)=(false,(i,none)))∧(optS T [105,102] (i,none)=(false,(i,none)))∧(optS T [119,104,105,108,101] (i,none)=(false,(i,none)))∧(optS T [108,111,111,112] (i,none)=(false,(i,none)))∧(optS T [125] (i,none)=(false,(i,none))):=
 ⟨opt_no h (by decide),opt_no h (by decide),opt_no h (by decide),opt_no h (by decide),opt_no h (by decide)⟩
theorem stmt_block (h:At T i ((5,[123],a)::r)) (blk:SC→List D×SC):(stmtS T blk ((i,none),c)).2=(blk ((i,none),c)).2:=by
 obtain ⟨h1,h2,h3,h4,_⟩:=no_words h
 simp only [stmtS,h1,h2,h3,h4,Bool.false_eq_true,if_false,opt_yes h (.inr rfl),if_true]
theorem stmts_end (h:At T i ((5,[125],a)::r)) (one:SC→D×SC) (f:Nat):stmtsS T one (f+1) ((i,none),c)=(([],false),((i+1,none),c)):=by
 simp only [stmtsS,Option.isSome_none,Bool.false_eq_true,if_false,opt_yes h (.inr rfl),if_true]
theorem stmts_err (one:SC→D×SC) (f:Nat) (e:Int×Int):stmtsS T one f ((i,some e),c)=(([],false),((i,some e),c)):=by
 cases f <;> simp [stmtsS]
theorem stmts_step {k:Int} {x:Bs} (h:At T i ((k,x,a)::r)) (hx:(decide (k=2∨k=5)&&eqBytes x [125])=false) (hc:c<2000) (one:SC→D×SC) (f:Nat):(stmtsS T one (f+1) ((i,none),c)).2=(stmtsS T one f (one ((i,none),c+1)).2).2:=by
 have q:¬ (c=2000∧(tk T i).1≠0):=by omega
 simp only [stmtsS,Option.isSome_none,Bool.false_eq_true,if_false,opt_no h hx,q]
theorem block_ok_deep:∀ (d g i a c:Nat) (r:List Tok),d<g→c+d<2000→At T i (repT 123 (d+1) a++(repT 125 (d+1) (a+d+1)++r))→(blockS T g ((i,none),c)).2=((i+2 * d+2,none),c+d):=by
 intro d
 induction d with
 | zero=>
  intro g i a c r hg hc h
  obtain ⟨g,rfl⟩:∃ m,g=m+1:=⟨g-1,by omega⟩
  simp only [repT,List.cons_append,List.nil_append] at h
  simp only [blockS]
  rw [want_yes h (.inr rfl),stmts_end h.next]
  rfl
 | succ d ih=>
  intro g i a c r hg hc h
  obtain ⟨g,rfl⟩:∃ m,g=m+1:=⟨g-1,by omega⟩
  have e1:repT 123 (d+1+1) a=(5,[123],a)::repT 123 (d+1) (a+1):=rfl
  rw [e1,List.cons_append] at h
  simp only [blockS]
  rw [want_yes h (.inr rfl)]
  have h1:=h.next
  have e2:repT 123 (d+1) (a+1)=(5,[123],a+1)::repT 123 d (a+1+1):=rfl
  have hx:=h1
  rw [e2,List.cons_append] at hx
  rw [stmts_step hx (by decide) (by omega),stmt_block hx]
  have e3:repT 125 (d+1+1) (a+(d+1)+1)=repT 125 (d+1) (a+1+d+1)++[(5,[125],a+2 * d+3)]:=by
   have gen:∀ (k b:Nat),repT 125 (k+1) b=repT 125 k b++[(5,[125],b+k)]:=by
    intro k
    induction k with
    | zero=>intro b;rfl
    | succ k ihk=>intro b;show (5,[125],b)::repT 125 (k+1) (b+1)=_;rw [ihk];show _=((5,[125],b)::repT 125 k (b+1))++_;rw [show b+1+k=b+(k+1) by omega];rfl
   rw [gen,show a+(d+1)+1=a+1+d+1 by omega,show a+1+d+1+(d+1)=a+2 * d+3 by omega]
  rw [e3,List.append_assoc] at h1
  have:=ih g (i+1) (a+1) (c+1) _ (by omega) (by omega) h1
  rw [this]
  have h2:=h1.nexts.nexts
  have l1:∀ (ch:UInt8) (k b:Nat),(repT ch k b).length=k:=by
   intro ch k;induction k with
   | zero=>intro b;rfl
   | succ k ihk=>intro b;simp [repT,ihk]
  rw [l1,l1,show i+1+(d+1)+(d+1)=i+1+2 * d+2 by omega] at h2
  have h3:stmtsS T (stmtS T (blockS T g)) 2000 ((i+1+2 * d+2,none),c+1+d)=(([],false),((i+1+2 * d+2+1,none),c+1+d)):=stmts_end (f:=1999) (by simpa using h2) _
  rw [h3,show i+1+2 * d+2+1=i+2 * (d+1)+2 by omega,show c+1+d=c+(d+1) by omega]
theorem block_too_deep:∀ (g i a c:Nat) (r:List Tok),c+g<2000→At T i (repT 123 (g+1) a++r)→∃ j c',(blockS T g ((i,none),c)).2=((j,some (6,((a+g:Nat):Int))),c'):=by
 intro g
 induction g with
 | zero=>
  intro i a c r hc h
  simp only [repT,List.cons_append,List.nil_append] at h
  refine ⟨i,c,?_⟩
  simp only [blockS]
  rw [fail_at h];rfl
 | succ g ih=>
  intro i a c r hc h
  have e1:repT 123 (g+1+1) a=(5,[123],a)::repT 123 (g+1) (a+1):=rfl
  rw [e1,List.cons_append] at h
  have h1:=h.next
  have e2:repT 123 (g+1) (a+1)=(5,[123],a+1)::repT 123 g (a+1+1):=rfl
  have hx:=h1
  rw [e2,List.cons_append] at hx
  obtain ⟨j,c',e⟩:=ih (i+1) (a+1) (c+1) r (by omega) h1
  refine ⟨j,c',?_⟩
  simp only [blockS]
  rw [want_yes h (.inr rfl),stmts_step hx (by decide) (by omega),stmt_block hx,e,stmts_err,show a+1+g=a+(g+1) by omega]
def headT (a:Nat):List Tok:=[(2,[102,110],a),(1,[102],a+3),(5,[40],a+4),(5,[41],a+5)]
theorem item_fn {b:Nat} {x:Bs} {k:Int} (h:At T i (headT a++((k,x,b)::r))) (hx:(decide (k=2∨k=5)&&eqBytes x [45,62])=false) :
  (itemS T (i,none)).d.isSome=true∧(itemS T (i,none)).i=(blockS T 64 ((i+4,none),0)).2.1.1∧(itemS T (i,none)).e=inS (a:Int) (blockS T 64 ((i+4,none),0)).2.1.2∧∃ d,(itemS T (i,none)).d=some (false,d):=by
 have h0:At T i ((2,[102,110],a)::(1,[102],a+3)::(5,[40],a+4)::(5,[41],a+5)::(k,x,b)::r):=h
 have h1:=h0.next
 have h2:=h1.next
 have h3:=h2.next
 have h4:=h3.next
 have p1:=opt_no h0 (w:=[112,117,98]) (by decide)
 have p2:=opt_no h0 (w:=[115,116,114,117,99,116]) (by decide)
 have p3:=opt_yes h0 (.inl rfl)
 have q1:textS T 1 (i+1,none)=([102],(i+1+1,none)):=text_yes h1
 have q2:=opt_no h2 (w:=[60]) (by decide)
 have q3:=want_yes h2 (.inr rfl)
 have q4:=opt_yes h3 (.inr rfl)
 have q5:=opt_no h4 (w:=[45,62]) hx
 have hf:(funcS T false (a:Int) (i+1,none)).2=(blockS T 64 ((i+4,none),0)).2:=by
  simp only [funcS,q1,q2,q3,q4,q5,Bool.false_eq_true,if_false,if_true]
 simp only [itemS,p1,p2,p3,Bool.false_eq_true,if_false,if_true,h0.tk,hf]
 exact ⟨rfl,trivial,trivial,_,rfl⟩
end
end Go.Proofs.YtkcjphhjmlienaaGreatDoor.Qp

set_option linter.unusedVariables false
set_option linter.unusedSimpArgs false
open Go Go.Proofs.YtkcjphhjmlienaaGreatDoor.Ai Go.Proofs
namespace Go.Proofs.YtkcjphhjmlienaaGreatDoor.Qp
def pairB (c d:UInt8):Bool:=!letterB c&&!digitB c&&!decide (c.toNat=39)&&memB c oneL&&!anyEq [c,d] two
theorem next_pair {c d:UInt8} (r:Bs) (h:pairB c d=true):nextTok (c::d::r)=some (5,[c],1):=by
 simp only [pairB,Bool.and_eq_true,Bool.not_eq_true',decide_eq_false_iff_not] at h
 obtain ⟨⟨⟨⟨h1,h2⟩,h3⟩,h4⟩,h5⟩:=h
 have e:∀ p:Bs,p.length=2→hasP p (c::d::r)=eqBytes [c,d] p:=by
  intro p hp
  simp [hasP,hp]
 have hf:findP (c::d::r) two=none:=by
  simp only [two,anyEq] at h5
  simp only [two,findP,e [58,58] rfl,e [45,62] rfl,e [61,61] rfl]
  cases e1:eqBytes [c,d] [58,58] with
  | true=>rw [e1] at h5;cases h5
  | false=>
   cases e2:eqBytes [c,d] [45,62] with
   | true=>rw [e1,e2] at h5;cases h5
   | false=>
    cases e3:eqBytes [c,d] [61,61] with
    | true=>rw [e1,e2,e3] at h5;cases h5
    | false=>rfl
 rw [nextTok,h1,h2,if_neg (by simp),if_neg (by simp),if_neg h3]
 simp only [signTok,hf,h4,if_true]
theorem next_last {c:UInt8} (h:pairB c 0=true):nextTok [c]=some (5,[c],1):=by
 simp only [pairB,Bool.and_eq_true,Bool.not_eq_true',decide_eq_false_iff_not] at h
 obtain ⟨⟨⟨⟨h1,h2⟩,h3⟩,h4⟩,h5⟩:=h
 have hf:findP [c] two=none:=by simp [two,findP,hasP]
 rw [nextTok,h1,h2,if_neg (by simp),if_neg (by simp),if_neg h3]
 simp only [signTok,hf,h4,if_true]
theorem blank_sp {t:Bs} (h:noB t):blankN false (32::t)=1:=by
 have h:blankN false t=0:=h
 simp [blankN,blankB,h]
section
variable {r x:Bs} {a m:Nat} {l:List Tok} {c d:UInt8}
theorem LxA.sg (h:pairB c d=true) (hb:noB (d::r)) (q:LxA (d::r) (a+1) l):LxA (c::d::r) a ((5,[c],a)::l):=LxA.cons (next_pair r h) (m:=0) hb rfl q
theorem LxA.sgS (h:pairB c 32=true) (hb:noB r) (q:LxA r (a+2) l):LxA (c::32::r) a ((5,[c],a)::l):=LxA.cons (next_pair r h) (m:=1) (blank_sp hb) rfl q
theorem LxA.end1 (h:pairB c 0=true):LxA [c] a [(5,[c],a)]:=LxA.cons (next_last h) (m:=0) rfl rfl (LxA.nil _)
theorem LxA.w (hl:lifeB x=true) (hw:isWord x=true) (hr:brk r) (hb:noB r) (q:LxA r (a+x.length) l):LxA (x++r) a ((2,x,a)::l):=
 LxA.cons (next_word_app hl hw hr) (m:=0) (by rw [drop_app];exact hb) (drop_app x r) q
theorem LxA.wS (hl:lifeB x=true) (hw:isWord x=true) (hb:noB r) (q:LxA r (a+(x.length+1)) l):LxA (x++32::r) a ((2,x,a)::l):=
 LxA.cons (next_word_app hl hw (brk_of rfl)) (m:=1) (by rw [drop_app];exact blank_sp hb) (by rw [← List.drop_drop,drop_app];rfl) q
theorem LxA.n (hl:nameB x=true) (hr:brk r) (hb:noB r) (q:LxA r (a+x.length) l):LxA (x++r) a ((1,x,a)::l):=
 LxA.cons (next_name_app hl hr) (m:=0) (by rw [drop_app];exact hb) (drop_app x r) q
end
theorem noB_c {c:UInt8} (r:Bs) (h:(blankB c||decide (c.toNat=47))=false):noB (c::r):=by
 rw [Bool.or_eq_false_iff,decide_eq_false_iff_not] at h
 exact noB_cons h.1 h.2
def fnH:Bs:=[102,110,32,102,40,41,32]
theorem lx_head {r:Bs} {a:Nat} {l:List Tok} (q:LxA (123::r) (a+7) l):LxA (fnH++123::r) a (headT a++l):=by
 have h4:LxA (41::32::123::r) (a+5) ((5,[41],a+5)::l):=LxA.sgS rfl (noB_c _ rfl) q
 have h3:=LxA.sg (c:=40) (a:=a+4) rfl (noB_c _ rfl) h4
 have h2:LxA ([102]++40::41::32::123::r) (a+3) _:=LxA.n (a:=a+3) rfl (brk_of rfl) (noB_c _ rfl) h3
 exact LxA.wS (x:=[102,110]) (a:=a) rfl rfl (noB_c _ rfl) h2
theorem lx_rep {c d:UInt8} {r:Bs} {l:List Tok} (h1:pairB c c=true) (h2:pairB c d=true) (h3:(blankB c||decide (c.toNat=47))=false) (h4:noB (d::r)):∀ (k a:Nat),LxA (d::r) (a+k) l→LxA (List.replicate k c++d::r) a (repT c k a++l)
 | 0,a,q=>q
 | 1,a,q=>LxA.sg h2 h4 q
 | k+2,a,q=>by
  have ih:=lx_rep h1 h2 h3 h4 (k+1) (a+1) (by rw [show a+1+(k+1)=a+(k+2) by omega];exact q)
  exact LxA.sg (d:=c) h1 (noB_c _ h3) ih
theorem lx_reps {c:UInt8} (h1:pairB c c=true) (h2:pairB c 0=true) (h3:(blankB c||decide (c.toNat=47))=false):∀ (k a:Nat),LxA (List.replicate (k+1) c) a (repT c (k+1) a)
 | 0,a=>LxA.end1 h2
 | k+1,a=>LxA.sg (d:=c) h1 (noB_c _ h3) (lx_reps h1 h2 h3 k (a+1))
def tBlocks (k:Nat):Bs:=fnH++List.replicate k 123++List.replicate k 125
def tRefs (k:Nat):Bs:=List.replicate k 38++[105,110,116]
def tStars:Nat→Bs
 | 0=>[32,61,32,49,59,32,125]
 | k+1=>46::42::tStars k
def tPath (k:Nat):Bs:=fnH++123::32::120::tStars k
def tItems:Nat→Bs
 | 0=>[]
 | k+1=>fnH++123::32::125::32::tItems k
def tBreaks:Nat→Bs
 | 0=>[125]
 | k+1=>[98,114,101,97,107]++59::32::tBreaks k
def tStmts (k:Nat):Bs:=fnH++123::32::tBreaks k
def lStars:Nat→Nat→List Tok
 | 0,a=>[(5,[61],a+1),(4,[49],a+3),(5,[59],a+4),(5,[125],a+6)]
 | k+1,a=>(5,[46],a)::(5,[42],a+1)::lStars k (a+2)
def lItems:Nat→Nat→List Tok
 | 0,_=>[]
 | k+1,a=>headT a++((5,[123],a+7)::(5,[125],a+9)::lItems k (a+11))
def lBreaks:Nat→Nat→List Tok
 | 0,a=>[(5,[125],a)]
 | k+1,a=>(2,[98,114,101,97,107],a)::(5,[59],a+5)::lBreaks k (a+7)
theorem lx_blocks (k:Nat):LxA (tBlocks (k+1)) 0 (headT 0++(repT 123 (k+1) 7++repT 125 (k+1) (7+(k+1)))):=by
 have h1:LxA (List.replicate (k+1) 125) (7+(k+1)) _:=lx_reps (c:=125) rfl rfl rfl k _
 have h2:=lx_rep (c:=123) (d:=125) rfl rfl rfl (noB_c _ rfl) (k+1) 7 h1
 have e:tBlocks (k+1)=fnH++123::(List.replicate k 123++List.replicate (k+1) 125):=by
  unfold tBlocks
  rw [List.append_assoc];rfl
 rw [e]
 exact lx_head h2
theorem lx_refs (k:Nat):LxA (tRefs k) 0 (repT 38 k 0++[(2,[105,110,116],k)]):=by
 have h1:LxA ([105,110,116]++[]) k [(2,[105,110,116],k)]:=LxA.w rfl rfl rfl rfl (LxA.nil _)
 exact lx_rep (c:=38) (d:=105) rfl rfl rfl (noB_c _ rfl) k 0 (by rw [Nat.zero_add];exact h1)
theorem lx_stars0 (a:Nat):LxA [61,32,49,59,32,125] a [(5,[61],a),(4,[49],a+2),(5,[59],a+3),(5,[125],a+5)]:=by
 have h1:LxA [125] (a+5) _:=LxA.end1 rfl
 have h2:LxA [59,32,125] (a+3) _:=LxA.sgS rfl rfl h1
 have h3:LxA [49,59,32,125] (a+2) _:=LxA.cons (k:=4) (x:=[49]) (n:=1) (m:=0) rfl rfl rfl h2
 exact LxA.sgS rfl rfl h3
theorem lx_stars:∀ (k a:Nat),(∃ r,tStars (k+1)=46::r)∧LxA (tStars (k+1)) a (lStars (k+1) a)
 | 0,a=>by
  refine ⟨⟨_,rfl⟩,?_⟩
  have h1:LxA [42,32,61,32,49,59,32,125] (a+1) ((5,[42],a+1)::lStars 0 (a+2)):=LxA.sgS (c:=42) (a:=a+1) rfl rfl (lx_stars0 (a+3))
  exact LxA.sg (c:=46) (d:=42) rfl (noB_c _ rfl) h1
 | k+1,a=>by
  obtain ⟨⟨r,hr⟩,ih⟩:=lx_stars k (a+2)
  refine ⟨⟨_,rfl⟩,?_⟩
  show LxA (46::42::tStars (k+1)) a ((5,[46],a)::(5,[42],a+1)::lStars (k+1) (a+2))
  rw [hr] at ih ⊢
  exact LxA.sg (c:=46) (d:=42) rfl (noB_c _ rfl) (LxA.sg (c:=42) (d:=46) (a:=a+1) rfl (noB_c _ rfl) ih)
theorem lx_path (k:Nat):LxA (tPath (k+1)) 0 (headT 0++((5,[123],7)::(1,[120],9)::lStars (k+1) 10)):=by
 obtain ⟨⟨r,hr⟩,h1⟩:=lx_stars k 10
 unfold tPath
 rw [hr] at h1 ⊢
 have h2:LxA ([120]++46::r) 9 _:=LxA.n rfl (brk_of rfl) (noB_c _ rfl) h1
 have h3:LxA (123::32::120::46::r) 7 _:=LxA.sgS rfl (noB_c _ rfl) h2
 exact lx_head h3
theorem lx_items:∀ (k a:Nat),LxA (tItems k) a (lItems k a)∧noB (tItems k)
 | 0,a=>⟨LxA.nil _,rfl⟩
 | k+1,a=>by
  obtain ⟨ih,hb⟩:=lx_items k (a+11)
  have h1:LxA (125::32::tItems k) (a+9) _:=LxA.sgS rfl hb ih
  have h2:LxA (123::32::125::32::tItems k) (a+7) _:=LxA.sgS rfl (noB_c _ rfl) h1
  exact ⟨lx_head h2,noB_c _ rfl⟩
theorem lx_breaks:∀ (k a:Nat),LxA (tBreaks k) a (lBreaks k a)∧noB (tBreaks k)
 | 0,a=>⟨LxA.end1 rfl,rfl⟩
 | k+1,a=>by
  obtain ⟨ih,hb⟩:=lx_breaks k (a+7)
  have h1:LxA (59::32::tBreaks k) (a+5) _:=LxA.sgS rfl hb ih
  exact ⟨LxA.w (x:=[98,114,101,97,107]) rfl rfl (brk_of rfl) (noB_c _ rfl) h1,noB_c _ rfl⟩
theorem lx_stmts (k:Nat):LxA (tStmts k) 0 (headT 0++((5,[123],7)::lBreaks k 9)):=by
 obtain ⟨h1,hb⟩:=lx_breaks k 9
 have h2:LxA (123::32::tBreaks k) 7 _:=LxA.sgS rfl hb h1
 exact lx_head h2
end Go.Proofs.YtkcjphhjmlienaaGreatDoor.Qp

set_option linter.unusedVariables false
set_option linter.unusedSimpArgs false
open Go Go.Proofs.YtkcjphhjmlienaaGreatDoor.Ai Go.Proofs
namespace Go.Proofs.YtkcjphhjmlienaaGreatDoor.Qp
theorem repT_len (c:UInt8):∀ (k a:Nat),(repT c k a).length=k
 | 0,_=>rfl
 | k+1,a=>by simp [repT,repT_len c k]
section
variable {T r:List Tok} {i a c:Nat}
theorem items_end (h:At T i [(0,[],a)]) (f:Nat):itemsS T f i=(([],[]),none):=by
 cases f <;> simp [itemsS,h.tk]
theorem items_err {k:Int} {x:Bs} (h:At T i ((k,x,a)::r)) (hk:k≠0) {q} (hq:(itemS T (i,none)).e=some q) (f:Nat):itemsS T (f+1) i=(([],[]),some q):=by
 simp only [itemsS,h.tk,if_neg hk,hq]
theorem items_next {k:Int} {x:Bs} (h:At T i ((k,x,a)::r)) (hk:k≠0) (hq:(itemS T (i,none)).e=none) (f:Nat):(itemsS T (f+1) i).2=(itemsS T f (itemS T (i,none)).i).2:=by
 simp only [itemsS,h.tk,if_neg hk,hq]
theorem stmt_break (h:At T i ((2,[98,114,101,97,107],a)::(5,[59],a+5)::r)) (blk:SC→List D×SC):(stmtS T blk ((i,none),c)).2=((i+2,none),c):=by
 have n1:=opt_no h (w:=[108,101,116]) (by decide)
 have n2:=opt_no h (w:=[105,102]) (by decide)
 have n3:=opt_no h (w:=[119,104,105,108,101]) (by decide)
 have n4:=opt_no h (w:=[108,111,111,112]) (by decide)
 have n5:=opt_no h (w:=[123]) (by decide)
 have y:=opt_yes h (.inl rfl)
 have w:=want_yes h.next (.inr rfl)
 simp only [stmtS,n1,n2,n3,n4,n5,Bool.false_eq_true,if_false,plainS,y,if_true,w]
theorem breaks_ok (one:SC→D×SC) (h1:∀ i a c r,At T i ((2,[98,114,101,97,107],a)::(5,[59],a+5)::r)→(one ((i,none),c)).2=((i+2,none),c)):∀ (k f i a c:Nat) (r:List Tok),k<f→c+k≤2000→At T i (lBreaks k a++r)→(stmtsS T one f ((i,none),c)).2=((i+2 * k+1,none),c+k)
 | 0,f,i,a,c,r,hf,hc,h=>by
  obtain ⟨f,rfl⟩:∃ m,f=m+1:=⟨f-1,by omega⟩
  rw [stmts_end (a:=a) h];rfl
 | k+1,f,i,a,c,r,hf,hc,h=>by
  obtain ⟨f,rfl⟩:∃ m,f=m+1:=⟨f-1,by omega⟩
  have h':At T i ((2,[98,114,101,97,107],a)::(5,[59],a+5)::(lBreaks k (a+7)++r)):=h
  rw [stmts_step h' (by decide) (by omega),h1 _ _ _ _ h',breaks_ok one h1 k f (i+2) (a+7) (c+1) r (by omega) (by omega) h'.next.next]
  rw [show i+2+2 * k+1=i+2 * (k+1)+1 by omega,show c+1+k=c+(k+1) by omega]
theorem breaks_long (one:SC→D×SC) (h1:∀ i a c r,At T i ((2,[98,114,101,97,107],a)::(5,[59],a+5)::r)→(one ((i,none),c)).2=((i+2,none),c)):∀ (k f i a c:Nat) (r:List Tok),k<f→c+k=2000→At T i (lBreaks (k+1) a++r)→∃ j,(stmtsS T one f ((i,none),c)).2=((j,some (5,((a+7 * k:Nat):Int))),2000)
 | 0,f,i,a,c,r,hf,hc,h=>by
  obtain ⟨f,rfl⟩:∃ m,f=m+1:=⟨f-1,by omega⟩
  have h':At T i ((2,[98,114,101,97,107],a)::(5,[59],a+5)::(lBreaks 0 (a+7)++r)):=h
  have q:c=2000∧(tk T i).1≠0:=⟨by omega,by rw [h'.tk];show (2:Int)≠0;decide⟩
  have n:=opt_no h' (w:=[125]) (by decide)
  refine ⟨i,?_⟩
  simp only [stmtsS,Option.isSome_none,Bool.false_eq_true,if_false,n,q,and_self,if_true,fail_at h',Nat.mul_zero,Nat.add_zero,ne_eq,not_false_eq_true]
 | k+1,f,i,a,c,r,hf,hc,h=>by
  obtain ⟨f,rfl⟩:∃ m,f=m+1:=⟨f-1,by omega⟩
  have h':At T i ((2,[98,114,101,97,107],a)::(5,[59],a+5)::(lBreaks (k+1) (a+7)++r)):=h
  obtain ⟨j,e⟩:=breaks_long one h1 k f (i+2) (a+7) (c+1) r (by omega) (by omega) h'.next.next
  refine ⟨j,?_⟩
  rw [stmts_step h' (by decide) (by omega),h1 _ _ _ _ h',e,show a+7+7 * k=a+7 * (k+1) by omega]
theorem block_eq (h:At T i ((5,[123],a)::r)) (g:Nat):(blockS T (g+1) ((i,none),c)).2=(stmtsS T (stmtS T (blockS T g)) 2001 ((i+1,none),c)).2:=by
 simp only [blockS,want_yes h (.inr rfl)]
theorem item_empty (h:At T i (headT a++((5,[123],a+7)::(5,[125],a+9)::r))):(itemS T (i,none)).e=none∧(itemS T (i,none)).i=i+6:=by
 obtain ⟨_,h2,h3,_⟩:=item_fn h (by decide)
 have h4:At T (i+4) ((5,[123],a+7)::(5,[125],a+9)::r):=h.nexts
 rw [block_eq h4,stmts_end h4.next] at h2 h3
 exact ⟨h3,h2⟩
theorem items_ok:∀ (k f i a:Nat) (b:Nat),k≤f→At T i (lItems k a++[(0,[],b)])→(itemsS T f i).2=none
 | 0,f,i,a,b,hf,h=>by rw [items_end h]
 | k+1,f,i,a,b,hf,h=>by
  obtain ⟨f,rfl⟩:∃ m,f=m+1:=⟨f-1,by omega⟩
  have h':At T i (headT a++((5,[123],a+7)::(5,[125],a+9)::(lItems k (a+11)++[(0,[],b)]))):=by
   simpa [lItems,List.append_assoc] using h
  obtain ⟨h1,h2⟩:=item_empty h'
  rw [items_next h' (by decide) h1,h2]
  exact items_ok k f (i+6) (a+11) b (by omega) (h'.nexts.next.next)
theorem items_long:∀ (k i a:Nat) (r:List Tok),At T i (lItems (k+1) a++r)→(itemsS T k i).2=some (5,((a+11 * k:Nat):Int),none)
 | 0,i,a,r,h=>by
  have h':At T i ((2,[102,110],a)::(1,[102],a+3)::(5,[40],a+4)::(5,[41],a+5)::(5,[123],a+7)::(5,[125],a+9)::r):=by simpa [lItems,headT] using h
  simp only [itemsS,h'.tk,fail_at h']
  rfl
 | k+1,i,a,r,h=>by
  have h':At T i (headT a++((5,[123],a+7)::(5,[125],a+9)::(lItems (k+1) (a+11)++r))):=by
   have:lItems (k+1+1) a=headT a++((5,[123],a+7)::(5,[125],a+9)::lItems (k+1) (a+11)):=rfl
   rw [this] at h
   simpa [List.append_assoc] using h
  obtain ⟨h1,h2⟩:=item_empty h'
  rw [items_next h' (by decide) h1,h2]
  have:=items_long k (i+6) (a+11) r (h'.nexts.next.next)
  rw [this,show a+11+11 * k=a+11 * (k+1) by omega]
theorem refs_ok:∀ (k g i a b:Nat) (r:List Tok),k<g→At T i (repT 38 k a++((2,[105,110,116],b)::r))→(typS T g (i,none)).2=(i+k+1,none)
 | 0,g,i,a,b,r,hg,h=>by
  obtain ⟨g,rfl⟩:∃ m,g=m+1:=⟨g-1,by omega⟩
  have h':At T i ((2,[105,110,116],b)::r):=h
  simp only [typS,opt_yes h' (.inl rfl),if_true]
 | k+1,g,i,a,b,r,hg,h=>by
  obtain ⟨g,rfl⟩:∃ m,g=m+1:=⟨g-1,by omega⟩
  have h':At T i ((5,[38],a)::(repT 38 k (a+1)++((2,[105,110,116],b)::r))):=h
  have n1:=opt_no h' (w:=[105,110,116]) (by decide)
  have n2:=opt_no h' (w:=[98,111,111,108]) (by decide)
  have y:=opt_yes h' (.inr rfl)
  have ih:=refs_ok k g (i+1) (a+1) b r (by omega) h'.next
  have hl:lifeS T (i+1,none)=([],(i+1,none))∧optS T [109,117,116] (i+1,none)=(false,(i+1,none)):=by
   cases k with
   | zero=>
    have h1:At T (i+1) ((2,[105,110,116],b)::r):=h'.next
    exact ⟨by simp [lifeS,h1.tk],opt_no h1 (by decide)⟩
   | succ k=>
    have h1:At T (i+1) ((5,[38],a+1)::_):=h'.next
    exact ⟨by simp [lifeS,h1.tk],opt_no h1 (by decide)⟩
  simp only [typS,n1,n2,y,hl.1,hl.2,Bool.false_eq_true,if_false,if_true,ih]
  rw [show i+1+k+1=i+(k+1)+1 by omega]
theorem refs_deep:∀ (g i a b:Nat) (r:List Tok),At T i (repT 38 g a++((2,[105,110,116],b)::r))→b=a+g→∃ j,(typS T g (i,none)).2=(j,some (6,(b:Int)))
 | 0,i,a,b,r,h,hb=>by
  have h':At T i ((2,[105,110,116],b)::r):=h
  exact ⟨i,by simp only [typS,fail_at h']⟩
 | g+1,i,a,b,r,h,hb=>by
  have h':At T i ((5,[38],a)::(repT 38 g (a+1)++((2,[105,110,116],b)::r))):=h
  have n1:=opt_no h' (w:=[105,110,116]) (by decide)
  have n2:=opt_no h' (w:=[98,111,111,108]) (by decide)
  have y:=opt_yes h' (.inr rfl)
  obtain ⟨j,ih⟩:=refs_deep g (i+1) (a+1) b r h'.next (by omega)
  have hl:lifeS T (i+1,none)=([],(i+1,none))∧optS T [109,117,116] (i+1,none)=(false,(i+1,none)):=by
   cases g with
   | zero=>
    have h1:At T (i+1) ((2,[105,110,116],b)::r):=h'.next
    exact ⟨by simp [lifeS,h1.tk],opt_no h1 (by decide)⟩
   | succ k=>
    have h1:At T (i+1) ((5,[38],a+1)::_):=h'.next
    exact ⟨by simp [lifeS,h1.tk],opt_no h1 (by decide)⟩
  exact ⟨j,by simp only [typS,n1,n2,y,hl.1,hl.2,Bool.false_eq_true,if_false,if_true,ih]⟩
theorem path_ok:∀ (k g i a:Nat) (r:List Tok),k≤g→At T i (lStars k a++r)→(pathS T g (i,none)).2=(i+2 * k,none)
 | 0,g,i,a,r,hg,h=>by
  have h':At T i ((5,[61],a+1)::(4,[49],a+3)::(5,[59],a+4)::(5,[125],a+6)::r):=h
  have n:=opt_no h' (w:=[46]) (by decide)
  cases g <;> simp [pathS,n]
 | k+1,g,i,a,r,hg,h=>by
  obtain ⟨g,rfl⟩:∃ m,g=m+1:=⟨g-1,by omega⟩
  have h':At T i ((5,[46],a)::(5,[42],a+1)::(lStars k (a+2)++r)):=h
  have y1:=opt_yes h' (.inr rfl)
  have y2:=opt_yes h'.next (.inr rfl)
  have ih:=path_ok k g (i+2) (a+2) r (by omega) h'.next.next
  simp only [pathS,y1,y2,if_true,ih]
  rw [show i+2+2 * k=i+2 * (k+1) by omega]
theorem path_long:∀ (g i a:Nat) (r:List Tok),At T i (lStars (g+1) a++r)→∃ j,(pathS T g (i,none)).2=(j,some (5,((a+2 * g+1:Nat):Int)))
 | 0,i,a,r,h=>by
  have h':At T i ((5,[46],a)::(5,[42],a+1)::(lStars 0 (a+2)++r)):=h
  have y1:=opt_yes h' (.inr rfl)
  exact ⟨i+1,by simp only [pathS,y1,if_true,fail_at h'.next]⟩
 | g+1,i,a,r,h=>by
  have h':At T i ((5,[46],a)::(5,[42],a+1)::(lStars (g+1) (a+2)++r)):=h
  have y1:=opt_yes h' (.inr rfl)
  have y2:=opt_yes h'.next (.inr rfl)
  obtain ⟨j,ih⟩:=path_long g (i+2) (a+2) r h'.next.next
  exact ⟨j,by simp only [pathS,y1,y2,if_true,ih];rw [show a+2+2 * g+1=a+2 * (g+1)+1 by omega]⟩
theorem stmt_x {b:Nat} (h:At T i ((1,[120],a)::(5,[46],b)::r)) (blk:SC→List D×SC):(stmtS T blk ((i,none),c)).2=(wantS T [59] (valueS T (wantS T [61] (pathS T 64 (i+1,none)).2)).2,c):=by
 have n1:=opt_no h (w:=[108,101,116]) (by decide)
 have n2:=opt_no h (w:=[105,102]) (by decide)
 have n3:=opt_no h (w:=[119,104,105,108,101]) (by decide)
 have n4:=opt_no h (w:=[108,111,111,112]) (by decide)
 have n5:=opt_no h (w:=[123]) (by decide)
 have n6:=opt_no h (w:=[98,114,101,97,107]) (by decide)
 have n7:=opt_no h (w:=[99,111,110,116,105,110,117,101]) (by decide)
 have n8:=opt_no h (w:=[114,101,116,117,114,110]) (by decide)
 have n9:=opt_no h (w:=[100,114,111,112]) (by decide)
 have hc:callsS T (i,none)=false:=by simp [callsS,behindS,h.tk,h.next.tk,eqBytes_eq]
 have ht:textS T 1 (i,none)=([120],(i+1,none)):=text_yes h
 simp only [stmtS,n1,n2,n3,n4,n5,Bool.false_eq_true,if_false,plainS,n6,n7,n8,n9,hc,placeS,ht]
theorem set_one (h:At T i ((5,[61],a)::(4,[49],a+2)::(5,[59],a+3)::r)):wantS T [59] (valueS T (wantS T [61] (i,none))).2=(i+3,none):=by
 have w1:=want_yes h (.inr rfl)
 have h2:=h.next
 have h3:=h2.next
 have m1:=opt_no h2 (w:=[38]) (by decide)
 have m2:=opt_no h2 (w:=[33]) (by decide)
 have m3:=opt_no h2 (w:=[116,114,117,101]) (by decide)
 have m4:=opt_no h2 (w:=[102,97,108,115,101]) (by decide)
 have hc:callsS T (i+1,none)=false:=by simp [callsS,behindS,h2.tk]
 have hb:behindS T [123] (i+1,none)=false:=by simp [behindS,h2.tk]
 have ht:textS T 4 (i+1,none)=([49],(i+1+1,none)):=text_yes h2
 have p1:=opt_no h3 (w:=[43]) (by decide)
 have p2:=opt_no h3 (w:=[45]) (by decide)
 have p3:=opt_no h3 (w:=[60]) (by decide)
 have p4:=opt_no h3 (w:=[61,61]) (by decide)
 have w2:=want_yes h3 (.inr rfl)
 simp only [w1,valueS,m1,m2,hc,hb,Bool.false_eq_true,if_false,Bool.or_self,operS,m3,m4,h2.tk,if_true,ht,signsL,opS,p1,p2,p3,p4,w2]
end
end Go.Proofs.YtkcjphhjmlienaaGreatDoor.Qp

set_option linter.unusedVariables false
set_option linter.unusedSimpArgs false
open Go Go.Proofs.YtkcjphhjmlienaaGreatDoor.Ai Go.Proofs
namespace Go.Proofs.YtkcjphhjmlienaaGreatDoor.Qp
section
variable {N:Nat}
theorem at0 (l:List Tok):At l 0 l:=rfl
theorem crate_of {s:Bs} {l:List Tok} (hN:s.length<N) (hb:blankN false s=0) (h:LxA s 0 l) {e:Er3} (he:(itemsS (l++[(0,[],s.length)]) 256 0).2=e):(crateS N s).2=e:=by
 unfold crateS
 rw [lexT_of hN hb h]
 simp only [crateT]
 cases e with
 | none=>rw [he];first | done | exact he
 | some q=>rw [he]
theorem fnH_noB (r:Bs):blankN false (fnH++r)=0:=noB_c _ rfl
theorem one_item {T:List Tok} {a:Nat} {r:List Tok} {b:Nat} (h:At T 0 (headT a++((5,[123],b)::r))) {e:Er} {j c:Nat} (hb:(blockS T 64 ((4,none),0)).2=((j,e),c)) (he:(inS (a:Int) e).isSome=true):(itemsS T 256 0).2=inS (a:Int) e:=by
 have h0:At T 0 ((2,[102,110],a)::(1,[102],a+3)::(5,[40],a+4)::(5,[41],a+5)::(5,[123],b)::r):=h
 obtain ⟨_,h2,h3,_⟩:=item_fn h (by decide)
 rw [show (0:Nat)+4=4 from rfl,hb] at h2 h3
 obtain ⟨q,hq⟩:=Option.isSome_iff_exists.1 he
 rw [show (256:Nat)=255+1 from rfl,items_err h0 (by decide) (q:=q) (by rw [h3];exact hq),hq]
theorem one_ok {T:List Tok} {a:Nat} {r:List Tok} {b:Nat} (h:At T 0 (headT a++((5,[123],b)::r))) {j c d:Nat} (hb:(blockS T 64 ((4,none),0)).2=((j,none),c)) (hj:At T j [(0,[],d)]):(itemsS T 256 0).2=none:=by
 have h0:At T 0 ((2,[102,110],a)::(1,[102],a+3)::(5,[40],a+4)::(5,[41],a+5)::(5,[123],b)::r):=h
 obtain ⟨_,h2,h3,_⟩:=item_fn h (by decide)
 rw [show (0:Nat)+4=4 from rfl,hb] at h2 h3
 rw [show (256:Nat)=255+1 from rfl,items_next h0 (by decide) h3,h2,items_end hj]
theorem blocks_len (k:Nat):(tBlocks k).length=7+k+k:=by simp [tBlocks,fnH];omega
theorem blocks_64 (hN:3000≤N):(crateS N (tBlocks 64)).2=none:=by
 refine crate_of (by rw [blocks_len];omega) (by unfold tBlocks;rw [List.append_assoc];exact fnH_noB _) (lx_blocks 63) ?_
 generalize (tBlocks 64).length=d
 have h0:=at0 (headT 0++(repT 123 (63+1) 7++repT 125 (63+1) (7+(63+1)))++[(0,[],d)])
 generalize hT:headT 0++(repT 123 (63+1) 7++repT 125 (63+1) (7+(63+1)))++[(0,[],d)]=T at h0 ⊢
 have h1:At T 0 (headT 0++((5,[123],7)::(repT 123 63 8++(repT 125 64 71++[(0,[],d)])))):=by
  rw [← hT];rfl
 have h2:At T 4 (repT 123 (63+1) 7++(repT 125 (63+1) (7+63+1)++[(0,[],d)])):=h1.nexts
 have hb:=block_ok_deep 63 64 4 7 0 _ (by decide) (by decide) h2
 have h3:=h2.nexts.nexts
 rw [repT_len,repT_len] at h3
 exact one_ok h1 hb h3
theorem blocks_65 (hN:3000≤N):(crateS N (tBlocks 65)).2=some (6,0,some 71):=by
 refine crate_of (by rw [blocks_len];omega) (by unfold tBlocks;rw [List.append_assoc];exact fnH_noB _) (lx_blocks 64) ?_
 generalize (tBlocks 65).length=d
 have h0:=at0 (headT 0++(repT 123 (64+1) 7++repT 125 (64+1) (7+(64+1)))++[(0,[],d)])
 generalize hT:headT 0++(repT 123 (64+1) 7++repT 125 (64+1) (7+(64+1)))++[(0,[],d)]=T at h0 ⊢
 have h1:At T 0 (headT 0++((5,[123],7)::(repT 123 64 8++(repT 125 65 72++[(0,[],d)])))):=by
  rw [← hT];rfl
 have h2:At T 4 (repT 123 (64+1) 7++(repT 125 65 72++[(0,[],d)])):=h1.nexts
 obtain ⟨j,c,hb⟩:=block_too_deep 64 4 7 0 _ (by decide) h2
 exact one_item h1 hb rfl
theorem stars_len:∀ k,(tStars k).length=7+2 * k
 | 0=>rfl
 | k+1=>by simp only [tStars,List.length_cons,stars_len k];omega
theorem path_len (k:Nat):(tPath k).length=17+2 * k:=by simp only [tPath,fnH,List.length_append,List.length_cons,List.length_nil,stars_len];omega
theorem lStars_at:∀ (k a:Nat),∃ c,lStars k a=lStars k a∧(lStars k a).length=2 * k+4∧c=0
 | k,a=>⟨0,rfl,by induction k generalizing a with | zero=>rfl | succ k ih=>simp only [lStars,List.length_cons,ih];omega,rfl⟩
theorem lStars_drop:∀ (k a:Nat),(lStars k a).drop (2 * k)=lStars 0 (a+2 * k)
 | 0,a=>rfl
 | k+1,a=>by
  rw [show 2 * (k+1)=2 * k+1+1 by omega]
  simp only [lStars,List.drop_succ_cons]
  rw [lStars_drop k (a+2),show a+2+2 * k=a+(2 * k+1+1) by omega];rfl
theorem stmts_two {T:List Tok} {i c j k:Nat} {a b:Nat} {x:Bs} {q:Int} {r:List Tok} (h:At T i ((q,x,a)::r)) (hx:(decide (q=2∨q=5)&&eqBytes x [125])=false) (hc:c<2000) (one:SC→D×SC) (h1:(one ((i,none),c+1)).2=((j,none),k)) (h2:At T j [(5,[125],b),(0,[],b+1)]) (f:Nat):(stmtsS T one (f+2) ((i,none),c)).2=((j+1,none),k):=by
 rw [stmts_step h hx hc,h1,stmts_end h2]
theorem path_64 (hN:3000≤N):(crateS N (tPath 64)).2=none:=by
 have hlen:=path_len 64
 refine crate_of (by rw [hlen];omega) (by unfold tPath;exact fnH_noB _) (lx_path 63) ?_
 rw [hlen]
 have h0:=at0 (headT 0++((5,[123],7)::(1,[120],9)::lStars (63+1) 10)++[(0,[],17+2 * 64)])
 generalize hT:headT 0++((5,[123],7)::(1,[120],9)::lStars (63+1) 10)++[(0,[],17+2 * 64)]=T at h0 ⊢
 have h1:At T 0 (headT 0++((5,[123],7)::(1,[120],9)::(5,[46],10)::(5,[42],11)::(lStars 63 12++[(0,[],145)]))):=by rw [← hT];rfl
 have h4:At T 4 ((5,[123],7)::(1,[120],9)::(5,[46],10)::(5,[42],11)::(lStars 63 12++[(0,[],145)])):=h1.nexts
 have h5:=h4.next
 have h6:At T 6 (lStars 64 10++[(0,[],145)]):=h5.next
 have hp:=path_ok 64 64 6 10 _ (Nat.le_refl _) h6
 have h7:At T 134 (lStars 0 138++[(0,[],145)]):=by
  have e:=lStars_drop 64 10
  unfold At at h6 ⊢
  rw [show 134=6+128 from rfl,← List.drop_drop,h6,List.drop_append_of_le_length (by rw [(lStars_at 64 10).choose_spec.2.1];omega),e]
 have h8:At T 134 ((5,[61],139)::(4,[49],141)::(5,[59],142)::(5,[125],144)::[(0,[],145)]):=h7
 have hs:=set_one h8
 have hb:(blockS T 64 ((4,none),0)).2=((138,none),1):=by
  rw [block_eq h4]
  exact stmts_two h5 (by decide) (by decide) _ (by rw [stmt_x h5,hp];exact congrArg (fun x=>(x,1)) hs) (h8.next.next.next) 1999
 exact one_ok h1 hb (h8.next.next.next.next)
theorem path_65 (hN:3000≤N):(crateS N (tPath 65)).2=some (5,0,some 139):=by
 have hlen:=path_len 65
 refine crate_of (by rw [hlen];omega) (by unfold tPath;exact fnH_noB _) (lx_path 64) ?_
 generalize (tPath 65).length=d
 have h0:=at0 (headT 0++((5,[123],7)::(1,[120],9)::lStars (64+1) 10)++[(0,[],d)])
 generalize hT:headT 0++((5,[123],7)::(1,[120],9)::lStars (64+1) 10)++[(0,[],d)]=T at h0 ⊢
 have h1:At T 0 (headT 0++((5,[123],7)::(1,[120],9)::(5,[46],10)::(5,[42],11)::(lStars 64 12++[(0,[],d)]))):=by rw [← hT];rfl
 have h4:At T 4 ((5,[123],7)::(1,[120],9)::(5,[46],10)::(5,[42],11)::(lStars 64 12++[(0,[],d)])):=h1.nexts
 have h5:=h4.next
 have h6:At T 6 (lStars (64+1) 10++[(0,[],d)]):=h5.next
 obtain ⟨j,hp⟩:=path_long 64 6 10 _ h6
 have hb:(blockS T 64 ((4,none),0)).2=((j,some (5,((139:Nat):Int))),1):=by
  rw [block_eq h4,stmts_step h5 (by decide) (by decide),stmt_x h5,hp,wantS_err,valueS_err,wantS_err,stmts_err]
 exact one_item h1 hb rfl
theorem items_len:∀ k,(tItems k).length=11 * k
 | 0=>rfl
 | k+1=>by simp only [tItems,fnH,List.length_append,List.length_cons,List.length_nil,items_len k];omega
theorem items_256 (hN:3000≤N):(crateS N (tItems 256)).2=none:=
 crate_of (by rw [items_len];omega) (lx_items 256 0).2 (lx_items 256 0).1 (items_ok 256 256 0 0 _ (Nat.le_refl _) (at0 _))
theorem items_257 (hN:3000≤N):(crateS N (tItems 257)).2=some (5,2816,none):=
 crate_of (by rw [items_len];omega) (lx_items 257 0).2 (lx_items 257 0).1 (items_long 256 0 0 _ (at0 _))
theorem breaks_len:∀ k,(tBreaks k).length=7 * k+1
 | 0=>rfl
 | k+1=>by simp only [tBreaks,List.length_append,List.length_cons,List.length_nil,breaks_len k];omega
theorem stmts_len (k:Nat):(tStmts k).length=10+7 * k:=by simp only [tStmts,fnH,List.length_append,List.length_cons,List.length_nil,breaks_len];omega
theorem lBreaks_len:∀ (k a:Nat),(lBreaks k a).length=2 * k+1
 | 0,a=>rfl
 | k+1,a=>by simp only [lBreaks,List.length_cons,lBreaks_len k];omega
theorem stmts_2000 (hN:20000≤N):(crateS N (tStmts 2000)).2=none:=by
 refine crate_of (by rw [stmts_len];omega) (by unfold tStmts;exact fnH_noB _) (lx_stmts 2000) ?_
 generalize (tStmts 2000).length=d
 have h0:=at0 (headT 0++((5,[123],7)::lBreaks 2000 9)++[(0,[],d)])
 generalize hT:headT 0++((5,[123],7)::lBreaks 2000 9)++[(0,[],d)]=T at h0 ⊢
 have h1:At T 0 (headT 0++((5,[123],7)::(lBreaks 2000 9++[(0,[],d)]))):=by rw [← hT];rfl
 have h4:At T 4 ((5,[123],7)::(lBreaks 2000 9++[(0,[],d)])):=h1.nexts
 have h5:=h4.next
 have hb:(blockS T 64 ((4,none),0)).2=((4006,none),2000):=by
  rw [block_eq h4]
  exact breaks_ok _ (fun i a c r h=>stmt_break h _) 2000 2001 5 9 0 _ (by decide) (by decide) h5
 have h6:=h5.nexts
 rw [lBreaks_len] at h6
 exact one_ok h1 hb h6
theorem stmts_2001 (hN:20000≤N):(crateS N (tStmts 2001)).2=some (5,0,some 14009):=by
 refine crate_of (by rw [stmts_len];omega) (by unfold tStmts;exact fnH_noB _) (lx_stmts 2001) ?_
 generalize (tStmts 2001).length=d
 have h0:=at0 (headT 0++((5,[123],7)::lBreaks 2001 9)++[(0,[],d)])
 generalize hT:headT 0++((5,[123],7)::lBreaks 2001 9)++[(0,[],d)]=T at h0 ⊢
 have h1:At T 0 (headT 0++((5,[123],7)::(lBreaks 2001 9++[(0,[],d)]))):=by rw [← hT];rfl
 have h4:At T 4 ((5,[123],7)::(lBreaks 2001 9++[(0,[],d)])):=h1.nexts
 have h5:=h4.next
 obtain ⟨j,hb⟩:=breaks_long (stmtS T (blockS T 63)) (fun i a c r h=>stmt_break h _) 2000 2001 5 9 0 _ (by decide) (by decide) h5
 have hb:(blockS T 64 ((4,none),0)).2=((j,some (5,((14009:Nat):Int))),2000):=by
  rw [block_eq h4];exact hb
 exact one_item h1 hb rfl
theorem type_of {s:Bs} {l:List Tok} (hN:s.length<N) (hb:blankN false s=0) (h:LxA s 0 l) {σ:St} (he:(typS (l++[(0,[],s.length)]) 64 (0,none)).2=σ) (hσ:σ.2=none→(tk (l++[(0,[],s.length)]) σ.1).1=0):(typeS N s).2=σ.2:=by
 unfold typeS
 rw [lexT_of hN hb h]
 obtain ⟨j,o⟩:=σ
 cases o with
 | none=>simp only [he,hσ rfl,if_true]
 | some e=>
  simp only [he]
  split
  ·rw [if_neg (by simp)]
  ·rw [if_neg (by simp [failS])];rfl
theorem refs_len (k:Nat):(tRefs k).length=k+3:=by simp [tRefs]
theorem refs_noB (k:Nat):blankN false (tRefs k)=0:=by cases k <;> exact noB_c _ rfl
theorem refs_63 (hN:3000≤N):(typeS N (tRefs 63)).2=none:=by
 have h:=type_of (by rw [refs_len];omega) (refs_noB 63) (lx_refs 63) (refs_ok 63 64 0 0 63 _ (by decide) (by rw [List.append_assoc];exact at0 _)) (fun _=>?_) (N:=N)
 ·exact h
 ·have h0:At (repT 38 63 0++[(2,[105,110,116],63)]++[(0,[],(tRefs 63).length)]) 0 (repT 38 63 0++([(2,[105,110,116],63)]++[(0,[],(tRefs 63).length)])):=by rw [List.append_assoc];exact at0 _
  have h1:=h0.nexts.nexts
  rw [repT_len] at h1
  have:=h1.tk
  exact congrArg (fun x:Tok=>x.1) this
theorem refs_64 (hN:3000≤N):(typeS N (tRefs 64)).2=some (6,64):=by
 obtain ⟨j,e⟩:=refs_deep (T:=repT 38 64 0++[(2,[105,110,116],64)]++[(0,[],(tRefs 64).length)]) 64 0 0 64 _ (by rw [List.append_assoc];exact at0 _) rfl
 exact type_of (by rw [refs_len];omega) (refs_noB 64) (lx_refs 64) e (fun h=>by cases h)
end
end Go.Proofs.YtkcjphhjmlienaaGreatDoor.Qp

set_option maxRecDepth 100000
set_option linter.unusedVariables false
open Go Go.Proofs.YtkcjphhjmlienaaGreatDoor.Ai Go.Proofs
namespace Go.Proofs.YtkcjphhjmlienaaGreatDoor.Qp
noncomputable def f7_l6_b (N:Nat) (go:Bool→Int→List UInt8→Int→List UInt8→List UInt8→List UInt8→List UInt8→Int→Heap→Option (Out×(Bool×List UInt8×Int×List UInt8×List UInt8×List UInt8×List UInt8×Unit)×Heap)) (v0:Bool) (v3:Int) (v4:List UInt8) (v6:Int) (v8:List UInt8) (v10:List UInt8) (v12:List UInt8) (v13:List UInt8) (v15:Int) (h:Heap):Option (Out×(Bool×List UInt8×Int×List UInt8×List UInt8×List UInt8×List UInt8×Unit)×Heap):=
 let x39:Int:=wrapA .i64 (2000+v3)
 let x40:Bool:=ltInt v15 x39
 (bif x40 then
  (bindV (.val (.one .str)) (binStr .add v13 [98,114,101,97,107,59,32]) fun (x41:List UInt8)=>
  let x42:Int:=wrapA .i64 (v15+1)
  go v0 v3 v4 v6 v8 v10 v12 x41 x42 h)
 else
  some ((Out.exit 10),(v0,v4,v6,v8,v10,v12,v13,()),h))
noncomputable def f7_l6 (N:Nat) (M:Nat) (v0:Bool) (v3:Int) (v4:List UInt8) (v6:Int) (v8:List UInt8) (v10:List UInt8) (v12:List UInt8) (v13:List UInt8) (v15:Int) (h:Heap):Option (Out×(Bool×List UInt8×Int×List UInt8×List UInt8×List UInt8×List UInt8×Unit)×Heap):=iter (fun go s h=>f7_l6_b N (fun v0 v3 v4 v6 v8 v10 v12 v13 v15 h=>go (v0,v3,v4,v6,v8,v10,v12,v13,v15,()) h) s.1 s.2.1 s.2.2.1 s.2.2.2.1 s.2.2.2.2.1 s.2.2.2.2.2.1 s.2.2.2.2.2.2.1 s.2.2.2.2.2.2.2.1 s.2.2.2.2.2.2.2.2.1 h) M (v0,v3,v4,v6,v8,v10,v12,v13,v15,()) h
theorem f7_l6_succ (N:Nat) (M:Nat) (v0:Bool) (v3:Int) (v4:List UInt8) (v6:Int) (v8:List UInt8) (v10:List UInt8) (v12:List UInt8) (v13:List UInt8) (v15:Int) (h:Heap):f7_l6 N (M+1) v0 v3 v4 v6 v8 v10 v12 v13 v15 h=f7_l6_b N (f7_l6 N M) v0 v3 v4 v6 v8 v10 v12 v13 v15 h:=rfl
noncomputable def f7_l5_b (N:Nat) (go:Bool→Int→List UInt8→Int→List UInt8→List UInt8→List UInt8→List UInt8→Int→Heap→Option (Out×(Bool×Int×List UInt8×Int×List UInt8×List UInt8×List UInt8×List UInt8×Unit)×Heap)) (v0:Bool) (v3:Int) (v4:List UInt8) (v6:Int) (v8:List UInt8) (v10:List UInt8) (v12:List UInt8) (v13:List UInt8) (v14:Int) (h:Heap):Option (Out×(Bool×Int×List UInt8×Int×List UInt8×List UInt8×List UInt8×List UInt8×Unit)×Heap):=
 let x32:Int:=wrapA .i64 (256+v3)
 let x33:Bool:=ltInt v14 x32
 (bif x33 then
  (bindV (.val (.one .str)) (binStr .add v12 [102,110,32,102,40,41,32,123,32,125,32]) fun (x34:List UInt8)=>
  let x35:Int:=wrapA .i64 (v14+1)
  go v0 v3 v4 v6 v8 v10 x34 v13 x35 h)
 else
  some ((Out.exit 8),(v0,v3,v4,v6,v8,v10,v12,v13,()),h))
noncomputable def f7_l5 (N:Nat) (M:Nat) (v0:Bool) (v3:Int) (v4:List UInt8) (v6:Int) (v8:List UInt8) (v10:List UInt8) (v12:List UInt8) (v13:List UInt8) (v14:Int) (h:Heap):Option (Out×(Bool×Int×List UInt8×Int×List UInt8×List UInt8×List UInt8×List UInt8×Unit)×Heap):=iter (fun go s h=>f7_l5_b N (fun v0 v3 v4 v6 v8 v10 v12 v13 v14 h=>go (v0,v3,v4,v6,v8,v10,v12,v13,v14,()) h) s.1 s.2.1 s.2.2.1 s.2.2.2.1 s.2.2.2.2.1 s.2.2.2.2.2.1 s.2.2.2.2.2.2.1 s.2.2.2.2.2.2.2.1 s.2.2.2.2.2.2.2.2.1 h) M (v0,v3,v4,v6,v8,v10,v12,v13,v14,()) h
theorem f7_l5_succ (N:Nat) (M:Nat) (v0:Bool) (v3:Int) (v4:List UInt8) (v6:Int) (v8:List UInt8) (v10:List UInt8) (v12:List UInt8) (v13:List UInt8) (v14:Int) (h:Heap):f7_l5 N (M+1) v0 v3 v4 v6 v8 v10 v12 v13 v14 h=f7_l5_b N (f7_l5 N M) v0 v3 v4 v6 v8 v10 v12 v13 v14 h:=rfl
noncomputable def f7_l4_b (N:Nat) (go:Bool→Int→List UInt8→Int→List UInt8→List UInt8→Int→Heap→Option (Out×(Bool×Int×List UInt8×Int×List UInt8×List UInt8×Unit)×Heap)) (v0:Bool) (v3:Int) (v4:List UInt8) (v6:Int) (v8:List UInt8) (v10:List UInt8) (v11:Int) (h:Heap):Option (Out×(Bool×Int×List UInt8×Int×List UInt8×List UInt8×Unit)×Heap):=
 let x25:Int:=wrapA .i64 (64+v3)
 let x26:Bool:=ltInt v11 x25
 (bif x26 then
  (bindV (.val (.one .str)) (binStr .add v10 [46,42]) fun (x27:List UInt8)=>
  let x28:Int:=wrapA .i64 (v11+1)
  go v0 v3 v4 v6 v8 x27 x28 h)
 else
  some ((Out.exit 6),(v0,v3,v4,v6,v8,v10,()),h))
noncomputable def f7_l4 (N:Nat) (M:Nat) (v0:Bool) (v3:Int) (v4:List UInt8) (v6:Int) (v8:List UInt8) (v10:List UInt8) (v11:Int) (h:Heap):Option (Out×(Bool×Int×List UInt8×Int×List UInt8×List UInt8×Unit)×Heap):=iter (fun go s h=>f7_l4_b N (fun v0 v3 v4 v6 v8 v10 v11 h=>go (v0,v3,v4,v6,v8,v10,v11,()) h) s.1 s.2.1 s.2.2.1 s.2.2.2.1 s.2.2.2.2.1 s.2.2.2.2.2.1 s.2.2.2.2.2.2.1 h) M (v0,v3,v4,v6,v8,v10,v11,()) h
theorem f7_l4_succ (N:Nat) (M:Nat) (v0:Bool) (v3:Int) (v4:List UInt8) (v6:Int) (v8:List UInt8) (v10:List UInt8) (v11:Int) (h:Heap):f7_l4 N (M+1) v0 v3 v4 v6 v8 v10 v11 h=f7_l4_b N (f7_l4 N M) v0 v3 v4 v6 v8 v10 v11 h:=rfl
noncomputable def f7_l3_b (N:Nat) (go:Bool→Int→List UInt8→Int→List UInt8→Int→Heap→Option (Out×(Bool×Int×List UInt8×Int×List UInt8×Unit)×Heap)) (v0:Bool) (v3:Int) (v4:List UInt8) (v6:Int) (v8:List UInt8) (v9:Int) (h:Heap):Option (Out×(Bool×Int×List UInt8×Int×List UInt8×Unit)×Heap):=
 let x18:Int:=wrapA .i64 (63+v3)
 let x19:Bool:=ltInt v9 x18
 (bif x19 then
  (bindV (.val (.one .str)) (binStr .add v8 [38]) fun (x20:List UInt8)=>
  let x21:Int:=wrapA .i64 (v9+1)
  go v0 v3 v4 v6 x20 x21 h)
 else
  some ((Out.exit 4),(v0,v3,v4,v6,v8,()),h))
noncomputable def f7_l3 (N:Nat) (M:Nat) (v0:Bool) (v3:Int) (v4:List UInt8) (v6:Int) (v8:List UInt8) (v9:Int) (h:Heap):Option (Out×(Bool×Int×List UInt8×Int×List UInt8×Unit)×Heap):=iter (fun go s h=>f7_l3_b N (fun v0 v3 v4 v6 v8 v9 h=>go (v0,v3,v4,v6,v8,v9,()) h) s.1 s.2.1 s.2.2.1 s.2.2.2.1 s.2.2.2.2.1 s.2.2.2.2.2.1 h) M (v0,v3,v4,v6,v8,v9,()) h
theorem f7_l3_succ (N:Nat) (M:Nat) (v0:Bool) (v3:Int) (v4:List UInt8) (v6:Int) (v8:List UInt8) (v9:Int) (h:Heap):f7_l3 N (M+1) v0 v3 v4 v6 v8 v9 h=f7_l3_b N (f7_l3 N M) v0 v3 v4 v6 v8 v9 h:=rfl
noncomputable def f7_l2_b (N:Nat) (go:Bool→Int→List UInt8→Int→Int→Heap→Option (Out×(Bool×Int×List UInt8×Int×Unit)×Heap)) (v0:Bool) (v3:Int) (v4:List UInt8) (v6:Int) (v7:Int) (h:Heap):Option (Out×(Bool×Int×List UInt8×Int×Unit)×Heap):=
 let x11:Int:=wrapA .i64 (64+v3)
 let x12:Bool:=ltInt v7 x11
 (bif x12 then
  (bindV (.val (.one .str)) (binStr .add v4 [125]) fun (x13:List UInt8)=>
  let x14:Int:=wrapA .i64 (v7+1)
  go v0 v3 x13 v6 x14 h)
 else
  some ((Out.exit 2),(v0,v3,v4,v6,()),h))
noncomputable def f7_l2 (N:Nat) (M:Nat) (v0:Bool) (v3:Int) (v4:List UInt8) (v6:Int) (v7:Int) (h:Heap):Option (Out×(Bool×Int×List UInt8×Int×Unit)×Heap):=iter (fun go s h=>f7_l2_b N (fun v0 v3 v4 v6 v7 h=>go (v0,v3,v4,v6,v7,()) h) s.1 s.2.1 s.2.2.1 s.2.2.2.1 s.2.2.2.2.1 h) M (v0,v3,v4,v6,v7,()) h
theorem f7_l2_succ (N:Nat) (M:Nat) (v0:Bool) (v3:Int) (v4:List UInt8) (v6:Int) (v7:Int) (h:Heap):f7_l2 N (M+1) v0 v3 v4 v6 v7 h=f7_l2_b N (f7_l2 N M) v0 v3 v4 v6 v7 h:=rfl
noncomputable def f7_l1_b (N:Nat) (go:Bool→Int→List UInt8→Int→Heap→Option (Out×(Bool×Int×List UInt8×Unit)×Heap)) (v0:Bool) (v3:Int) (v4:List UInt8) (v5:Int) (h:Heap):Option (Out×(Bool×Int×List UInt8×Unit)×Heap):=
 let x3:Int:=wrapA .i64 (64+v3)
 let x4:Bool:=ltInt v5 x3
 (bif x4 then
  (bindV (.val (.one .str)) (binStr .add v4 [123]) fun (x5:List UInt8)=>
  let x6:Int:=wrapA .i64 (v5+1)
  go v0 v3 x5 x6 h)
 else
  some ((Out.exit 0),(v0,v3,v4,()),h))
noncomputable def f7_l1 (N:Nat) (M:Nat) (v0:Bool) (v3:Int) (v4:List UInt8) (v5:Int) (h:Heap):Option (Out×(Bool×Int×List UInt8×Unit)×Heap):=iter (fun go s h=>f7_l1_b N (fun v0 v3 v4 v5 h=>go (v0,v3,v4,v5,()) h) s.1 s.2.1 s.2.2.1 s.2.2.2.1 h) M (v0,v3,v4,v5,()) h
theorem f7_l1_succ (N:Nat) (M:Nat) (v0:Bool) (v3:Int) (v4:List UInt8) (v5:Int) (h:Heap):f7_l1 N (M+1) v0 v3 v4 v5 h=f7_l1_b N (f7_l1 N M) v0 v3 v4 v5 h:=rfl
noncomputable def f7 (N:Nat) (a0:Bool) (h:Heap):Option (Bool×Heap):=
 (bind2 (α:=(Bool×Int×Unit)) (
  (bif a0 then
  some ((a0,1,()),h)
  else
  some ((a0,0,()),h))) fun (j1:(Bool×Int×Unit)) h2=>
 (bind3 (f7_l1 N N j1.1 j1.2.1 [102,110,32,102,40,41,32] 0 h2) fun _ (j8:(Bool×Int×List UInt8×Unit)) h9=>
 let x10:Int:=wrapA .i64 ((Int.ofNat j8.2.2.1.length)-1)
 (bind3 (f7_l2 N N j8.1 j8.2.1 j8.2.2.1 x10 0 h9) fun _ (j16:(Bool×Int×List UInt8×Int×Unit)) h17=>
 (bind3 (f7_l3 N N j16.1 j16.2.1 j16.2.2.1 j16.2.2.2.1 [] 0 h17) fun _ (j23:(Bool×Int×List UInt8×Int×List UInt8×Unit)) h24=>
 (bind3 (f7_l4 N N j23.1 j23.2.1 j23.2.2.1 j23.2.2.2.1 j23.2.2.2.2.1 [102,110,32,102,40,41,32,123,32,120] 0 h24) fun _ (j30:(Bool×Int×List UInt8×Int×List UInt8×List UInt8×Unit)) h31=>
 (bind3 (f7_l5 N N j30.1 j30.2.1 j30.2.2.1 j30.2.2.2.1 j30.2.2.2.2.1 j30.2.2.2.2.2.1 [] [102,110,32,102,40,41,32,123,32] 0 h31) fun _ (j37:(Bool×Int×List UInt8×Int×List UInt8×List UInt8×List UInt8×List UInt8×Unit)) h38=>
 (bind3 (f7_l6 N N j37.1 j37.2.1 j37.2.2.1 j37.2.2.2.1 j37.2.2.2.2.1 j37.2.2.2.2.2.1 j37.2.2.2.2.2.2.1 j37.2.2.2.2.2.2.2.1 0 h38) fun _ (j44:(Bool×List UInt8×Int×List UInt8×List UInt8×List UInt8×List UInt8×Unit)) h45=>
 (bind2 (f27 N j44.2.1 h45) fun (x46:((SL×SL×Unit)×AV×Unit)) h47=>
 let h48:Heap:=h47.push (.row [(.slice none 0 0 0),(.slice none 0 0 0)] .own)
 (need (h48.store (h47.next,0) [(.slice x46.1.1.a x46.1.1.len x46.1.1.cap x46.1.1.sz),(.slice x46.1.2.1.a x46.1.2.1.len x46.1.2.1.cap x46.1.2.1.sz)]) fun h49=>
 (bindV (.val (.one .str)) (binStr .add j44.2.2.2.1 [105,110,116]) fun (x50:List UInt8)=>
 (bind2 (f23 N x50 h49) fun (x51:((Int×List UInt8×SL×SL×Unit)×AV×Unit)) h52=>
 let h53:Heap:=h52.push (.row [(.int .i64 0),(.str []),(.slice none 0 0 0),(.slice none 0 0 0)] .own)
 (need (h53.store (h52.next,0) [(.int .i64 x51.1.1),(.str x51.1.2.1),(.slice x51.1.2.2.1.a x51.1.2.2.1.len x51.1.2.2.1.cap x51.1.2.2.1.sz),(.slice x51.1.2.2.2.1.a x51.1.2.2.2.1.len x51.1.2.2.2.1.cap x51.1.2.2.2.1.sz)]) fun h54=>
 (bindV (.val (.one .str)) (binStr .add j44.2.2.2.2.1 [32,61,32,49,59,32,125]) fun (x55:List UInt8)=>
 (bind2 (f27 N x55 h54) fun (x56:((SL×SL×Unit)×AV×Unit)) h57=>
 let h58:Heap:=h57.push (.row [(.slice none 0 0 0),(.slice none 0 0 0)] .own)
 (need (h58.store (h57.next,0) [(.slice x56.1.1.a x56.1.1.len x56.1.1.cap x56.1.1.sz),(.slice x56.1.2.1.a x56.1.2.1.len x56.1.2.1.cap x56.1.2.1.sz)]) fun h59=>
 (bind2 (f27 N j44.2.2.2.2.2.1 h59) fun (x60:((SL×SL×Unit)×AV×Unit)) h61=>
 let h62:Heap:=h61.push (.row [(.slice none 0 0 0),(.slice none 0 0 0)] .own)
 (need (h62.store (h61.next,0) [(.slice x60.1.1.a x60.1.1.len x60.1.1.cap x60.1.1.sz),(.slice x60.1.2.1.a x60.1.2.1.len x60.1.2.1.cap x60.1.2.1.sz)]) fun h63=>
 (bindV (.val (.one .str)) (binStr .add j44.2.2.2.2.2.2.1 [125]) fun (x64:List UInt8)=>
 (bind2 (f27 N x64 h63) fun (x65:((SL×SL×Unit)×AV×Unit)) h66=>
 let h67:Heap:=h66.push (.row [(.slice none 0 0 0),(.slice none 0 0 0)] .own)
 (need (h67.store (h66.next,0) [(.slice x65.1.1.a x65.1.1.len x65.1.1.cap x65.1.1.sz),(.slice x65.1.2.1.a x65.1.2.1.len x65.1.2.1.cap x65.1.2.1.sz)]) fun h68=>
 let x69:Bool:=!j44.1
 (bif x69 then
  (bind2 (f22 N  h68) fun (x70:Bool) h71=>
  (bif x70 then
  (bindV (.val (.one .bool)) (binA E .eql 29 (.tmp 110) (.const .nilIface) x46.2.1 AV.nilIface) fun (x72:Bool)=>
  (bif x72 then
   (bindV (.val (.one .bool)) (binA E .eql 29 (.tmp 114) (.const .nilIface) x51.2.1 AV.nilIface) fun (x73:Bool)=>
   (bif x73 then
   (bindV (.val (.one .bool)) (binA E .eql 29 (.tmp 118) (.const .nilIface) x56.2.1 AV.nilIface) fun (x74:Bool)=>
   (bif x74 then
    (bindV (.val (.one .bool)) (binA E .eql 29 (.tmp 122) (.const .nilIface) x60.2.1 AV.nilIface) fun (x75:Bool)=>
    (bif x75 then
    (bindV (.val (.one .bool)) (binA E .eql 29 (.tmp 126) (.const .nilIface) x65.2.1 AV.nilIface) fun (x76:Bool)=>
    some (x76,h71))
    else
    some (false,h71)))
   else
    some (false,h71)))
   else
   some (false,h71)))
  else
   some (false,h71)))
  else
  some (false,h71)))
 else
  (bind2 (f22 N  h68) fun (x77:Bool) h78=>
  (bif x77 then
  (bind2 (f18 N x46.2.1 6 j44.2.2.1 h78) fun (x79:Bool) h80=>
  (bif x79 then
   (bind2 (f18 N x51.2.1 6 64 h80) fun (x81:Bool) h82=>
   (bif x81 then
   let x83:Int:=wrapA .i64 ((Int.ofNat j44.2.2.2.2.1.length)-1)
   (bind2 (f18 N x56.2.1 5 x83 h82) fun (x84:Bool) h85=>
   (bif x84 then
    (bind2 (f18 N x60.2.1 5 2816 h85) fun (x86:Bool) h87=>
    (bif x86 then
    (bind2 (f18 N x65.2.1 5 14009 h87) fun (x88:Bool) h89=>
    some (x88,h89))
    else
    some (false,h87)))
   else
    some (false,h85)))
   else
   some (false,h82)))
  else
   some (false,h80)))
  else
  some (false,h78))))))))))))))))))))))))
noncomputable def ann7:Ann:=(.two .n (.two .n (.two (.join [(0,(.one .bool)),(3,(.one (.int .i64)))] .n) (.two .n (.two (.two .n (.two (.loop [(0,(.one .bool)),(3,(.one (.int .i64))),(4,(.one .str)),(5,(.one (.int .i64)))] [(.exit 0)] [(0,(.one .bool)),(3,(.one (.int .i64))),(4,(.one .str))] .n) .n)) (.two .n (.two (.two .n (.two (.loop [(0,(.one .bool)),(3,(.one (.int .i64))),(4,(.one .str)),(6,(.one (.int .i64))),(7,(.one (.int .i64)))] [(.exit 2)] [(0,(.one .bool)),(3,(.one (.int .i64))),(4,(.one .str)),(6,(.one (.int .i64)))] .n) .n)) (.two .n (.two (.two .n (.two (.loop [(0,(.one .bool)),(3,(.one (.int .i64))),(4,(.one .str)),(6,(.one (.int .i64))),(8,(.one .str)),(9,(.one (.int .i64)))] [(.exit 4)] [(0,(.one .bool)),(3,(.one (.int .i64))),(4,(.one .str)),(6,(.one (.int .i64))),(8,(.one .str))] .n) .n)) (.two .n (.two (.two .n (.two (.loop [(0,(.one .bool)),(3,(.one (.int .i64))),(4,(.one .str)),(6,(.one (.int .i64))),(8,(.one .str)),(10,(.one .str)),(11,(.one (.int .i64)))] [(.exit 6)] [(0,(.one .bool)),(3,(.one (.int .i64))),(4,(.one .str)),(6,(.one (.int .i64))),(8,(.one .str)),(10,(.one .str))] .n) .n)) (.two .n (.two (.two .n (.two (.loop [(0,(.one .bool)),(3,(.one (.int .i64))),(4,(.one .str)),(6,(.one (.int .i64))),(8,(.one .str)),(10,(.one .str)),(12,(.one .str)),(13,(.one .str)),(14,(.one (.int .i64)))] [(.exit 8)] [(0,(.one .bool)),(3,(.one (.int .i64))),(4,(.one .str)),(6,(.one (.int .i64))),(8,(.one .str)),(10,(.one .str)),(12,(.one .str)),(13,(.one .str))] .n) .n)) (.two (.two .n (.two (.loop [(0,(.one .bool)),(3,(.one (.int .i64))),(4,(.one .str)),(6,(.one (.int .i64))),(8,(.one .str)),(10,(.one .str)),(12,(.one .str)),(13,(.one .str)),(15,(.one (.int .i64)))] [(.exit 10)] [(0,(.one .bool)),(4,(.one .str)),(6,(.one (.int .i64))),(8,(.one .str)),(10,(.one .str)),(12,(.one .str)),(13,(.one .str))] .n) .n)) .n))))))))))))))
theorem f7_ok (N:Nat):FnOK Tryz.prog 7 [(.one .bool)] (.val (.one .bool)) (fun x h=>f7 N x.1 h):=
 runK_ok envOK hmix (addCall_ok (f27_ok N) (addCall_ok (f23_ok N) (addCall_ok (f22_ok N) (addCall_ok (f18_ok N) noCalls_ok)))) (N:=N) (x:=ann7) (fn:=Tryz.f7) (c:=Tryz.f7.body.getD .skip) (by kernel_rfl) (by kernel_rfl) (by kernel_rfl) (by kernel_rfl) (fun _ _=>by kernel_rfl)
end Go.Proofs.YtkcjphhjmlienaaGreatDoor.Qp

open Go Go.Proofs.YtkcjphhjmlienaaGreatDoor.Ai Go.Proofs
open Go.RowKit (Below)
set_option maxRecDepth 100000
namespace Go.Proofs.YtkcjphhjmlienaaGreatDoor.Qy
open Qa
def h0:Heap:={ t:=Tr.set (Tr.set .nil 0 (.row [hdl] .ro)) 2 (.row [Qw.sen] .ro),next:=4,pins:=[(0,loc0),(1,loc1),(2,Qw.loc2)] }
def mu0 (l:Ai.Loc):Mu:=fun A=>if A=0 then some loc0 else if A=1 then some loc1 else if A=2 then some Qw.loc2 else if A=3 then some l else none
theorem mu0_inv {l:Ai.Loc} {A:Nat} {m:Ai.Loc} (h:mu0 l A=some m):(A=0∧m=loc0)∨(A=1∧m=loc1)∨(A=2∧m=Qw.loc2)∨(A=3∧m=l):=by
 unfold mu0 at h
 split at h
 ·cases h;exact .inl ⟨by assumption,rfl⟩
 ·split at h
  ·cases h;exact .inr (.inl ⟨by assumption,rfl⟩)
  ·split at h
   ·cases h;exact .inr (.inr (.inl ⟨by assumption,rfl⟩))
   ·split at h
    ·cases h;exact .inr (.inr (.inr ⟨by assumption,rfl⟩))
    ·cases h
theorem h0_inv {A:Nat} {b:Blk} (h:h0.t.get A=some b):(A=0∧b=.row [hdl] .ro)∨(A=2∧b=.row [Qw.sen] .ro):=by
 rcases Tr.get_set h with h | ⟨_,h⟩
 ·exact .inr h
 ·rcases Tr.get_set h with h | ⟨_,h⟩
  ·exact .inl h
  ·simp [Tr.get_nil] at h
theorem h0_rof:Rof h0:=by
 refine ⟨fun A b hA=>?_,fun A hA=>?_⟩
 ·rcases h0_inv hA with ⟨_,rfl⟩ | ⟨_,rfl⟩ <;> exact ⟨_,rfl⟩
 ·cases hb:h0.t.get A with
  | none=>rfl
  | some b=>
   have h1:(4:Nat)≤A:=hA
   rcases h0_inv hb with ⟨h,_⟩ | ⟨h,_⟩ <;> omega
theorem hr0_of {w:World} {l:Ai.Loc} (hs:7<w.heap.size) {e e':TypeId} (hsh:w.shape? 1=some (e,1)) (hc:w.cell? ⟨1,0,none⟩=some (.iface 232 (.agg #[.pointer (some ⟨7,29,none⟩)])))
  (hsh3:w.shape? 3=some (e',1)) (hc3:w.cell? ⟨3,0,none⟩=some (.iface 275 (.pointer (some ⟨l.b,l.sh,none⟩)))) (hl:l.b<w.heap.size):HR (mu0 l) h0 w:=by
 refine ⟨fun A m hA=>?_,fun A B la lb ba bb hA hB gA gB _ _ hne hb=>?_,fun A m b hA hb=>?_,fun x hx=>?_⟩
 ·rcases mu0_inv hA with ⟨rfl,rfl⟩ | ⟨rfl,rfl⟩ | ⟨rfl,rfl⟩ | ⟨rfl,rfl⟩
  ·exact ⟨by show 0<4;omega,by show 1<w.heap.size;omega⟩
  ·exact ⟨by show 1<4;omega,hs⟩
  ·exact ⟨by show 2<4;omega,by show 3<w.heap.size;omega⟩
  ·exact ⟨by show 3<4;omega,hl⟩
 ·rcases h0_inv gA with ⟨_,rfl⟩ | ⟨_,rfl⟩ <;> rcases h0_inv gB with ⟨_,rfl⟩ | ⟨_,rfl⟩ <;> exact ⟨rfl,rfl⟩
 ·rcases h0_inv hb with ⟨rfl,rfl⟩ | ⟨rfl,rfl⟩
  ·rcases mu0_inv hA with ⟨_,rfl⟩ | ⟨h,_⟩ | ⟨h,_⟩ | ⟨h,_⟩
   ·refine ⟨⟨e,hsh⟩,Nat.le_refl _,fun i x hx=>?_⟩
    cases i with
    | zero=>
     have:x=hdl:=by simpa using hx.symm
     subst this
     refine ⟨_,hc,?_⟩
     simp only [hdl,VR,VRs]
     exact ⟨_,rfl,_,rfl,_,[],rfl,⟨loc1,rfl,rfl⟩,rfl⟩
    | succ i=>simp at hx
   ·cases h
   ·cases h
   ·cases h
  ·rcases mu0_inv hA with ⟨h,_⟩ | ⟨h,_⟩ | ⟨_,rfl⟩ | ⟨h,_⟩
   ·cases h
   ·cases h
   ·refine ⟨⟨e',hsh3⟩,Nat.le_refl _,fun i x hx=>?_⟩
    cases i with
    | zero=>
     have:x=Qw.sen:=by simpa using hx.symm
     subst this
     refine ⟨_,hc3,?_⟩
     simp only [Qw.sen,VR]
     exact ⟨_,rfl,l,rfl,rfl⟩
    | succ i=>simp at hx
   ·cases h
 ·simp only [h0,List.mem_cons,List.not_mem_nil,or_false] at hx
  rcases hx with rfl | rfl | rfl <;> rfl
theorem h0_pinned:Qw.pinned h0=true:=by kernel_rfl
theorem pinned_le {h:Heap} (hl:HLe h0 h):Qw.pinned h=true∧4≤h.next:=by
 refine ⟨?_,hl.next⟩
 have h1:=h0_pinned
 have g0:h0.t.get 0=some (.row [hdl] .ro):=by kernel_rfl
 have g2:h0.t.get 2=some (.row [Qw.sen] .ro):=by kernel_rfl
 have e0:h.t.get 0=h0.t.get 0:=(hl.get 0 _ g0).trans g0.symm
 have e2:h.t.get 2=h0.t.get 2:=(hl.get 2 _ g2).trans g2.symm
 unfold Qw.pinned Qx.pinned at h1 ⊢
 rw [hl.pins,e0,e2];exact h1
end Go.Proofs.YtkcjphhjmlienaaGreatDoor.Qy

set_option linter.unusedVariables false
set_option linter.unusedSimpArgs false
open Go Go.Proofs.YtkcjphhjmlienaaGreatDoor.Ai Go.Proofs
namespace Go.Proofs.YtkcjphhjmlienaaGreatDoor.Qp
def rep (w:Bs):Nat→Bs
 | 0=>[]
 | k+1=>w++rep w k
theorem rep_len (w:Bs):∀ k,(rep w k).length=k * w.length
 | 0=>by simp [rep]
 | k+1=>by simp only [rep,List.length_append,rep_len w k];rw [Nat.add_mul];omega
theorem rep_one (c:UInt8):∀ k,rep [c] k=List.replicate k c
 | 0=>rfl
 | k+1=>by rw [rep,rep_one c k];rfl
theorem binAdd' {a b:Bs} (h:a.length+b.length≤1000000) {β:Type} (K:Bs→Option β):bindV (.val (.one .str)) (binStr .add a b) K=K (a++b):=by
 rw [binAdd (by omega)];rfl
section
variable {N:Nat} {h:Heap} {b:Bool} {n:Nat}
theorem l1_eq (hn:n≤1):∀ (k M:Nat) (v:Bs) (i:Nat),i+k=64+n→k<M→v.length+k * 1≤100000→f7_l1 N M b (n:Int) v (i:Int) h=some (.exit 0,(b,(n:Int),v++rep [123] k,()),h):=by
 intro k
 induction k with
 | zero=>
  intro M v i hi hM hv
  obtain ⟨M,rfl⟩:∃ m,M=m+1:=⟨M-1,by omega⟩
  rw [f7_l1_succ];unfold f7_l1_b
  rw [show wrapA .i64 (64+(n:Int))=((64+n:Nat):Int) by rw [wrapA_small (by omega) (by omega)];omega]
  dsimp only
  rw [lt_nat',decide_eq_false (by omega)]
  simp only [cond_false,rep,List.append_nil]
 | succ k ih=>
  intro M v i hi hM hv
  obtain ⟨M,rfl⟩:∃ m,M=m+1:=⟨M-1,by omega⟩
  rw [f7_l1_succ];unfold f7_l1_b
  rw [show wrapA .i64 (64+(n:Int))=((64+n:Nat):Int) by rw [wrapA_small (by omega) (by omega)];omega]
  dsimp only
  rw [lt_nat',decide_eq_true (by omega)]
  simp only [cond_true]
  rw [binAdd' (by simp only [List.length_cons,List.length_nil];omega)]
  simp only [wrap_succ (show i≤4000000000 by omega)]
  rw [ih M _ (i+1) (by omega) (by omega) (by simp only [List.length_append,List.length_cons,List.length_nil];omega)]
  simp only [rep,List.append_assoc]
theorem l2_eq (hn:n≤1) (p:Int):∀ (k M:Nat) (v:Bs) (i:Nat),i+k=64+n→k<M→v.length+k * 1≤100000→f7_l2 N M b (n:Int) v p (i:Int) h=some (.exit 2,(b,(n:Int),v++rep [125] k,p,()),h):=by
 intro k
 induction k with
 | zero=>
  intro M v i hi hM hv
  obtain ⟨M,rfl⟩:∃ m,M=m+1:=⟨M-1,by omega⟩
  rw [f7_l2_succ];unfold f7_l2_b
  rw [show wrapA .i64 (64+(n:Int))=((64+n:Nat):Int) by rw [wrapA_small (by omega) (by omega)];omega]
  dsimp only
  rw [lt_nat',decide_eq_false (by omega)]
  simp only [cond_false,rep,List.append_nil]
 | succ k ih=>
  intro M v i hi hM hv
  obtain ⟨M,rfl⟩:∃ m,M=m+1:=⟨M-1,by omega⟩
  rw [f7_l2_succ];unfold f7_l2_b
  rw [show wrapA .i64 (64+(n:Int))=((64+n:Nat):Int) by rw [wrapA_small (by omega) (by omega)];omega]
  dsimp only
  rw [lt_nat',decide_eq_true (by omega)]
  simp only [cond_true]
  rw [binAdd' (by simp only [List.length_cons,List.length_nil];omega)]
  simp only [wrap_succ (show i≤4000000000 by omega)]
  rw [ih M _ (i+1) (by omega) (by omega) (by simp only [List.length_append,List.length_cons,List.length_nil];omega)]
  simp only [rep,List.append_assoc]
theorem l3_eq (hn:n≤1) (s:Bs) (p:Int):∀ (k M:Nat) (v:Bs) (i:Nat),i+k=63+n→k<M→v.length+k * 1≤100000→f7_l3 N M b (n:Int) s p v (i:Int) h=some (.exit 4,(b,(n:Int),s,p,v++rep [38] k,()),h):=by
 intro k
 induction k with
 | zero=>
  intro M v i hi hM hv
  obtain ⟨M,rfl⟩:∃ m,M=m+1:=⟨M-1,by omega⟩
  rw [f7_l3_succ];unfold f7_l3_b
  rw [show wrapA .i64 (63+(n:Int))=((63+n:Nat):Int) by rw [wrapA_small (by omega) (by omega)];omega]
  dsimp only
  rw [lt_nat',decide_eq_false (by omega)]
  simp only [cond_false,rep,List.append_nil]
 | succ k ih=>
  intro M v i hi hM hv
  obtain ⟨M,rfl⟩:∃ m,M=m+1:=⟨M-1,by omega⟩
  rw [f7_l3_succ];unfold f7_l3_b
  rw [show wrapA .i64 (63+(n:Int))=((63+n:Nat):Int) by rw [wrapA_small (by omega) (by omega)];omega]
  dsimp only
  rw [lt_nat',decide_eq_true (by omega)]
  simp only [cond_true]
  rw [binAdd' (by simp only [List.length_cons,List.length_nil];omega)]
  simp only [wrap_succ (show i≤4000000000 by omega)]
  rw [ih M _ (i+1) (by omega) (by omega) (by simp only [List.length_append,List.length_cons,List.length_nil];omega)]
  simp only [rep,List.append_assoc]
theorem l4_eq (hn:n≤1) (s u:Bs) (p:Int):∀ (k M:Nat) (v:Bs) (i:Nat),i+k=64+n→k<M→v.length+k * 2≤100000→f7_l4 N M b (n:Int) s p u v (i:Int) h=some (.exit 6,(b,(n:Int),s,p,u,v++rep [46,42] k,()),h):=by
 intro k
 induction k with
 | zero=>
  intro M v i hi hM hv
  obtain ⟨M,rfl⟩:∃ m,M=m+1:=⟨M-1,by omega⟩
  rw [f7_l4_succ];unfold f7_l4_b
  rw [show wrapA .i64 (64+(n:Int))=((64+n:Nat):Int) by rw [wrapA_small (by omega) (by omega)];omega]
  dsimp only
  rw [lt_nat',decide_eq_false (by omega)]
  simp only [cond_false,rep,List.append_nil]
 | succ k ih=>
  intro M v i hi hM hv
  obtain ⟨M,rfl⟩:∃ m,M=m+1:=⟨M-1,by omega⟩
  rw [f7_l4_succ];unfold f7_l4_b
  rw [show wrapA .i64 (64+(n:Int))=((64+n:Nat):Int) by rw [wrapA_small (by omega) (by omega)];omega]
  dsimp only
  rw [lt_nat',decide_eq_true (by omega)]
  simp only [cond_true]
  rw [binAdd' (by simp only [List.length_cons,List.length_nil];omega)]
  simp only [wrap_succ (show i≤4000000000 by omega)]
  rw [ih M _ (i+1) (by omega) (by omega) (by simp only [List.length_append,List.length_cons,List.length_nil];omega)]
  simp only [rep,List.append_assoc]
theorem l5_eq (hn:n≤1) (s u t z:Bs) (p:Int):∀ (k M:Nat) (v:Bs) (i:Nat),i+k=256+n→k<M→v.length+k * 11≤100000→f7_l5 N M b (n:Int) s p u t v z (i:Int) h=some (.exit 8,(b,(n:Int),s,p,u,t,v++rep [102,110,32,102,40,41,32,123,32,125,32] k,z,()),h):=by
 intro k
 induction k with
 | zero=>
  intro M v i hi hM hv
  obtain ⟨M,rfl⟩:∃ m,M=m+1:=⟨M-1,by omega⟩
  rw [f7_l5_succ];unfold f7_l5_b
  rw [show wrapA .i64 (256+(n:Int))=((256+n:Nat):Int) by rw [wrapA_small (by omega) (by omega)];omega]
  dsimp only
  rw [lt_nat',decide_eq_false (by omega)]
  simp only [cond_false,rep,List.append_nil]
 | succ k ih=>
  intro M v i hi hM hv
  obtain ⟨M,rfl⟩:∃ m,M=m+1:=⟨M-1,by omega⟩
  rw [f7_l5_succ];unfold f7_l5_b
  rw [show wrapA .i64 (256+(n:Int))=((256+n:Nat):Int) by rw [wrapA_small (by omega) (by omega)];omega]
  dsimp only
  rw [lt_nat',decide_eq_true (by omega)]
  simp only [cond_true]
  rw [binAdd' (by simp only [List.length_cons,List.length_nil];omega)]
  simp only [wrap_succ (show i≤4000000000 by omega)]
  rw [ih M _ (i+1) (by omega) (by omega) (by simp only [List.length_append,List.length_cons,List.length_nil];omega)]
  simp only [rep,List.append_assoc]
theorem l6_eq (hn:n≤1) (s u t z:Bs) (p:Int):∀ (k M:Nat) (v:Bs) (i:Nat),i+k=2000+n→k<M→v.length+k * 7≤100000→f7_l6 N M b (n:Int) s p u t z v (i:Int) h=some (.exit 10,(b,s,p,u,t,z,v++rep [98,114,101,97,107,59,32] k,()),h):=by
 intro k
 induction k with
 | zero=>
  intro M v i hi hM hv
  obtain ⟨M,rfl⟩:∃ m,M=m+1:=⟨M-1,by omega⟩
  rw [f7_l6_succ];unfold f7_l6_b
  rw [show wrapA .i64 (2000+(n:Int))=((2000+n:Nat):Int) by rw [wrapA_small (by omega) (by omega)];omega]
  dsimp only
  rw [lt_nat',decide_eq_false (by omega)]
  simp only [cond_false,rep,List.append_nil]
 | succ k ih=>
  intro M v i hi hM hv
  obtain ⟨M,rfl⟩:∃ m,M=m+1:=⟨M-1,by omega⟩
  rw [f7_l6_succ];unfold f7_l6_b
  rw [show wrapA .i64 (2000+(n:Int))=((2000+n:Nat):Int) by rw [wrapA_small (by omega) (by omega)];omega]
  dsimp only
  rw [lt_nat',decide_eq_true (by omega)]
  simp only [cond_true]
  rw [binAdd' (by simp only [List.length_cons,List.length_nil];omega)]
  simp only [wrap_succ (show i≤4000000000 by omega)]
  rw [ih M _ (i+1) (by omega) (by omega) (by simp only [List.length_append,List.length_cons,List.length_nil];omega)]
  simp only [rep,List.append_assoc]
end
theorem blocks_rep (k:Nat):[102,110,32,102,40,41,32]++rep [123] k++rep [125] k=tBlocks k:=by rw [rep_one,rep_one];rfl
theorem refs_rep (k:Nat):[]++rep [38] k++[105,110,116]=tRefs k:=by rw [rep_one];rfl
theorem stars_rep:∀ k,rep [46,42] k++[32,61,32,49,59,32,125]=tStars k
 | 0=>rfl
 | k+1=>by rw [tStars,← stars_rep k];rfl
theorem path_rep (k:Nat):[102,110,32,102,40,41,32,123,32,120]++rep [46,42] k++[32,61,32,49,59,32,125]=tPath k:=by
 rw [List.append_assoc,stars_rep];rfl
theorem items_rep:∀ k,rep [102,110,32,102,40,41,32,123,32,125,32] k=tItems k
 | 0=>rfl
 | k+1=>by rw [rep,items_rep k];rfl
theorem breaks_rep:∀ k,rep [98,114,101,97,107,59,32] k++[125]=tBreaks k
 | 0=>rfl
 | k+1=>by rw [tBreaks,← breaks_rep k];rfl
theorem stmts_rep (k:Nat):[102,110,32,102,40,41,32,123,32]++rep [98,114,101,97,107,59,32] k++[125]=tStmts k:=by
 rw [List.append_assoc,breaks_rep];rfl
theorem park2 (h:Heap) (a b:SL):∃ h',(∀ {β:Type} (K:Heap→Option β),need ((h.push (.row [(.slice none 0 0 0),(.slice none 0 0 0)] .own)).store (h.next,0) [(.slice a.a a.len a.cap a.sz),(.slice b.a b.len b.cap b.sz)]) K=K h')∧Chg [] h h'∧h'.own h.next [SL.av a,SL.av b]:=by
 have o:=own_push h [SL.av sl0,SL.av sl0]
 have c:=chg_push h (.row [SL.av sl0,SL.av sl0] .own)
 have hst:(h.push (.row [SL.av sl0,SL.av sl0] .own)).store (h.next,0) [SL.av a,SL.av b]=some ((h.push (.row [SL.av sl0,SL.av sl0] .own)).put h.next (.row [SL.av a,SL.av b] .own)):=o.store rfl
 refine ⟨_,fun K=>?_,c.put (.inr (Nat.le_refl _)) _,own_put o _⟩
 have e:h.push (.row [(.slice none 0 0 0),(.slice none 0 0 0)] .own)=h.push (.row [SL.av sl0,SL.av sl0] .own):=rfl
 have e2:[(AV.slice a.a a.len a.cap a.sz),(.slice b.a b.len b.cap b.sz)]=[SL.av a,SL.av b]:=rfl
 rw [e,e2,hst,need_some]
theorem ErrW.keep {h h':Heap} {v:AV} {e:Er3} (x:ErrW h v e) (c:Chg [] h h'):ErrW h' v e:=x.chg c (by simp)
theorem ErrQ.keep {h h':Heap} {v:AV} {e:Er} (x:ErrQ h v e) (c:Chg [] h h'):ErrQ h' v e:=by
 cases e with
 | none=>exact x
 | some q=>
  obtain ⟨F,f1,f2⟩:=x
  exact ⟨F,f1,f2.chg c (by simp)⟩
theorem told_w {N:Nat} {h:Heap} (hp:Qw.pinned h=true):f22 N h=some (true,h):=by
 have:Qx.pinned h=true:=by simp only [Qw.pinned,Bool.and_eq_true] at hp;exact hp.1.1
 exact f22_eq this
section
variable {h:Heap}
theorem f7_eq (hp:Qw.pinned h=true) (h4:4≤h.next) (b:Bool):∃ h',f7 20000 b h=some (true,h'):=by
 obtain ⟨n,hn,hb⟩:∃ n:Nat,n≤1∧(n:Int)=bif b then 1 else 0:=by cases b;exact ⟨0,by decide,rfl⟩;exact ⟨1,by decide,rfl⟩
 have hn0:b=false→n=0:=by rintro rfl;simp at hb;omega
 have hn1:b=true→n=1:=by rintro rfl;simp at hb;omega
 unfold f7
 have e0:(bif b then some ((b,1,()),h) else some ((b,0,()),h))=some ((b,(n:Int),()),h):=by rw [hb];cases b <;> rfl
 rw [e0,bind2_some]
 dsimp only
 have l1:=l1_eq (N:=20000) (h:=h) (b:=b) hn (64+n) 20000 [102,110,32,102,40,41,32] 0 (by omega) (by omega) (by simp only [List.length_cons,List.length_nil];omega)
 rw [show ((0:Nat):Int)=0 from rfl] at l1
 rw [l1,bind3_some]
 dsimp only
 generalize hdeep:wrapA .i64 (Int.ofNat (([102,110,32,102,40,41,32]:Bs)++rep [123] (64+n)).length-1)=deep
 have hdeep':deep=((70+n:Nat):Int):=by
  rw [← hdeep,List.length_append,rep_len]
  simp only [List.length_cons,List.length_nil,Int.ofNat_eq_natCast]
  rw [wrapA_small (by omega) (by omega)];omega
 have l2:=l2_eq (N:=20000) (h:=h) (b:=b) hn deep (64+n) 20000 ([102,110,32,102,40,41,32]++rep [123] (64+n)) 0 (by omega) (by omega) (by rw [List.length_append,rep_len];simp only [List.length_cons,List.length_nil];omega)
 rw [show ((0:Nat):Int)=0 from rfl] at l2
 rw [l2,bind3_some]
 dsimp only
 rw [blocks_rep]
 have l3:=l3_eq (N:=20000) (h:=h) (b:=b) hn (tBlocks (64+n)) deep (63+n) 20000 [] 0 (by omega) (by omega) (by simp only [List.length_nil];omega)
 rw [show ((0:Nat):Int)=0 from rfl] at l3
 rw [l3,bind3_some]
 dsimp only
 have l4:=l4_eq (N:=20000) (h:=h) (b:=b) hn (tBlocks (64+n)) ([]++rep [38] (63+n)) deep (64+n) 20000 [102,110,32,102,40,41,32,123,32,120] 0 (by omega) (by omega) (by simp only [List.length_cons,List.length_nil];omega)
 rw [show ((0:Nat):Int)=0 from rfl] at l4
 rw [l4,bind3_some]
 dsimp only
 generalize hpath:([102,110,32,102,40,41,32,123,32,120]:Bs)++rep [46,42] (64+n)=path
 have l5:=l5_eq (N:=20000) (h:=h) (b:=b) hn (tBlocks (64+n)) ([]++rep [38] (63+n)) path [102,110,32,102,40,41,32,123,32] deep (256+n) 20000 [] 0 (by omega) (by omega) (by simp only [List.length_nil];omega)
 rw [show ((0:Nat):Int)=0 from rfl] at l5
 rw [l5,bind3_some]
 dsimp only
 simp only [List.nil_append,items_rep]
 have l6:=l6_eq (N:=20000) (h:=h) (b:=b) hn (tBlocks (64+n)) ([]++rep [38] (63+n)) path (tItems (256+n)) deep (2000+n) 20000 [102,110,32,102,40,41,32,123,32] 0 (by omega) (by omega) (by simp only [List.length_cons,List.length_nil];omega)
 rw [show ((0:Nat):Int)=0 from rfl,List.nil_append] at l6
 rw [l6,bind3_some]
 dsimp only
 -- the five texts
 have n1:=blocks_len (64+n)
 obtain ⟨v1,w1,e1,h47,r1,c1,_,_,x1⟩:=f27_eq (N:=20000) (s:=tBlocks (64+n)) (by omega) (by omega) (by omega) hp h4
 rw [r1,bind2_some]
 dsimp only
 obtain ⟨h49,p49,d49,_⟩:=park2 h47 v1 w1
 rw [p49]
 have c49:=c1.trans d49
 have y1:=x1.keep d49
 rw [binAdd' (by rw [rep_len];simp only [List.length_cons,List.length_nil];omega)]
 have hr:=refs_rep (63+n)
 rw [List.nil_append] at hr
 rw [hr]
 have n2:=refs_len (63+n)
 obtain ⟨r51,h52,r2,c2,_,x2⟩:=f23_eq (N:=20000) (s:=tRefs (63+n)) (by omega) (by omega) (by omega) h49
 rw [r2,bind2_some]
 have oA0:=own_push h52 zt
 have cA0:=chg_push h52 (.row zt .own)
 have eA:h52.push (.row [(.int .i64 0),(.str []),(.slice none 0 0 0),(.slice none 0 0 0)] .own)=h52.push (.row zt .own):=rfl
 have hstA:=store4 oA0 r51.1
 rw [eA,hstA,need_some]
 have cA:Chg [] h52 ((h52.push (.row zt .own)).put h52.next (.row (tyc r51.1) .own)):=cA0.put (.inr (Nat.le_refl _)) _
 generalize (h52.push (.row zt .own)).put h52.next (.row (tyc r51.1) .own)=h54 at *
 have c54:=c49.trans (c2.trans cA)
 have y1:=y1.keep (c2.trans cA)
 have y2:=x2.keep cA
 rw [binAdd' (by rw [← hpath,List.length_append,rep_len];simp only [List.length_cons,List.length_nil];omega),← hpath,path_rep,hpath]
 have n3:=path_len (64+n)
 obtain ⟨v3,w3,e3,h57,r3,c3,_,_,x3⟩:=f27_eq (N:=20000) (s:=tPath (64+n)) (by omega) (by omega) (by omega) (pin_chg c54 (by simp) h4 hp) (Nat.le_trans h4 c54.next)
 rw [r3,bind2_some]
 dsimp only
 obtain ⟨h59,p59,d59,_⟩:=park2 h57 v3 w3
 rw [p59]
 have c59:=c3.trans d59
 have y1:=y1.keep c59
 have y2:=y2.keep c59
 have y3:=x3.keep d59
 have c59:=c54.trans c59
 have n4:=items_len (256+n)
 obtain ⟨v4,w4,e4,h61,r4,c4,_,_,x4⟩:=f27_eq (N:=20000) (s:=tItems (256+n)) (by omega) (by omega) (by omega) (pin_chg c59 (by simp) h4 hp) (Nat.le_trans h4 c59.next)
 rw [r4,bind2_some]
 dsimp only
 obtain ⟨h63,p63,d63,_⟩:=park2 h61 v4 w4
 rw [p63]
 have c63:=c4.trans d63
 have y1:=y1.keep c63
 have y2:=y2.keep c63
 have y3:=y3.keep c63
 have y4:=x4.keep d63
 have c63:=c59.trans c63
 rw [binAdd' (by rw [List.length_append,rep_len];simp only [List.length_cons,List.length_nil];omega),stmts_rep]
 have n5:=stmts_len (2000+n)
 obtain ⟨v5,w5,e5,h66,r5,c5,_,_,x5⟩:=f27_eq (N:=20000) (s:=tStmts (2000+n)) (by omega) (by omega) (by omega) (pin_chg c63 (by simp) h4 hp) (Nat.le_trans h4 c63.next)
 rw [r5,bind2_some]
 dsimp only
 obtain ⟨h68,p68,d68,_⟩:=park2 h66 v5 w5
 rw [p68]
 have c68:=c5.trans d68
 have y1:=y1.keep c68
 have y2:=y2.keep c68
 have y3:=y3.keep c68
 have y4:=y4.keep c68
 have y5:=x5.keep d68
 have c68:=c63.trans c68
 have ht:=told_w (N:=20000) (pin_chg c68 (by simp) h4 hp)
 cases b with
 | false=>
  obtain rfl:=hn0 rfl
  rw [blocks_64 (by omega)] at y1
  rw [refs_63 (by omega)] at y2
  rw [path_64 (by omega)] at y3
  rw [items_256 (by omega)] at y4
  rw [stmts_2000 (by omega)] at y5
  have y2:r51.2.1=AV.nilIface:=y2
  simp only [Bool.not_false,cond_true,ht,bind2_some,y1.eq,y3.eq,y4.eq,y5.eq,y2,eq_nil,bindV_some,cast_bool,Option.isNone_none]
  exact ⟨_,rfl⟩
 | true=>
  obtain rfl:=hn1 rfl
  rw [blocks_65 (by omega)] at y1
  rw [refs_64 (by omega)] at y2
  rw [path_65 (by omega)] at y3
  rw [items_257 (by omega)] at y4
  rw [stmts_2001 (by omega)] at y5
  have z1:=f18_w (N:=20000) y1 (by omega) 6 deep
  have z2:=f18_eq (N:=20000) y2 (r:=(6,64,())) ⟨rfl,rfl⟩ (by omega)
  have hpl:wrapA .i64 (Int.ofNat path.length-1)=139:=by
   rw [← hpath,List.length_append,rep_len]
   exact wrapA_small (by decide) (by decide)
  have z3:=f18_w (N:=20000) y3 (by omega) 5 139
  have z4:=f18_w (N:=20000) y4 (by omega) 5 2816
  have z5:=f18_w (N:=20000) y5 (by omega) 5 14009
  rw [decide_eq_true (by rw [hdeep'];rfl)] at z1
  rw [decide_eq_true (by rfl)] at z3 z4 z5
  dsimp only at z2
  simp only [Bool.not_true,cond_false,ht,bind2_some,cond_true,z1,z2,hpl,z3,z4,z5]
  exact ⟨_,rfl⟩
end
theorem deeplaw_true {H:Type} (h:Heap) (hp:Qw.pinned h=true) (h2:4≤h.next) (vs:List AV) (ds:List (DataW H)) (hr:RdArgs Tryz.prog h [4] vs ds):∃ xs h',VTy.tos [.one .bool] xs=vs∧(fun (x:vdens [.one .bool]) h=>f7 20000 x.1 h) xs h=some (true,h'):=by
 obtain ⟨cs1,d1,vs1,ds1,rfl,rfl,r1,hr⟩:=hr.cons_inv
 obtain ⟨rfl,rfl⟩:=hr.nil_inv
 obtain ⟨s,rfl,rfl⟩:=r1.bool_inv Tryz.underlying4
 obtain ⟨h',e⟩:=f7_eq hp h2 s
 refine ⟨(s,()),h',?_,e⟩
 have:∀ v,argOf Tryz.prog 4 [v]=v:=by intro v;kernel_rfl
 rw [this];rfl
end Go.Proofs.YtkcjphhjmlienaaGreatDoor.Qp

set_option maxRecDepth 100000
open Go Go.Proofs.YtkcjphhjmlienaaGreatDoor.Ai Go.Proofs
open Go.ChangeShapes Go.WideShapes
namespace Go.Proofs.YtkcjphhjmlienaaGreatDoor.Qp
open Go.Proofs.YtkcjphhjmlienaaGreatDoor
theorem et:Tryz.prog.globalNamed "errors.errorType" = some 1:=by kernel_rfl
theorem gS:Tryz.prog.globalNamed "strconv.ErrSyntax" = some 3:=by kernel_rfl
theorem gSt:(Tryz.prog.globals[3]?).map (·.type)=some 29:=by kernel_rfl
theorem rt:(Tryz.prog.cutTypes.find? (·.1 == "internal/reflectlite.rtype")).map (·.2)=some 232:=by kernel_rfl
theorem oneRow:((List.range 306).filter fun t=>Tryz.prog.rowNamed t [101,114,114,111,114])=[29]:=by kernel_rfl
theorem tsize:Tryz.prog.types.size=306:=by kernel_rfl
theorem hand:typeHandle Tryz.prog 29=.pointer (some ⟨7,29,none⟩):=by kernel_rfl
theorem star : "*" ++ "errors.errorString" = "*errors.errorString":=by decide
theorem row275 (u:TypeId) (h:Tryz.prog.typeName? 3 u=some "*errors.errorString"):u=275:=
 typeName_ptr_named (nm:= "errors.errorString") (by rw [star];kernel_rfl) (by kernel_rfl) (by decide) u (by rw [star];exact h)
theorem und29:∃ ms,Tryz.prog.underlying 29=some (.interface ms):=by
 have:(match Tryz.prog.underlying 29 with | some (.interface _)=>true | _=>false)=true:=by kernel_rfl
 split at this
 ·exact ⟨_,by assumption⟩
 ·cases this
theorem und275:Tryz.prog.underlying 275=some (.pointer 277):=by kernel_rfl
theorem und277:∃ f:Field,Tryz.prog.underlying 277=some (.struct #[f])∧f.type=9∧f.offset=0:=by
 have:(match Tryz.prog.underlying 277 with | some (.struct fs)=>(match fs.toList with | [f]=>Nat.beq f.type 9&&Nat.beq f.offset 0 | _=>false) | _=>false)=true:=by kernel_rfl
 split at this
 ·rename_i fs hfs
  split at this
  ·rename_i f hf
   simp only [Bool.and_eq_true] at this
   have:fs = #[f]:=by rw [← Array.toList_inj,hf]
   subst this
   exact ⟨f,hfs,Nat.eq_of_beq_eq_true (by simp_all),Nat.eq_of_beq_eq_true (by simp_all)⟩
  ·cases this
 ·cases this
theorem undS9:Tryz.prog.underlying 9=some .string:=by kernel_rfl
theorem c277:Tryz.prog.cellsOf 277=1:=by kernel_rfl
theorem cS9:Tryz.prog.cellsOf 9=1:=by kernel_rfl
theorem var_of {W:World} (h:laidMetH Tryz.prog Rows.parseDeepRow.laid W):W.var? Tryz.prog "errors.errorType" = some #[.iface 232 (.agg #[.pointer (some ⟨7,29,none⟩)])]:=by
 have h':laidMet Tryz.prog (Rows.parseDeepRow.laid.filter fun x=>x.2.handleName?.isNone) W∧handlesMet Tryz.prog [("errors.errorType",Rows.laid_errors_errorType)] W:=h
 have h2:=h'.2 _ (List.mem_singleton.2 rfl)
 obtain ⟨name,u,ty,e1,e2,e3,e4,e5⟩:=h2
 have en:name=[101,114,114,111,114]:=(Option.some.inj e1).symm
 subst en
 obtain rfl:=Option.some.inj (rt.symm.trans e2)
 have hm:ty∈(List.range 306).filter fun t=>Tryz.prog.rowNamed t [101,114,114,111,114]:=List.mem_filter.2 ⟨List.mem_range.2 (by rw [← tsize];exact e3),e4⟩
 rw [oneRow] at hm
 obtain rfl:=List.mem_singleton.1 hm
 rw [hand] at e5
 exact e5
theorem sen_of {W:World} (h:laidMetH Tryz.prog Rows.parseDeepRow.laid W):∃ (a:Addr) (s:ByteArray),W.var? Tryz.prog "strconv.ErrSyntax" = some #[.iface 275 (.pointer (some a))]∧W.cell? a=some (.string s):=by
 have h':laidMet Tryz.prog [("math/bits.deBruijn32tab",Rows.laid_math_bits_deBruijn32tab),("math/bits.deBruijn64tab",Rows.laid_math_bits_deBruijn64tab),("internal/strconv.uint64pow10",Rows.laid_internal_strconv_uint64pow10),("strconv.ErrRange",Rows.laid_strconv_ErrRange),("strconv.ErrSyntax",Rows.laid_strconv_ErrSyntax)] W∧handlesMet Tryz.prog [("errors.errorType",Rows.laid_errors_errorType)] W:=h
 obtain ⟨ms,hms⟩:=und29
 obtain ⟨f,hf,hft,hfo⟩:=und277
 obtain ⟨a,s,h1,h2,_⟩:=laid_sentinel h'.1.tail.tail.tail.tail gS gSt hms row275 und275 hf hft hfo undS9 c277 cS9
 exact ⟨a,s,h1,h2⟩
theorem big:7<(begin Tryz.prog (fun _ _=>0) default).world.heap.size:=by
 have:Nat.blt 7 (begin Tryz.prog (fun _ _=>0) default).world.heap.size=true:=by kernel_rfl
 simpa [Nat.blt_eq] using this
theorem gsize:Tryz.prog.globals.size=7:=by kernel_rfl
theorem var_shape {W:World} {n:String} {g:Nat} {v:Value} (hg:Tryz.prog.globalNamed n=some g) (hv:W.var? Tryz.prog n=some #[v]):∃ e,W.shape? g=some (e,1):=by
 unfold World.var? at hv
 rw [hg] at hv
 have hv:(match W.heap[g]? with | some (Obj.cells cs _ _)=>some cs | _=>(Option.none:Option (Array Value)))=some #[v]:=hv
 cases hq:W.heap[g]? with
 | none=>rw [hq] at hv;cases hv
 | some o=>
  rw [hq] at hv
  cases o with
  | cells cs e fz=>
   simp only [Option.some.injEq] at hv
   subst hv
   exact ⟨e,by simp only [World.shape?,hq];rfl⟩
  | _=>cases hv
def locOf (W:World):Ai.Loc:=match W.cell? ⟨3,0,none⟩ with
 | some (.iface _ (.pointer (some a)))=>⟨a.block,a.off,0,false⟩
 | _=>⟨0,0,0,false⟩
theorem start_hr {W:World} (h:laidMetH Tryz.prog Rows.parseDeepRow.laid W) (hs:W.ShapedOpen Tryz.prog):HR (Qy.mu0 (locOf W)) Qy.h0 W:=by
 have hv:=var_of h
 have hc:W.cell? ⟨1,0,none⟩=some (.iface 232 (.agg #[.pointer (some ⟨7,29,none⟩)])):=by simpa using World.var?_cell et hv 0
 obtain ⟨o,_,ho,_⟩:=hs.2 7 (by rw [gsize];omega) big
 have h7:7<W.heap.size:=(Array.getElem?_eq_some_iff.1 ho).1
 obtain ⟨e1,s1⟩:=var_shape et hv
 obtain ⟨a,s,hv3,hca⟩:=sen_of h
 have hc3:W.cell? ⟨3,0,none⟩=some (.iface 275 (.pointer (some a))):=by simpa using World.var?_cell gS hv3 0
 obtain ⟨e3,s3⟩:=var_shape gS hv3
 have hl:locOf W=⟨a.block,a.off,0,false⟩:=by unfold locOf;rw [hc3]
 have ha:a=⟨a.block,a.off,none⟩∧a.block<W.heap.size:=by
  unfold World.cell? at hca
  cases hq:W.heap[a.block]? with
  | none=>rw [hq] at hca;cases hca
  | some o=>
   rw [hq] at hca
   cases o with
   | cells cs e fz=>
    obtain ⟨ab,ao,sp⟩:=a
    cases sp with
    | some x=>simp at hca
    | none=>exact ⟨rfl,(Array.getElem?_eq_some_iff.1 hq).1⟩
   | _=>cases hca
 rw [hl]
 exact Qy.hr0_of h7 s1 hc s3 (by rw [hc3];simp only;rw [← ha.1]) ha.2
theorem start_pinned {h:Heap} (hl:HLe Qy.h0 h):Qw.pinned h=true∧4≤h.next:=Qy.pinned_le hl
end Go.Proofs.YtkcjphhjmlienaaGreatDoor.Qp
