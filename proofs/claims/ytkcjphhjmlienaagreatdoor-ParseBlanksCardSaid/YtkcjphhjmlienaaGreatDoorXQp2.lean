import Derived.Test.YtkcjphhjmlienaaGreatDoorXQp1
import Derived.Test.YtkcjphhjmlienaaGreatDoorProg
import Derived.Test.YtkcjphhjmlienaaGreatDoorAi3
/- Functions of the program as plain functions, and what they come to; part 2. -/
namespace Go.Proofs.YtkcjphhjmlienaaGreatDoor
set_option linter.unusedVariables false
set_option linter.unusedSimpArgs false
set_option maxRecDepth 100000
open Go Ai Go.Proofs
namespace Qp
noncomputable section
def f154 (N:Nat) (a0:zO2) (h:Heap):Option (zV×Heap):=let h1:=h.push (.row yZF .own);(lA (f94 N a0 1 h1) fun (x2:zV2) h3=>let h4:=h3.push (.row yZF .own);(rA (h4.store (h3.next,0) [(.bool false),(.str x2),(.int .i64 0),(.str []),(.slice none 0 0 0),(.slice none 0 0 0)]) fun h5=>(lA (f149 N a0 [58] h5) fun (x6:(Unit)) h7=>(lA (f55 N N a0 1 h7) fun (x8:zM) h9=>(rA (h9.store ((h3.next,0).1,(h3.next,0).2+2) (yRD x8)) fun h10=>(iA (.val zI) (h10.cells (h3.next,0) 6) fun (x11:zV)=>(rA (h10.store (h.next,0) (yRF x11)) fun h12=>(iA (.val zI) (h12.cells (h.next,0) 6) fun (x13:zV)=>some ((x13.1,x13.2.1,x13.2.2.1,x13.2.2.2.1,x13.2.2.2.2.1,x13.2.2.2.2.2.1,()),h12)))))))))
def yB8:Ann:=.n
theorem yAe (N:Nat):jD Tryz.prog 154 [zP2] (.val zI) (fun x h=>f154 N x.1 h):=qD (bA (uN N) (bA (kAp N) (bA (nJ N) kA))) N yB8 Tryz.f154
def f153 (N:Nat) (a0 a1:zO2) (h:Heap):Option ((Unit)×Heap):=(rA a0 fun q1=>(iA (.val zQ2) (h.cell (q1.1,q1.2+3)) fun (x2:SL)=>(rA a1 fun q3=>(iA (.val zP2) (h.cell q3) fun (x4:zO2)=>(lA (f154 N x4 h) fun (x5:zV) h6=>let h7:=h6.push (.row (yRF x5) .own);(tD (.val zQ2) (fB E 37 37 (.slice x2.a x2.len x2.cap x2.sz) (.slice (some (h6.next,0)) 1 1 6) h7) fun (x8:SL) h9=>(rA a0 fun q10=>(rA (h9.store (q10.1,q10.2+3) [(.slice x8.a x8.len x8.cap x8.sz)]) fun h11=>(cE (bif (rE a1 fun q=>mB (h.cell q) (.ptr x4)) then (bif (mB (h7.cell (q1.1,q1.2+3)) (.slice x2.a x2.len x2.cap x2.sz)) then (bif (mB (h6.cell (q1.1,q1.2+3)) (.slice x2.a x2.len x2.cap x2.sz)) then (bif (mB (h.cell (q1.1,q1.2+3)) (.slice x2.a x2.len x2.cap x2.sz)) then true else false) else false) else false) else false) ( some ((()),h11)))))))))))
def aB9:Ann:=.n
theorem qB1 (N:Nat):jD Tryz.prog 153 [zP2,zP2] (.tup []) (fun x h=>f153 N x.1 x.2.1 h):=qD (bA (yAe N) kA) N aB9 Tryz.f153
def aM (N:Nat) (go:zO2→zV2→zO→Int→Heap→Option (Out×(Unit)×Heap)) (v0:zO2) (v1:zV2) (v2:zO) (v6:Int) (h:Heap):Option (Out×(Unit)×Heap):=(lA (f188 N v0 v6 h) fun (x1:Bool) h2=>(bif x1 then(lA (f153 N v2.1 v2.2.1 h2) fun (x3:(Unit)) h4=>(lA (f93 N v0 v1 h4) fun (x5:Bool) h6=>let x7:=!x5;(bif x7 then some (Out.ret,(()),h6)else let x8:=wA .i64 (v6+1);go v0 v1 (v2.1,v2.2.1,()) x8 h6)))else some ((Out.exit 0),(()),h2)))
def bM (N M:Nat) (v0:zO2) (v1:zV2) (v2:zO) (v6:Int) (h:Heap):Option (Out×(Unit)×Heap):=iter (fun go s h=>aM N (fun v0 v1 v2 v6 h=>go (v0,v1,v2,v6,()) h) s.1 s.2.1 s.2.2.1 s.2.2.2.1 h) M (v0,v1,v2,v6,()) h
theorem pX (N M v0 v1 v2 v6 h):bM N (M+1) v0 v1 v2 v6 h=aM N (bM N M) v0 v1 v2 v6 h:=rfl
def tY (N:Nat) (a0:zO2) (a1:zV2) (a2:zO) (h:Heap):Option ((Unit)×Heap):=(pD (bM N N a0 a1 (a2.1,a2.2.1,()) 0 h) fun o9 (j10:(Unit)) h11=>(bif uD o9 (.exit 0) then some ((()),h11)else some ((()),h11)))
def kAl:Ann:=(.two .n (.two (.loop [(0,zP2),(1,zR2),(2,(.clo 153 [.ptr,.ptr])),(6,zT2)] [(.exit 0),.ret] [] .n) .n))
theorem aAf (N:Nat):jD Tryz.prog 147 [zP2,zR2,(.clo 153 [.ptr,.ptr])] (.tup []) (fun x h=>tY N x.1 x.2.1 x.2.2.1 h):=qD (bA (nG N) (bA (vN N) (bA (qB1 N) kA))) N kAl Tryz.f147
def f102 (N:Nat) (a0:zO2) (a1:Bool) (a2:Int) (h:Heap):Option (zW×Heap):=let h1:=h.push (.row [(.ptr a0)] .own);let h2:=h1.push (.row yZG .own);(iA (.val zP2) (h2.cell (h.next,0)) fun (x3:zO2)=>(lA (f94 N x3 1 h2) fun (x4:zV2) h5=>let h6:=h5.push (.row yZG .own);(rA (h6.store (h5.next,0) [(.bool a1),(.str x4),(.slice none 0 0 0),(.slice none 0 0 0),(.int .i64 a2)]) fun h7=>(iA (.val zP2) (h7.cell (h.next,0)) fun (x8:zO2)=>(lA (f96 N x8 h7) fun (x9:SL) h10=>(rA (h10.store ((h5.next,0).1,(h5.next,0).2+2) [(.slice x9.a x9.len x9.cap x9.sz)]) fun h11=>(iA (.val zP2) (h11.cell (h.next,0)) fun (x12:zO2)=>(lA (f149 N x12 [123] h11) fun (x13:(Unit)) h14=>(iA (.val zP2) (h14.cell (h.next,0)) fun (x15:zO2)=>(lA (f93 N x15 [125] h14) fun (x16:Bool) h17=>let x18:=!x16;(bif x18 then(iA (.val zP2) (h17.cell (h.next,0)) fun (x19:zO2)=>(lA (tY N x19 [44] ((some (h5.next,0)),(some (h.next,0)),()) h17) fun (x20:(Unit)) h21=>(iA (.val zP2) (h21.cell (h.next,0)) fun (x22:zO2)=>(lA (f149 N x22 [125] h21) fun (x23:(Unit)) h24=>(iA (.val zG) (h24.cells (h5.next,0) 5) fun (x25:zW)=>(rA (h24.store (h1.next,0) (yRG x25)) fun h26=>(iA (.val zG) (h26.cells (h1.next,0) 5) fun (x27:zW)=>some ((x27.1,x27.2.1,x27.2.2.1,x27.2.2.2.1,x27.2.2.2.2.1,()),h26))))))))else(iA (.val zG) (h17.cells (h5.next,0) 5) fun (x28:zW)=>(rA (h17.store (h1.next,0) (yRG x28)) fun h29=>(iA (.val zG) (h29.cells (h1.next,0) 5) fun (x30:zW)=>some ((x30.1,x30.2.1,x30.2.2.1,x30.2.2.2.1,x30.2.2.2.2.1,()),h29)))))))))))))))
def bB9:Ann:=.n
theorem rB1 (N:Nat):jD Tryz.prog 102 [zP2,zS2,zT2] (.val zG) (fun x h=>f102 N x.1 x.2.1 x.2.2.1 h):=qD (bA (gAy N) (bA (uN N) (bA (nG N) (bA (nJ N) (dC (sel:=fun a=>mJ 2 153 a) (aAf N) kA))))) N bB9 Tryz.f102
def f192 (N:Nat) (a0 a1:AV) (h:Heap):Option (Bool×Heap):=Qz.asF a0 a1 h
theorem lA7 (N:Nat):jD Tryz.prog 192 [zU2,zU2] (.val zS2) (fun x h=>f192 N x.1 x.2.1 h):=Qz.lA7 N
def f191 (N:Nat) (a0:AV) (h:Heap):Option (zO2×Heap):=let h1:=h.push (.row [(.ptr none)] .own);(iA (.val zS2) (oK E .neq 29 (.tmp 4) (.const .nilIface) a0 AV.nilIface) fun (x2:Bool)=>(bif x2 then(lA (f192 N a0 (AV.iface 214 (.ptr (some (h.next,0)))) h1) fun (x3:Bool) h4=>(bif x3 then(iA (.val zP2) (h4.cell (h.next,0)) fun (x5:zO2)=>some (x5,h4))else some (none,h4)))else some (none,h1)))
def cB9:Ann:=.n
theorem tB1 (N:Nat):jD Tryz.prog 191 [zU2] (.val zP2) (fun x h=>f191 N x.1 h):=qD (bA (lA7 N) kA) N cB9 Tryz.f191
def f159 (N:Nat) (a0:AV) (h:Heap):Option (Int×Heap):=(iA (.val zS2) (oK E .eql 29 (.tmp 5) (.const .nilIface) a0 AV.nilIface) fun (x1:Bool)=>(bif x1 then some (0,h)else(lA (f191 N a0 h) fun (x2:zO2) h3=>let x4:Bool:=(!x2.isNone);(bif x4 then(rA x2 fun q5=>(iA (.val zT2) (h3.cell (q5.1,q5.2+0)) fun (x6:Int)=>some (x6,h3)))else let h7:=h3.push (.row yZK .own);(lA (f192 N a0 (AV.iface 199 (.ptr (some (h3.next,0)))) h7) fun (x8:Bool) h9=>(bif x8 then(iA (.val zT2) (h9.cell (h3.next,0)) fun (x10:Int)=>some (x10,h9))else some (1,h9)))))))
def dB9:Ann:=.n
theorem uB1 (N:Nat):jD Tryz.prog 159 [zU2] (.val zT2) (fun x h=>f159 N x.1 h):=qD (bA (lA7 N) (bA (tB1 N) kA)) N dB9 Tryz.f159
def bAz:Ann:=.n
def f104 (N:Nat) (a0:AV) (a1:Int) (h:Heap):Option (AV×Heap):=runK E (lJ 159 [zU2] (.val zT2) (fun x h=>f159 N x.1 h) fAo) N bAz Tryz.f104 (Tryz.f104.body.getD .skip) (.val zU2) [a0,.int .i64 a1] h
theorem vB1 (N:Nat):jD Tryz.prog 104 [zU2,zT2] (.val zU2) (fun x h=>f104 N x.1 x.2.1 h):=nAo iB7 oBe (bA (uB1 N) kA) (N:=N) (x:=bAz) (fn:=Tryz.f104) (c:=Tryz.f104.body.getD .skip) (by kernel_rfl) (by kernel_rfl) (by kernel_rfl) (by kernel_rfl) (fun _ _=>rfl)
theorem eAw (N:Nat) (a1:Int) (h:Heap):f104 N AV.nilIface a1 h=some (AV.nilIface,h):=by kernel_rfl
theorem lAl (N:Nat) (p:zO2) (a1:Int) (h:Heap):f104 N (AV.iface 127 (.ptr p)) a1 h=(lA (f159 N (AV.iface 127 (.ptr p)) h) fun (x2:Int) h3=>
  let h4:=h3.push (.row [(.int .i64 x2),(.int .i64 a1),(AV.iface 127 (.ptr p))] .own)
  some ((AV.iface 127 (.ptr (some (h3.next,0)))),h4)):=by kernel_rfl
def f189 (N:Nat) (a0 a1:zO2) (h:Heap):Option ((Unit)×Heap):=(rA a0 fun q1=>(iA (.val zQ2) (h.cell (q1.1,q1.2+1)) fun (x2:SL)=>(rA a1 fun q3=>(iA (.val zP2) (h.cell q3) fun (x4:zO2)=>(lA (f94 N x4 3 h) fun (x5:zV2) h6=>let h7:=h6.push (.row [(.str x5)] .own);(tD (.val zQ2) (fB E 38 38 (.slice x2.a x2.len x2.cap x2.sz) (.slice (some (h6.next,0)) 1 1 1) h7) fun (x8:SL) h9=>(rA a0 fun q10=>(rA (h9.store (q10.1,q10.2+1) [(.slice x8.a x8.len x8.cap x8.sz)]) fun h11=>(cE (bif (rE a1 fun q=>mB (h.cell q) (.ptr x4)) then (bif (mB (h7.cell (q1.1,q1.2+1)) (.slice x2.a x2.len x2.cap x2.sz)) then (bif (mB (h6.cell (q1.1,q1.2+1)) (.slice x2.a x2.len x2.cap x2.sz)) then (bif (mB (h.cell (q1.1,q1.2+1)) (.slice x2.a x2.len x2.cap x2.sz)) then true else false) else false) else false) else false) ( some ((()),h11)))))))))))
def eB9:Ann:=.n
theorem wB1 (N:Nat):jD Tryz.prog 189 [zP2,zP2] (.tup []) (fun x h=>f189 N x.1 x.2.1 h):=qD (bA (uN N) kA) N eB9 Tryz.f189
def cM (N:Nat) (go:zO2→zV2→zO→Int→Heap→Option (Out×(Unit)×Heap)) (v0:zO2) (v1:zV2) (v2:zO) (v6:Int) (h:Heap):Option (Out×(Unit)×Heap):=(lA (f188 N v0 v6 h) fun (x1:Bool) h2=>(bif x1 then(lA (f189 N v2.1 v2.2.1 h2) fun (x3:(Unit)) h4=>(lA (f93 N v0 v1 h4) fun (x5:Bool) h6=>let x7:=!x5;(bif x7 then some (Out.ret,(()),h6)else let x8:=wA .i64 (v6+1);go v0 v1 (v2.1,v2.2.1,()) x8 h6)))else some ((Out.exit 0),(()),h2)))
def dM (N M:Nat) (v0:zO2) (v1:zV2) (v2:zO) (v6:Int) (h:Heap):Option (Out×(Unit)×Heap):=iter (fun go s h=>cM N (fun v0 v1 v2 v6 h=>go (v0,v1,v2,v6,()) h) s.1 s.2.1 s.2.2.1 s.2.2.2.1 h) M (v0,v1,v2,v6,()) h
theorem qX (N M v0 v1 v2 v6 h):dM N (M+1) v0 v1 v2 v6 h=cM N (dM N M) v0 v1 v2 v6 h:=rfl
def uY (N:Nat) (a0:zO2) (a1:zV2) (a2:zO) (h:Heap):Option ((Unit)×Heap):=(pD (dM N N a0 a1 (a2.1,a2.2.1,()) 0 h) fun o9 (j10:(Unit)) h11=>(bif uD o9 (.exit 0) then some ((()),h11)else some ((()),h11)))
def mAl:Ann:=(.two .n (.two (.loop [(0,zP2),(1,zR2),(2,(.clo 189 [.ptr,.ptr])),(6,zT2)] [(.exit 0),.ret] [] .n) .n))
theorem bAf (N:Nat):jD Tryz.prog 147 [zP2,zR2,(.clo 189 [.ptr,.ptr])] (.tup []) (fun x h=>uY N x.1 x.2.1 x.2.2.1 h):=qD (bA (nG N) (bA (wB1 N) (bA (vN N) kA))) N mAl Tryz.f147
def f156 (N:Nat) (a0:zO2) (h:Heap):Option (zU×Heap):=let h1:=h.push (.row [(.ptr a0)] .own);let h2:=h1.push (.row yZJ .own);(iA (.val zP2) (h2.cell (h.next,0)) fun (x3:zO2)=>(lA (f94 N x3 3 h2) fun (x4:zV2) h5=>let h6:=h5.push (.row yZJ .own);(rA (h6.store (h5.next,0) [(.str x4),(.slice none 0 0 0)]) fun h7=>(iA (.val zP2) (h7.cell (h.next,0)) fun (x8:zO2)=>(lA (f93 N x8 [58] h7) fun (x9:Bool) h10=>(bif x9 then(iA (.val zP2) (h10.cell (h.next,0)) fun (x11:zO2)=>(lA (uY N x11 [43] ((some (h5.next,0)),(some (h.next,0)),()) h10) fun (x12:(Unit)) h13=>(iA (.val zJ) (h13.cells (h5.next,0) 2) fun (x14:zU)=>(rA (h13.store (h1.next,0) (yRI x14)) fun h15=>(iA (.val zJ) (h15.cells (h1.next,0) 2) fun (x16:zU)=>some ((x16.1,x16.2.1,()),h15))))))else(iA (.val zJ) (h10.cells (h5.next,0) 2) fun (x17:zU)=>(rA (h10.store (h1.next,0) (yRI x17)) fun h18=>(iA (.val zJ) (h18.cells (h1.next,0) 2) fun (x19:zU)=>some ((x19.1,x19.2.1,()),h18))))))))))
def fB9:Ann:=.n
theorem yB1 (N:Nat):jD Tryz.prog 156 [zP2] (.val zJ) (fun x h=>f156 N x.1 h):=qD (bA (uN N) (bA (nG N) (dC (sel:=fun a=>mJ 2 189 a) (bAf N) kA))) N fB9 Tryz.f156
def f155 (N:Nat) (a0 a1:zO2) (h:Heap):Option ((Unit)×Heap):=(rA a0 fun q1=>(iA (.val zQ2) (h.cell (q1.1,q1.2+2)) fun (x2:SL)=>(rA a1 fun q3=>(iA (.val zP2) (h.cell q3) fun (x4:zO2)=>(lA (f156 N x4 h) fun (x5:zU) h6=>let h7:=h6.push (.row (yRI x5) .own);(tD (.val zQ2) (fB E 36 36 (.slice x2.a x2.len x2.cap x2.sz) (.slice (some (h6.next,0)) 1 1 2) h7) fun (x8:SL) h9=>(rA a0 fun q10=>(rA (h9.store (q10.1,q10.2+2) [(.slice x8.a x8.len x8.cap x8.sz)]) fun h11=>(cE (bif (rE a1 fun q=>mB (h.cell q) (.ptr x4)) then (bif (mB (h7.cell (q1.1,q1.2+2)) (.slice x2.a x2.len x2.cap x2.sz)) then (bif (mB (h6.cell (q1.1,q1.2+2)) (.slice x2.a x2.len x2.cap x2.sz)) then (bif (mB (h.cell (q1.1,q1.2+2)) (.slice x2.a x2.len x2.cap x2.sz)) then true else false) else false) else false) else false) ( some ((()),h11)))))))))))
def gB9:Ann:=.n
theorem aB2 (N:Nat):jD Tryz.prog 155 [zP2,zP2] (.tup []) (fun x h=>f155 N x.1 x.2.1 h):=qD (bA (yB1 N) kA) N gB9 Tryz.f155
def eM (N:Nat) (go:zO2→zV2→zO→Int→Heap→Option (Out×(Unit)×Heap)) (v0:zO2) (v1:zV2) (v2:zO) (v6:Int) (h:Heap):Option (Out×(Unit)×Heap):=(lA (f188 N v0 v6 h) fun (x1:Bool) h2=>(bif x1 then(lA (f155 N v2.1 v2.2.1 h2) fun (x3:(Unit)) h4=>(lA (f93 N v0 v1 h4) fun (x5:Bool) h6=>let x7:=!x5;(bif x7 then some (Out.ret,(()),h6)else let x8:=wA .i64 (v6+1);go v0 v1 (v2.1,v2.2.1,()) x8 h6)))else some ((Out.exit 0),(()),h2)))
def fM (N M:Nat) (v0:zO2) (v1:zV2) (v2:zO) (v6:Int) (h:Heap):Option (Out×(Unit)×Heap):=iter (fun go s h=>eM N (fun v0 v1 v2 v6 h=>go (v0,v1,v2,v6,()) h) s.1 s.2.1 s.2.2.1 s.2.2.2.1 h) M (v0,v1,v2,v6,()) h
theorem rX (N M v0 v1 v2 v6 h):fM N (M+1) v0 v1 v2 v6 h=eM N (fM N M) v0 v1 v2 v6 h:=rfl
def tT (N:Nat) (a0:zO2) (a1:zV2) (a2:zO) (h:Heap):Option ((Unit)×Heap):=(pD (fM N N a0 a1 (a2.1,a2.2.1,()) 0 h) fun o9 (j10:(Unit)) h11=>(bif uD o9 (.exit 0) then some ((()),h11)else some ((()),h11)))
def nAl:Ann:=(.two .n (.two (.loop [(0,zP2),(1,zR2),(2,(.clo 155 [.ptr,.ptr])),(6,zT2)] [(.exit 0),.ret] [] .n) .n))
theorem cAf (N:Nat):jD Tryz.prog 147 [zP2,zR2,(.clo 155 [.ptr,.ptr])] (.tup []) (fun x h=>tT N x.1 x.2.1 x.2.2.1 h):=qD (bA (nG N) (bA (vN N) (bA (aB2 N) kA))) N nAl Tryz.f147
def f157 (N:Nat) (a0 a1:zO2) (h:Heap):Option ((Unit)×Heap):=(rA a0 fun q1=>(iA (.val zP2) (h.cell q1) fun (x2:zO2)=>(lA (f92 N x2 [109,117,116] h) fun (x3:Bool) h4=>(rA a0 fun q5=>(iA (.val zP2) (h4.cell q5) fun (x6:zO2)=>(lA (f154 N x6 h4) fun (x7:zV) h8=>let h9:=h8.push (.row yZF .own);(rA (h9.store (h8.next,0) (yRF x7)) fun h10=>(rA (h10.store ((h8.next,0).1,(h8.next,0).2+0) [(.bool x3)]) fun h11=>(rA a1 fun q12=>(iA (.val zQ2) (h11.cell (q12.1,q12.2+3)) fun (x13:SL)=>(iA (.val zI) (h11.cells (h8.next,0) 6) fun (x14:zV)=>let h15:=h11.push (.row (yRF x14) .own);(tD (.val zQ2) (fB E 37 37 (.slice x13.a x13.len x13.cap x13.sz) (.slice (some (h11.next,0)) 1 1 6) h15) fun (x16:SL) h17=>(rA a1 fun q18=>(rA (h17.store (q18.1,q18.2+3) [(.slice x16.a x16.len x16.cap x16.sz)]) fun h19=>some ((()),h19)))))))))))))))
def iB9:Ann:=.n
theorem bB2 (N:Nat):jD Tryz.prog 157 [zP2,zP2] (.tup []) (fun x h=>f157 N x.1 x.2.1 h):=qD (bA (tW N) (bA (yAe N) kA)) N iB9 Tryz.f157
def gM (N:Nat) (go:zO2→zV2→zO→Int→Heap→Option (Out×(Unit)×Heap)) (v0:zO2) (v1:zV2) (v2:zO) (v6:Int) (h:Heap):Option (Out×(Unit)×Heap):=(lA (f188 N v0 v6 h) fun (x1:Bool) h2=>(bif x1 then(lA (f157 N v2.1 v2.2.1 h2) fun (x3:(Unit)) h4=>(lA (f93 N v0 v1 h4) fun (x5:Bool) h6=>let x7:=!x5;(bif x7 then some (Out.ret,(()),h6)else let x8:=wA .i64 (v6+1);go v0 v1 (v2.1,v2.2.1,()) x8 h6)))else some ((Out.exit 0),(()),h2)))
def iM (N M:Nat) (v0:zO2) (v1:zV2) (v2:zO) (v6:Int) (h:Heap):Option (Out×(Unit)×Heap):=iter (fun go s h=>gM N (fun v0 v1 v2 v6 h=>go (v0,v1,v2,v6,()) h) s.1 s.2.1 s.2.2.1 s.2.2.2.1 h) M (v0,v1,v2,v6,()) h
theorem tX (N M v0 v1 v2 v6 h):iM N (M+1) v0 v1 v2 v6 h=gM N (iM N M) v0 v1 v2 v6 h:=rfl
def uT (N:Nat) (a0:zO2) (a1:zV2) (a2:zO) (h:Heap):Option ((Unit)×Heap):=(pD (iM N N a0 a1 (a2.1,a2.2.1,()) 0 h) fun o9 (j10:(Unit)) h11=>(bif uD o9 (.exit 0) then some ((()),h11)else some ((()),h11)))
def oAl:Ann:=(.two .n (.two (.loop [(0,zP2),(1,zR2),(2,(.clo 157 [.ptr,.ptr])),(6,zT2)] [(.exit 0),.ret] [] .n) .n))
theorem dAf (N:Nat):jD Tryz.prog 147 [zP2,zR2,(.clo 157 [.ptr,.ptr])] (.tup []) (fun x h=>uT N x.1 x.2.1 x.2.2.1 h):=qD (bA (nG N) (bA (vN N) (bA (bB2 N) kA))) N oAl Tryz.f147
def vT (N:Nat) (go:zO2→zO2→zO2→Heap→Option (Out×zO×Heap)) (v0 v2 v3:zO2) (h:Heap):Option (Out×zO×Heap):=(lA (f93 N v0 [46] h) fun (x6:Bool) h7=>(bif x6 then(rA v3 fun q8=>(iA (.val zQ2) (h7.cell (q8.1,q8.2+1)) fun (x9:SL)=>(lA (f188 N v0 (Int.ofNat x9.len) h7) fun (x10:Bool) h11=>(bif x10 then(lA (f93 N v0 [42] h11) fun (x12:Bool) h13=>(bif x12 then(rA v3 fun q14=>(iA (.val zQ2) (h13.cell (q14.1,q14.2+1)) fun (x15:SL)=>let h16:=h13.push (.row [(.str [42])] .own);(tD (.val zQ2) (fB E 38 38 (.slice x15.a x15.len x15.cap x15.sz) (.slice (some (h13.next,0)) 1 1 1) h16) fun (x17:SL) h18=>(rA v3 fun q19=>(rA (h18.store (q19.1,q19.2+1) [(.slice x17.a x17.len x17.cap x17.sz)]) fun h20=>go v0 v2 v3 h20)))))else(rA v3 fun q21=>(iA (.val zQ2) (h13.cell (q21.1,q21.2+1)) fun (x22:SL)=>(lA (f94 N v0 1 h13) fun (x23:zV2) h24=>let h25:=h24.push (.row [(.str x23)] .own);(tD (.val zQ2) (fB E 38 38 (.slice x22.a x22.len x22.cap x22.sz) (.slice (some (h24.next,0)) 1 1 1) h25) fun (x26:SL) h27=>(rA v3 fun q28=>(rA (h27.store (q28.1,q28.2+1) [(.slice x26.a x26.len x26.cap x26.sz)]) fun h29=>(cE (bif (mB (h25.cell (q21.1,q21.2+1)) (.slice x22.a x22.len x22.cap x22.sz)) then (bif (mB (h24.cell (q21.1,q21.2+1)) (.slice x22.a x22.len x22.cap x22.sz)) then (bif (mB (h13.cell (q21.1,q21.2+1)) (.slice x22.a x22.len x22.cap x22.sz)) then true else false) else false) else false) ( go v0 v2 v3 h29))))))))))else some ((Out.exit 0),(v2,v3,()),h11)))))
 else some ((Out.exit 0),(v2,v3,()),h7)))
def mA7 (N M:Nat) (v0 v2 v3:zO2) (h:Heap):Option (Out×zO×Heap):=iter (fun go s h=>vT N (fun v0 v2 v3 h=>go (v0,v2,v3,()) h) s.1 s.2.1 s.2.2.1 h) M (v0,v2,v3,()) h
theorem wW (N M v0 v2 v3 h):mA7 N (M+1) v0 v2 v3 h=vT N (mA7 N M) v0 v2 v3 h:=rfl
def f221 (N:Nat) (a0:zO2) (h:Heap):Option (zU×Heap):=let h1:=h.push (.row yZJ .own);(lA (f94 N a0 1 h1) fun (x2:zV2) h3=>let h4:=h3.push (.row yZJ .own);(rA (h4.store (h3.next,0) [(.str x2),(.slice none 0 0 0)]) fun h5=>(pD (mA7 N N a0 (some (h.next,0)) (some (h3.next,0)) h5) fun _ (j31:zO) h32=>(rA j31.2.1 fun q33=>(iA (.val zJ) (h32.cells q33 2) fun (x34:zU)=>(rA j31.1 fun q36=>(rA (h32.store q36 (yRI x34)) fun h35=>(rA j31.1 fun q37=>(iA (.val zJ) (h35.cells q37 2) fun (x38:zU)=>some ((x38.1,x38.2.1,()),h35))))))))))
def jB9:Ann:=(.two .n (.two .n (.two (.two (.loop [(0,zP2),(2,zP2),(3,zP2)] [(.exit 0)] [(2,zP2),(3,zP2)] .n) .n) .n)))
theorem eAf (N:Nat):jD Tryz.prog 221 [zP2] (.val zJ) (fun x h=>f221 N x.1 h):=qD (bA (uN N) (bA (nG N) (bA (vN N) kA))) N jB9 Tryz.f221
def f262 (N:Nat) (a0:Int) (h:Heap):Option (Int×Heap):=(iA (.val (.one (.int .u8))) (kAn .or .u8 a0 32) fun (x1:Int)=>some (x1,h))
def kB9:Ann:=.n
theorem dAr (N:Nat):jD Tryz.prog 262 [(.one (.int .u8))] (.val (.one (.int .u8))) (fun x h=>f262 N x.1 h):=qD kA N kB9 Tryz.f262
def eAr (N:Nat) (go:zV2→Bool→Int→Int→Bool→Heap→Option (Out×zQ1×Heap)) (v0:zV2) (v2:Bool) (v3 v4:Int) (v5:Bool) (h:Heap):Option (Out×zQ1×Heap):=let x34:=qB v4 (Int.ofNat v0.length);(bif x34 then(rG v0 v4 fun x35=>let x36:Bool:=eD 48 x35;(bif x36 then(rG v0 v4 fun x37=>let x38:Bool:=eD x37 57;(bif x38 then let x39:=wA .i64 (v4+1);go v0 v2 48 x39 v5 h else(bif v5 then(rG v0 v4 fun x40=>(lA (f262 N x40 h) fun (x41:Int) h42=>let x43:Bool:=eD 97 x41;(bif x43 then(rG v0 v4 fun x44=>(lA (f262 N x44 h42) fun (x45:Int) h46=>let x47:Bool:=eD x45 102;(bif x47 then let x48:=wA .i64 (v4+1);go v0 v2 48 x48 v5 h46 else(rG v0 v4 fun x49=>let x50:=dB x49 95;(bif x50 then let x51:=!dB v3 48;(bif x51 then some (Out.ret,(false,v3,()),h46)else let x52:=wA .i64 (v4+1);go v0 v2 95 x52 v5 h46)else let x53:=dB v3 95;(bif x53 then some (Out.ret,(false,v3,()),h46)else let x54:=wA .i64 (v4+1);go v0 v2 33 x54 v5 h46))))))else(rG v0 v4 fun x55=>let x56:=dB x55 95;(bif x56 then let x57:=!dB v3 48;(bif x57 then some (Out.ret,(false,v3,()),h42)else let x58:=wA .i64 (v4+1);go v0 v2 95 x58 v5 h42)else let x59:=dB v3 95;(bif x59 then some (Out.ret,(false,v3,()),h42)else let x60:=wA .i64 (v4+1);go v0 v2 33 x60 v5 h42))))))else(rG v0 v4 fun x61=>let x62:=dB x61 95;(bif x62 then let x63:=!dB v3 48;(bif x63 then some (Out.ret,(false,v3,()),h)else let x64:=wA .i64 (v4+1);go v0 v2 95 x64 v5 h)else let x65:=dB v3 95;(bif x65 then some (Out.ret,(false,v3,()),h)
 else let x66:=wA .i64 (v4+1);go v0 v2 33 x66 v5 h))))))else(bif v5 then(rG v0 v4 fun x67=>(lA (f262 N x67 h) fun (x68:Int) h69=>let x70:Bool:=eD 97 x68;(bif x70 then(rG v0 v4 fun x71=>(lA (f262 N x71 h69) fun (x72:Int) h73=>let x74:Bool:=eD x72 102;(bif x74 then let x75:=wA .i64 (v4+1);go v0 v2 48 x75 v5 h73 else(rG v0 v4 fun x76=>let x77:=dB x76 95;(bif x77 then let x78:=!dB v3 48;(bif x78 then some (Out.ret,(false,v3,()),h73)else let x79:=wA .i64 (v4+1);go v0 v2 95 x79 v5 h73)else let x80:=dB v3 95;(bif x80 then some (Out.ret,(false,v3,()),h73)else let x81:=wA .i64 (v4+1);go v0 v2 33 x81 v5 h73))))))else(rG v0 v4 fun x82=>let x83:=dB x82 95;(bif x83 then let x84:=!dB v3 48;(bif x84 then some (Out.ret,(false,v3,()),h69)else let x85:=wA .i64 (v4+1);go v0 v2 95 x85 v5 h69)else let x86:=dB v3 95;(bif x86 then some (Out.ret,(false,v3,()),h69)else let x87:=wA .i64 (v4+1);go v0 v2 33 x87 v5 h69))))))else(rG v0 v4 fun x88=>let x89:=dB x88 95;(bif x89 then let x90:=!dB v3 48;(bif x90 then some (Out.ret,(false,v3,()),h)else let x91:=wA .i64 (v4+1);go v0 v2 95 x91 v5 h)else let x92:=dB v3 95;(bif x92 then some (Out.ret,(false,v3,()),h)else let x93:=wA .i64 (v4+1);go v0 v2 33 x93 v5 h))))))else some ((Out.exit 0),(v2,v3,()),h))
def cB2 (N M:Nat) (v0:zV2) (v2:Bool) (v3 v4:Int) (v5:Bool) (h:Heap):Option (Out×zQ1×Heap):=iter (fun go s h=>eAr N (fun v0 v2 v3 v4 v5 h=>go (v0,v2,v3,v4,v5,()) h) s.1 s.2.1 s.2.2.1 s.2.2.2.1 s.2.2.2.2.1 h) M (v0,v2,v3,v4,v5,()) h
def f263 (N:Nat) (a0:zV2) (h:Heap):Option (Bool×Heap):=(lA (α:=zJ2) ((lA (α:=zP1) ( let x1:Bool:=eD 1 (Int.ofNat a0.length);(bif x1 then(rG a0 0 fun x2=>let x3:=dB x2 45;(bif x3 then some ((a0,false,94,0,true,()),h)else(rG a0 0 fun x4=>let x5:=dB x4 43;some ((a0,false,94,0,x5,()),h))))else some ((a0,false,94,0,false,()),h))) fun (j6:zP1) h7=>(bif j6.2.2.2.2.1 then(iA (.val zR2) (rD E h7 9 (.str j6.1) (some (.int .i64 1)) none) fun (x8:zV2)=>some ((x8,j6.2.1,j6.2.2.1,j6.2.2.2.1,()),h7))else some ((j6.1,j6.2.1,j6.2.2.1,j6.2.2.2.1,()),h7)))) fun (j9:zJ2) h10=>(lA (α:=zP1) ((lA (α:=zE2) ( let x11:Bool:=eD 2 (Int.ofNat j9.1.length);(bif x11 then(rG j9.1 0 fun x12=>let x13:=dB x12 48;(bif x13 then(rG j9.1 1 fun x14=>(lA (f262 N x14 h10) fun (x15:Int) h16=>let x17:=dB x15 98;(bif x17 then some ((j9.1,j9.2.1,j9.2.2.1,j9.2.2.2.1,false,true,()),h16)else(rG j9.1 1 fun x18=>(lA (f262 N x18 h16) fun (x19:Int) h20=>let x21:=dB x19 111;(bif x21 then some ((j9.1,j9.2.1,j9.2.2.1,j9.2.2.2.1,false,true,()),h20)else(rG j9.1 1 fun x22=>(lA (f262 N x22 h20) fun (x23:Int) h24=>let x25:=dB x23 120;some ((j9.1,j9.2.1,j9.2.2.1,j9.2.2.2.1,false,x25,()),h24)))))))))else some ((j9.1,j9.2.1,j9.2.2.1,j9.2.2.2.1,false,false,()),h10)))else some ((j9.1,j9.2.1,j9.2.2.1,j9.2.2.2.1,false,false,()),h10))) fun (j26:zE2) h27=>(bif j26.2.2.2.2.2.1 then(rG j26.1 1 fun x28=>(lA (f262 N x28 h27) fun (x29:Int) h30=>let x31:=dB x29 120;some ((j26.1,j26.2.1,48,2,x31,()),h30)))
 else some ((j26.1,j26.2.1,j26.2.2.1,j26.2.2.2.1,j26.2.2.2.2.1,()),h27)))) fun (j32:zP1) h33=>(pD (cB2 N N j32.1 j32.2.1 j32.2.2.1 j32.2.2.2.1 j32.2.2.2.2.1 h33) fun o94 (j95:zQ1) h96=>(bif uD o94 (.exit 0) then let x97:=!dB j95.2.1 95;some (x97,h96)else some (j95.1,h96)))))
def lB9:Ann:=(.two .n (.two .n (.two .n (.two (.join [(0,zR2),(2,zS2),(3,(.one (.int .i32))),(4,zT2)] (.two (.join [(0,zR2),(2,zS2),(3,(.one (.int .i32))),(4,zT2),(18,zS2)] .n) .n)) (.two .n (.two (.join [(0,zR2),(2,zS2),(3,(.one (.int .i32))),(4,zT2),(5,zS2)] (.two (.join [(0,zR2),(2,zS2),(3,(.one (.int .i32))),(4,zT2),(5,zS2),(46,zS2)] .n) .n)) (.two (.two (.loop [(0,zR2),(2,zS2),(3,(.one (.int .i32))),(4,zT2),(5,zS2)] [(.exit 0),.ret] [(2,zS2),(3,(.one (.int .i32)))] .n) .n) .n)))))))
theorem dB2 (N:Nat):jD Tryz.prog 263 [zR2] (.val zS2) (fun x h=>f263 N x.1 h):=qD (bA (dAr N) kA) N lB9 Tryz.f263
def fAr (N:Nat) (go:Int→Int→AV→Bool→zV2→Int→Int→Bool→Int→SL→Int→Int→Heap→Option (Out×zC1×Heap)) (v1 v6:Int) (v7:AV) (v8:Bool) (v9:zV2) (v10 v11:Int) (v12:Bool) (v13:Int) (v99:SL) (v100 v101:Int) (h:Heap):Option (Out×zC1×Heap):=let x60:=qB v101 v100;(bif x60 then(rA (α:=Sum (zB1×Heap) (Sum (zC1×Heap) (Empty))) ((ixK v99.a v99.len v101 1 fun q61=>(iA (.val (.one (.int .u8))) (h.cell q61) fun (x62:Int)=>(rA (α:=Sum (zR1×Heap) (Sum (zB1×Heap) (Sum (zC1×Heap) (Empty)))) ((lA (α:=zX) ( let x63:=dB x62 95;(bif x63 then some ((v1,v6,v7,v8,v9,v10,v11,v12,v13,x62,v99,v100,v101,v8,()),h)else some ((v1,v6,v7,v8,v9,v10,v11,v12,v13,x62,v99,v100,v101,false,()),h))) fun (j64:zX) h65=>(bif j64.2.2.2.2.2.2.2.2.2.2.2.2.2.1 then some (Sum.inr (Sum.inl ((j64.1,j64.2.1,j64.2.2.1,j64.2.2.2.1,j64.2.2.2.2.1,j64.2.2.2.2.2.1,j64.2.2.2.2.2.2.1,true,j64.2.2.2.2.2.2.2.2.1,j64.2.2.2.2.2.2.2.2.2.2.1,j64.2.2.2.2.2.2.2.2.2.2.2.1,j64.2.2.2.2.2.2.2.2.2.2.2.2.1,()),h65)))else(lA (α:=zX) ( let x66:Bool:=eD 48 j64.2.2.2.2.2.2.2.2.2.1;(bif x66 then let x67:Bool:=eD j64.2.2.2.2.2.2.2.2.2.1 57;some ((j64.1,j64.2.1,j64.2.2.1,j64.2.2.2.1,j64.2.2.2.2.1,j64.2.2.2.2.2.1,j64.2.2.2.2.2.2.1,j64.2.2.2.2.2.2.2.1,j64.2.2.2.2.2.2.2.2.1,j64.2.2.2.2.2.2.2.2.2.1,j64.2.2.2.2.2.2.2.2.2.2.1,j64.2.2.2.2.2.2.2.2.2.2.2.1,j64.2.2.2.2.2.2.2.2.2.2.2.2.1,x67,()),h65)else some ((j64.1,j64.2.1,j64.2.2.1,j64.2.2.2.1,j64.2.2.2.2.1,j64.2.2.2.2.2.1,j64.2.2.2.2.2.2.1,j64.2.2.2.2.2.2.2.1,j64.2.2.2.2.2.2.2.2.1,j64.2.2.2.2.2.2.2.2.2.1,j64.2.2.2.2.2.2.2.2.2.2.1,j64.2.2.2.2.2.2.2.2.2.2.2.1,j64.2.2.2.2.2.2.2.2.2.2.2.2.1,false,()),h65))) fun (j68:zX) h69=>
 (bif j68.2.2.2.2.2.2.2.2.2.2.2.2.2.1 then let x70:=wA .u8 (j68.2.2.2.2.2.2.2.2.2.1-48);some (Sum.inl ((j68.1,j68.2.1,j68.2.2.1,j68.2.2.2.1,j68.2.2.2.2.1,j68.2.2.2.2.2.1,j68.2.2.2.2.2.2.1,j68.2.2.2.2.2.2.2.1,j68.2.2.2.2.2.2.2.2.1,x70,j68.2.2.2.2.2.2.2.2.2.2.1,j68.2.2.2.2.2.2.2.2.2.2.2.1,j68.2.2.2.2.2.2.2.2.2.2.2.2.1,()),h69))else(lA (α:=zX) ((lA (f262 N j68.2.2.2.2.2.2.2.2.2.1 h69) fun (x71:Int) h72=>let x73:Bool:=eD 97 x71;(bif x73 then(lA (f262 N j68.2.2.2.2.2.2.2.2.2.1 h72) fun (x74:Int) h75=>let x76:Bool:=eD x74 122;some ((j68.1,j68.2.1,j68.2.2.1,j68.2.2.2.1,j68.2.2.2.2.1,j68.2.2.2.2.2.1,j68.2.2.2.2.2.2.1,j68.2.2.2.2.2.2.2.1,j68.2.2.2.2.2.2.2.2.1,j68.2.2.2.2.2.2.2.2.2.1,j68.2.2.2.2.2.2.2.2.2.2.1,j68.2.2.2.2.2.2.2.2.2.2.2.1,j68.2.2.2.2.2.2.2.2.2.2.2.2.1,x76,()),h75))else some ((j68.1,j68.2.1,j68.2.2.1,j68.2.2.2.1,j68.2.2.2.2.1,j68.2.2.2.2.2.1,j68.2.2.2.2.2.2.1,j68.2.2.2.2.2.2.2.1,j68.2.2.2.2.2.2.2.2.1,j68.2.2.2.2.2.2.2.2.2.1,j68.2.2.2.2.2.2.2.2.2.2.1,j68.2.2.2.2.2.2.2.2.2.2.2.1,j68.2.2.2.2.2.2.2.2.2.2.2.2.1,false,()),h72)))) fun (j77:zX) h78=>(bif j77.2.2.2.2.2.2.2.2.2.2.2.2.2.1 then(lA (f262 N j77.2.2.2.2.2.2.2.2.2.1 h78) fun (x79:Int) h80=>let x81:=wA .u8 (x79-97);let x82:=wA .u8 (x81+10);some (Sum.inl ((j77.1,j77.2.1,j77.2.2.1,j77.2.2.2.1,j77.2.2.2.2.1,j77.2.2.2.2.2.1,j77.2.2.2.2.2.2.1,j77.2.2.2.2.2.2.2.1,j77.2.2.2.2.2.2.2.2.1,x82,j77.2.2.2.2.2.2.2.2.2.2.1,j77.2.2.2.2.2.2.2.2.2.2.2.1,j77.2.2.2.2.2.2.2.2.2.2.2.2.1,()),h80)))else some (Sum.inr (Sum.inr (Sum.inl ((0,(AV.iface 256 (.int .i64 2)),j77.2.2.2.2.1,j77.2.2.2.2.2.2.2.1,j77.2.2.2.2.2.2.2.2.1,()),h78))))))))))) fun j83=>
 (jE j83 (fun (j84:zR1) h85=>let x87:=wA .u8 j84.1;let x88:Bool:=eD x87 j84.2.2.2.2.2.2.2.2.2.1;(bif x88 then some (Sum.inr (Sum.inl ((0,(AV.iface 256 (.int .i64 2)),j84.2.2.2.2.1,j84.2.2.2.2.2.2.2.1,j84.2.2.2.2.2.2.2.2.1,()),h85)))else let x89:Bool:=eD j84.2.2.2.2.2.1 j84.2.2.2.2.2.2.2.2.1;(bif x89 then some (Sum.inr (Sum.inl ((j84.2.2.2.2.2.2.1,(AV.iface 256 (.int .i64 1)),j84.2.2.2.2.1,j84.2.2.2.2.2.2.2.1,j84.2.2.2.2.2.2.2.2.1,()),h85)))else let x90:=wA .u64 j84.1;let x91:=wA .u64 (j84.2.2.2.2.2.2.2.2.1 * x90);let x92:=wA .u64 j84.2.2.2.2.2.2.2.2.2.1;let x93:=wA .u64 (x91+x92);(rA (α:=Sum (zB1×Heap) (Sum (zC1×Heap) (Empty))) ((lA (α:=zX) ( let x94:=qB x93 x91;(bif x94 then some ((j84.1,j84.2.1,j84.2.2.1,j84.2.2.2.1,j84.2.2.2.2.1,j84.2.2.2.2.2.1,j84.2.2.2.2.2.2.1,j84.2.2.2.2.2.2.2.1,x91,x93,j84.2.2.2.2.2.2.2.2.2.2.1,j84.2.2.2.2.2.2.2.2.2.2.2.1,j84.2.2.2.2.2.2.2.2.2.2.2.2.1,true,()),h85)else let x95:=qB j84.2.2.2.2.2.2.1 x93;some ((j84.1,j84.2.1,j84.2.2.1,j84.2.2.2.1,j84.2.2.2.2.1,j84.2.2.2.2.2.1,j84.2.2.2.2.2.2.1,j84.2.2.2.2.2.2.2.1,x91,x93,j84.2.2.2.2.2.2.2.2.2.2.1,j84.2.2.2.2.2.2.2.2.2.2.2.1,j84.2.2.2.2.2.2.2.2.2.2.2.2.1,x95,()),h85))) fun (j96:zX) h97=>(bif j96.2.2.2.2.2.2.2.2.2.2.2.2.2.1 then some (Sum.inr (Sum.inl ((j96.2.2.2.2.2.2.1,(AV.iface 256 (.int .i64 1)),j96.2.2.2.2.1,j96.2.2.2.2.2.2.2.1,j96.2.2.2.2.2.2.2.2.1,()),h97)))else some (Sum.inl ((j96.1,j96.2.1,j96.2.2.1,j96.2.2.2.1,j96.2.2.2.2.1,j96.2.2.2.2.2.1,j96.2.2.2.2.2.2.1,j96.2.2.2.2.2.2.2.1,j96.2.2.2.2.2.2.2.2.2.1,j96.2.2.2.2.2.2.2.2.2.2.1,j96.2.2.2.2.2.2.2.2.2.2.2.1,j96.2.2.2.2.2.2.2.2.2.2.2.2.1,()),h97))))) fun j98=>
 (jE j98 (fun (j99:zB1) h100=>some (Sum.inl ((j99.1,j99.2.1,j99.2.2.1,j99.2.2.2.1,j99.2.2.2.2.1,j99.2.2.2.2.2.1,j99.2.2.2.2.2.2.1,j99.2.2.2.2.2.2.2.1,j99.2.2.2.2.2.2.2.2.1,j99.2.2.2.2.2.2.2.2.2.1,j99.2.2.2.2.2.2.2.2.2.2.1,j99.2.2.2.2.2.2.2.2.2.2.2.1,()),h100))) fun j101=>(jE j101 (fun (j102:zC1) h103=>some (Sum.inr (Sum.inl ((j102.1,j102.2.1,j102.2.2.1,j102.2.2.2.1,j102.2.2.2.2.1,()),h103)))) fun _=>none)))))) fun j86=>(jE j86 (fun (j105:zB1) h106=>some (Sum.inl ((j105.1,j105.2.1,j105.2.2.1,j105.2.2.2.1,j105.2.2.2.2.1,j105.2.2.2.2.2.1,j105.2.2.2.2.2.2.1,j105.2.2.2.2.2.2.2.1,j105.2.2.2.2.2.2.2.2.1,j105.2.2.2.2.2.2.2.2.2.1,j105.2.2.2.2.2.2.2.2.2.2.1,j105.2.2.2.2.2.2.2.2.2.2.2.1,()),h106))) fun j107=>(jE j107 (fun (j108:zC1) h109=>some (Sum.inr (Sum.inl ((j108.1,j108.2.1,j108.2.2.1,j108.2.2.2.1,j108.2.2.2.2.1,()),h109)))) fun _=>none))))))) fun j111=>(jE j111 (fun (j112:zB1) h113=>let x115:=wA .i64 (j112.2.2.2.2.2.2.2.2.2.2.2.1+1);go j112.1 j112.2.1 j112.2.2.1 j112.2.2.2.1 j112.2.2.2.2.1 j112.2.2.2.2.2.1 j112.2.2.2.2.2.2.1 j112.2.2.2.2.2.2.2.1 j112.2.2.2.2.2.2.2.2.1 j112.2.2.2.2.2.2.2.2.2.1 j112.2.2.2.2.2.2.2.2.2.2.1 x115 h113) fun j114=>(jE j114 (fun (j116:zC1) h117=>some (Out.ret,(j116.1,j116.2.1,j116.2.2.1,j116.2.2.2.1,j116.2.2.2.2.1,()),h117)) fun _=>none)))else some ((Out.exit 3),(v6,v7,v9,v12,v13,()),h))
def eB2 (N M:Nat) (v1 v6:Int) (v7:AV) (v8:Bool) (v9:zV2) (v10 v11:Int) (v12:Bool) (v13:Int) (v99:SL) (v100 v101:Int) (h:Heap):Option (Out×zC1×Heap):=iter (fun go s h=>fAr N (fun v1 v6 v7 v8 v9 v10 v11 v12 v13 v99 v100 v101 h=>go (v1,v6,v7,v8,v9,v10,v11,v12,v13,v99,v100,v101,()) h) s.1 s.2.1 s.2.2.1 s.2.2.2.1 s.2.2.2.2.1 s.2.2.2.2.2.1 s.2.2.2.2.2.2.1 s.2.2.2.2.2.2.2.1 s.2.2.2.2.2.2.2.2.1 s.2.2.2.2.2.2.2.2.2.1 s.2.2.2.2.2.2.2.2.2.2.1 s.2.2.2.2.2.2.2.2.2.2.2.1 h) M (v1,v6,v7,v8,v9,v10,v11,v12,v13,v99,v100,v101,()) h
def f257 (N:Nat) (a0:zV2) (a1 a2:Int) (h:Heap):Option (zG1×Heap):=let x1:=jB a0 [];(bif x1 then some ((0,(AV.iface 256 (.int .i64 2)),()),h)else let x2:=dB a1 0;(rA (α:=Sum (zJ1×Heap) (Sum (zG1×Heap) (Empty))) ((lA (α:=zI1) ( let x3:Bool:=eD 2 a1;(bif x3 then let x4:Bool:=eD a1 36;some ((a0,a1,a2,0,AV.nilIface,x2,a0,x4,()),h)else some ((a0,a1,a2,0,AV.nilIface,x2,a0,false,()),h))) fun (j5:zI1) h6=>(bif j5.2.2.2.2.2.2.2.1 then some (Sum.inl ((j5.1,j5.2.1,j5.2.2.1,j5.2.2.2.1,j5.2.2.2.2.1,j5.2.2.2.2.2.1,j5.2.2.2.2.2.2.1,()),h6))else let x7:=dB j5.2.1 0;(bif x7 then(rG j5.1 0 fun x8=>let x9:=dB x8 48;(bif x9 then(lA (α:=zD1) ( let x10:Bool:=eD 3 (Int.ofNat j5.1.length);(bif x10 then(rG j5.1 1 fun x11=>(lA (f262 N x11 h6) fun (x12:Int) h13=>let x14:=dB x12 98;some ((j5.1,j5.2.2.1,j5.2.2.2.1,j5.2.2.2.2.1,j5.2.2.2.2.2.1,j5.2.2.2.2.2.2.1,x14,()),h13)))else some ((j5.1,j5.2.2.1,j5.2.2.2.1,j5.2.2.2.2.1,j5.2.2.2.2.2.1,j5.2.2.2.2.2.2.1,false,()),h6))) fun (j15:zD1) h16=>(bif j15.2.2.2.2.2.2.1 then(iA (.val zR2) (rD E h16 9 (.str j15.1) (some (.int .i64 2)) none) fun (x17:zV2)=>some (Sum.inl ((x17,2,j15.2.1,j15.2.2.1,j15.2.2.2.1,j15.2.2.2.2.1,j15.2.2.2.2.2.1,()),h16)))else(lA (α:=zD1) ( let x18:Bool:=eD 3 (Int.ofNat j15.1.length);(bif x18 then(rG j15.1 1 fun x19=>(lA (f262 N x19 h16) fun (x20:Int) h21=>let x22:=dB x20 111;some ((j15.1,j15.2.1,j15.2.2.1,j15.2.2.2.1,j15.2.2.2.2.1,j15.2.2.2.2.2.1,x22,()),h21)))else some ((j15.1,j15.2.1,j15.2.2.1,j15.2.2.2.1,j15.2.2.2.2.1,j15.2.2.2.2.2.1,false,()),h16))) fun (j23:zD1) h24=>
 (bif j23.2.2.2.2.2.2.1 then(iA (.val zR2) (rD E h24 9 (.str j23.1) (some (.int .i64 2)) none) fun (x25:zV2)=>some (Sum.inl ((x25,8,j23.2.1,j23.2.2.1,j23.2.2.2.1,j23.2.2.2.2.1,j23.2.2.2.2.2.1,()),h24)))else(lA (α:=zD1) ( let x26:Bool:=eD 3 (Int.ofNat j23.1.length);(bif x26 then(rG j23.1 1 fun x27=>(lA (f262 N x27 h24) fun (x28:Int) h29=>let x30:=dB x28 120;some ((j23.1,j23.2.1,j23.2.2.1,j23.2.2.2.1,j23.2.2.2.2.1,j23.2.2.2.2.2.1,x30,()),h29)))else some ((j23.1,j23.2.1,j23.2.2.1,j23.2.2.2.1,j23.2.2.2.2.1,j23.2.2.2.2.2.1,false,()),h24))) fun (j31:zD1) h32=>(bif j31.2.2.2.2.2.2.1 then(iA (.val zR2) (rD E h32 9 (.str j31.1) (some (.int .i64 2)) none) fun (x33:zV2)=>some (Sum.inl ((x33,16,j31.2.1,j31.2.2.1,j31.2.2.2.1,j31.2.2.2.2.1,j31.2.2.2.2.2.1,()),h32)))else(iA (.val zR2) (rD E h32 9 (.str j31.1) (some (.int .i64 1)) none) fun (x34:zV2)=>some (Sum.inl ((x34,8,j31.2.1,j31.2.2.1,j31.2.2.2.1,j31.2.2.2.2.1,j31.2.2.2.2.2.1,()),h32)))))))))else some (Sum.inl ((j5.1,10,j5.2.2.1,j5.2.2.2.1,j5.2.2.2.2.1,j5.2.2.2.2.2.1,j5.2.2.2.2.2.2.1,()),h6))))else some (Sum.inr (Sum.inl ((0,(AV.iface 256 (.int .i64 3)),()),h6))))))) fun j35=>(jE j35 (fun (j36:zJ1) h37=>(rA (α:=Sum (zJ1×Heap) (Sum (zG1×Heap) (Empty))) ( let x39:=dB j36.2.2.1 0;(bif x39 then some (Sum.inl ((j36.1,j36.2.1,64,j36.2.2.2.1,j36.2.2.2.2.1,j36.2.2.2.2.2.1,j36.2.2.2.2.2.2.1,()),h37))else(lA (α:=zI1) ( let x40:=qB j36.2.2.1 0;(bif x40 then some ((j36.1,j36.2.1,j36.2.2.1,j36.2.2.2.1,j36.2.2.2.2.1,j36.2.2.2.2.2.1,j36.2.2.2.2.2.2.1,true,()),h37)
 else let x41:=qB 64 j36.2.2.1;some ((j36.1,j36.2.1,j36.2.2.1,j36.2.2.2.1,j36.2.2.2.2.1,j36.2.2.2.2.2.1,j36.2.2.2.2.2.2.1,x41,()),h37))) fun (j42:zI1) h43=>(bif j42.2.2.2.2.2.2.2.1 then some (Sum.inr (Sum.inl ((0,(AV.iface 256 (.int .i64 4)),()),h43)))else some (Sum.inl ((j42.1,j42.2.1,j42.2.2.1,j42.2.2.2.1,j42.2.2.2.2.1,j42.2.2.2.2.2.1,j42.2.2.2.2.2.2.1,()),h43)))))) fun j44=>(jE j44 (fun (j45:zJ1) h46=>(lA (α:=zW1) ( let x48:=dB j45.2.1 10;(bif x48 then some ((j45.1,j45.2.1,j45.2.2.1,j45.2.2.2.1,j45.2.2.2.2.1,j45.2.2.2.2.2.1,j45.2.2.2.2.2.2.1,1844674407370955162,()),h46)else let x49:=dB j45.2.1 16;(bif x49 then some ((j45.1,j45.2.1,j45.2.2.1,j45.2.2.2.1,j45.2.2.2.2.1,j45.2.2.2.2.2.1,j45.2.2.2.2.2.2.1,1152921504606846976,()),h46)else let x50:=wA .u64 j45.2.1;(iA (.val (.one (.int .u64))) (gN .quo .u64 18446744073709551615 x50) fun (x51:Int)=>let x52:=wA .u64 (x51+1);some ((j45.1,j45.2.1,j45.2.2.1,j45.2.2.2.1,j45.2.2.2.2.1,j45.2.2.2.2.2.1,j45.2.2.2.2.2.2.1,x52,()),h46))))) fun (j53:zW1) h54=>let x55:=wA .u64 j53.2.2.1;(iA (.val (.one (.int .u64))) (rA3 .shl .u64 1 x55) fun (x56:Int)=>let x57:=wA .u64 (x56-1);(tD (.val zQ2) (vAc E 9 81 (.str j53.1) h54) fun (x58:SL) h59=>(pD (eB2 N N j53.2.1 j53.2.2.2.1 j53.2.2.2.2.1 j53.2.2.2.2.2.1 j53.2.2.2.2.2.2.1 j53.2.2.2.2.2.2.2.1 x57 false 0 x58 (Int.ofNat x58.len) 0 h59) fun o119 (j120:zC1) h121=>(bif uD o119 (.exit 3) then(rA (α:=Sum (zH1×Heap) (Sum (zG1×Heap) (Empty))) ((lA (α:=(Int×Bool×Unit)) (
 (bif j120.2.2.2.1 then(lA (f263 N j120.2.2.1 h121) fun (x122:Bool) h123=>let x124:=!x122;some ((j120.2.2.2.2.1,x124,()),h123))else some ((j120.2.2.2.2.1,false,()),h121))) fun (j125:(Int×Bool×Unit)) h126=>(bif j125.2.1 then some (Sum.inr (Sum.inl ((0,(AV.iface 256 (.int .i64 2)),()),h126)))else some (Sum.inl ((j125.1,()),h126))))) fun j127=>(jE j127 (fun (j128:zH1) h129=>some ((j128.1,AV.nilIface,()),h129)) fun j130=>(jE j130 (fun (j131:zG1) h132=>some ((j131.1,j131.2.1,()),h132)) fun _=>none)))else some ((j120.1,j120.2.1,()),h121))))))) fun j47=>(jE j47 (fun (j134:zG1) h135=>some ((j134.1,j134.2.1,()),h135)) fun _=>none)))) fun j38=>(jE j38 (fun (j137:zG1) h138=>some ((j137.1,j137.2.1,()),h138)) fun _=>none))))
def mB9:Ann:=(.two .n (.two .n (.two .n (.two .n (.two (.joinO [(.norm,[(0,zR2),(1,zT2),(2,zT2),(6,(.one (.int .u64))),(7,zU2),(8,zS2),(9,zR2)]),(.ret,[(6,(.one (.int .u64))),(7,zU2)])] (.two (.two (.join [(0,zR2),(1,zT2),(2,zT2),(6,(.one (.int .u64))),(7,zU2),(8,zS2),(9,zR2),(25,zS2)] .n) (.two .n (.two .n (.two (.two .n (.two .n (.two (.two (.two (.join [(0,zR2),(2,zT2),(6,(.one (.int .u64))),(7,zU2),(8,zS2),(9,zR2),(40,zS2)] .n) (.two .n (.two (.join [(0,zR2),(2,zT2),(6,(.one (.int .u64))),(7,zU2),(8,zS2),(9,zR2),(52,zS2)] .n) (.two .n (.two (.join [(0,zR2),(2,zT2),(6,(.one (.int .u64))),(7,zU2),(8,zS2),(9,zR2),(64,zS2)] .n) .n))))) .n) .n))) .n)))) .n)) (.two (.joinO [(.norm,[(0,zR2),(1,zT2),(2,zT2),(6,(.one (.int .u64))),(7,zU2),(8,zS2),(9,zR2)]),(.ret,[(6,(.one (.int .u64))),(7,zU2)])] (.two .n (.two .n (.two (.join [(0,zR2),(1,zT2),(2,zT2),(6,(.one (.int .u64))),(7,zU2),(8,zS2),(9,zR2),(83,zS2)] .n) .n)))) (.two .n (.two (.join [(0,zR2),(1,zT2),(2,zT2),(6,(.one (.int .u64))),(7,zU2),(8,zS2),(9,zR2),(10,(.one (.int .u64)))] .n) (.two .n (.two .n (.two .n (.two (.two .n (.two (.loop [(1,zT2),(6,(.one (.int .u64))),(7,zU2),(8,zS2),(9,zR2),(10,(.one (.int .u64))),(11,(.one (.int .u64))),(12,zS2),(13,(.one (.int .u64))),(99,zQ2),(100,zT2),(101,zT2)] [(.exit 3),.ret] [(6,(.one (.int .u64))),(7,zU2),(9,zR2),(12,zS2),(13,(.one (.int .u64)))] (.two .n (.two .n (.two (.joinO [(.norm,[(1,zT2),(6,(.one (.int .u64))),(7,zU2),(8,zS2),(9,zR2),(10,(.one (.int .u64))),(11,(.one (.int .u64))),(12,zS2),(13,(.one (.int .u64))),(99,zQ2),(100,zT2),(101,zT2)]),(.ret,[(6,(.one (.int .u64))),(7,zU2),(9,zR2),(12,zS2),(13,(.one (.int .u64)))])] (.two (.two .n (.two .n (.two (.joinO [(.norm,[(1,zT2),(6,(.one (.int .u64))),(7,zU2),(8,zS2),(9,zR2),(10,(.one (.int .u64))),(11,(.one (.int .u64))),(12,zS2),(13,(.one (.int .u64))),(16,(.one (.int .u8))),(99,zQ2),(100,zT2),(101,zT2)]),((.exit 4),[(1,zT2),(6,(.one (.int .u64))),(7,zU2),(8,zS2),(9,zR2),(10,(.one (.int .u64))),(11,(.one (.int .u64))),(12,zS2),(13,(.one (.int .u64))),(99,zQ2),(100,zT2),(101,zT2)]),(.ret,[(6,(.one (.int .u64))),(7,zU2),(9,zR2),(12,zS2),(13,(.one (.int .u64)))])] (.two (.two (.join [(1,zT2),(6,(.one (.int .u64))),(7,zU2),(8,zS2),(9,zR2),(10,(.one (.int .u64))),(11,(.one (.int .u64))),(12,zS2),(13,(.one (.int .u64))),(15,(.one (.int .u8))),(99,zQ2),(100,zT2),(101,zT2),(106,zS2)] .n) (.two .n (.two (.join [(1,zT2),(6,(.one (.int .u64))),(7,zU2),(8,zS2),(9,zR2),(10,(.one (.int .u64))),(11,(.one (.int .u64))),(12,zS2),(13,(.one (.int .u64))),(15,(.one (.int .u8))),(99,zQ2),(100,zT2),(101,zT2),(112,zS2)] .n) (.two .n (.two (.join [(1,zT2),(6,(.one (.int .u64))),(7,zU2),(8,zS2),(9,zR2),(10,(.one (.int .u64))),(11,(.one (.int .u64))),(12,zS2),(13,(.one (.int .u64))),(15,(.one (.int .u8))),(99,zQ2),(100,zT2),(101,zT2),(121,zS2)] .n) .n))))) .n)) (.two .n (.two .n (.two .n (.two .n (.two (.joinO [(.norm,[(1,zT2),(6,(.one (.int .u64))),(7,zU2),(8,zS2),(9,zR2),(10,(.one (.int .u64))),(11,(.one (.int .u64))),(12,zS2),(17,(.one (.int .u64))),(99,zQ2),(100,zT2),(101,zT2)]),(.ret,[(6,(.one (.int .u64))),(7,zU2),(9,zR2),(12,zS2),(13,(.one (.int .u64)))])] (.two (.join [(1,zT2),(6,(.one (.int .u64))),(7,zU2),(8,zS2),(9,zR2),(10,(.one (.int .u64))),(11,(.one (.int .u64))),(12,zS2),(13,(.one (.int .u64))),(17,(.one (.int .u64))),(99,zQ2),(100,zT2),(101,zT2),(159,zS2)] .n) .n)) .n)))))))) .n)) .n)))) .n)) (.two (.joinO [(.norm,[(13,(.one (.int .u64)))]),(.ret,[(6,(.one (.int .u64))),(7,zU2)])] (.two (.join [(13,(.one (.int .u64))),(169,zS2)] .n) .n)) .n)))))))))))))
theorem fB2 (N:Nat):jD Tryz.prog 257 [zR2,zT2,zT2] (.tup [(.one (.int .u64)),zU2]) (fun x h=>f257 N x.1 x.2.1 x.2.2.1 h):=qD (bA (dB2 N) (bA (dAr N) kA)) N mB9 Tryz.f257
def f245 (N:Nat) (a0:zV2) (a1 a2:Int) (h:Heap):Option (zG1×Heap):=let x1:=jB a0 [];(bif x1 then some ((0,(AV.iface 256 (.int .i64 2)),()),h)else(lA (α:=zK2) ((rG a0 0 fun x2=>let x3:=dB x2 43;(bif x3 then(iA (.val zR2) (rD E h 9 (.str a0) (some (.int .i64 1)) none) fun (x4:zV2)=>some ((x4,a1,a2,false,()),h))else let x5:=dB x2 45;(bif x5 then(iA (.val zR2) (rD E h 9 (.str a0) (some (.int .i64 1)) none) fun (x6:zV2)=>some ((x6,a1,a2,true,()),h))else some ((a0,a1,a2,false,()),h))))) fun (j7:zK2) h8=>(lA (f257 N j7.1 j7.2.1 j7.2.2.1 h8) fun (x9:zG1) h10=>(lA (α:=zN2) ((iA (.val zS2) (oK E .neq 29 (.tmp 32) (.const .nilIface) x9.2.1 AV.nilIface) fun (x11:Bool)=>(bif x11 then(iA (.val zS2) (oK E .neq 29 (.tmp 35) (.tmp 36) x9.2.1 (AV.iface 256 (.int .i64 1))) fun (x12:Bool)=>some ((j7.2.2.1,x9.2.1,j7.2.2.2.1,x9.1,x12,()),h10))else some ((j7.2.2.1,x9.2.1,j7.2.2.2.1,x9.1,false,()),h10)))) fun (j13:zN2) h14=>(bif j13.2.2.2.2.1 then some ((0,j13.2.1,()),h14)else(lA (α:=(Int×Bool×Int×Unit)) ( let x15:=dB j13.1 0;(bif x15 then some ((64,j13.2.2.1,j13.2.2.2.1,()),h14)else some ((j13.1,j13.2.2.1,j13.2.2.2.1,()),h14))) fun (j16:(Int×Bool×Int×Unit)) h17=>let x18:=wA .i64 (j16.1-1);let x19:=wA .u64 x18;(iA (.val (.one (.int .u64))) (rA3 .shl .u64 1 x19) fun (x20:Int)=>(lA (α:=zY1) ( let x21:=!j16.2.1;(bif x21 then let x22:Bool:=eD x20 j16.2.2.1;some ((j16.2.1,j16.2.2.1,x20,x22,()),h17)else some ((j16.2.1,j16.2.2.1,x20,false,()),h17))) fun (j23:zY1) h24=>
 (bif j23.2.2.2.1 then let x25:=wA .u64 (j23.2.2.1-1);let x26:=wA .i64 x25;some ((x26,(AV.iface 256 (.int .i64 1)),()),h24)else(lA (α:=zY1) ((bif j23.1 then let x27:=qB j23.2.2.1 j23.2.1;some ((j23.1,j23.2.1,j23.2.2.1,x27,()),h24)else some ((j23.1,j23.2.1,j23.2.2.1,false,()),h24))) fun (j28:zY1) h29=>(bif j28.2.2.2.1 then let x30:=wA .i64 j28.2.2.1;let x31:=wA .i64 (0-x30);some ((x31,(AV.iface 256 (.int .i64 1)),()),h29)else let x32:=wA .i64 j28.2.1;(lA (α:=zH1) ((bif j28.1 then let x33:=wA .i64 (0-x32);some ((x33,()),h29)else some ((x32,()),h29))) fun (j34:zH1) h35=>some ((j34.1,AV.nilIface,()),h35)))))))))))))
def nB9:Ann:=(.two .n (.two .n (.two .n (.two (.join [(0,zR2),(1,zT2),(2,zT2),(8,zS2)] .n) (.two .n (.two .n (.two (.two (.join [(2,zT2),(7,zU2),(8,zS2),(9,(.one (.int .u64))),(38,zS2)] .n) .n) (.two (.join [(2,zT2),(8,zS2),(9,(.one (.int .u64)))] .n) (.two .n (.two (.two (.join [(8,zS2),(9,(.one (.int .u64))),(10,(.one (.int .u64))),(52,zS2)] .n) .n) (.two (.two (.join [(8,zS2),(9,(.one (.int .u64))),(10,(.one (.int .u64))),(62,zS2)] .n) .n) (.two .n (.two (.join [(11,zT2)] .n) .n)))))))))))))
theorem gB2 (N:Nat):jD Tryz.prog 245 [zR2,zT2,zT2] (.tup [zT2,zU2]) (fun x h=>f245 N x.1 x.2.1 x.2.2.1 h):=qD (bA (fB2 N) kA) N nB9 Tryz.f245
def nA1 (N:Nat) (go:Int→AV→zV2→Int→SL→Int→Int→Heap→Option (Out×zS1×Heap)) (v2:Int) (v3:AV) (v5:zV2) (v6:Int) (v47:SL) (v48 v49:Int) (h:Heap):Option (Out×zS1×Heap):=let x19:=qB v49 v48;(bif x19 then(ixK v47.a v47.len v49 1 fun q20=>(iA (.val (.one (.int .u8))) (h.cell q20) fun (x21:Int)=>let x22:=wA .u8 (x21-48);let x23:=qB 9 x22;(bif x23 then some (Out.ret,(0,(AV.iface 256 (.int .i64 2)),v5,v6,()),h)else let x24:=wA .i64 (v6 * 10);let x25:=wA .i64 x22;let x26:=wA .i64 (x24+x25);let x27:=wA .i64 (v49+1);go v2 v3 v5 x26 v47 v48 x27 h)))else some ((Out.exit 0),(v2,v3,v5,v6,()),h))
def nA7 (N M:Nat) (v2:Int) (v3:AV) (v5:zV2) (v6:Int) (v47:SL) (v48 v49:Int) (h:Heap):Option (Out×zS1×Heap):=iter (fun go s h=>nA1 N (fun v2 v3 v5 v6 v47 v48 v49 h=>go (v2,v3,v5,v6,v47,v48,v49,()) h) s.1 s.2.1 s.2.2.1 s.2.2.2.1 s.2.2.2.2.1 s.2.2.2.2.2.1 s.2.2.2.2.2.2.1 h) M (v2,v3,v5,v6,v47,v48,v49,()) h
theorem pAb (N M v2 v3 v5 v6 v47 v48 v49 h):nA7 N (M+1) v2 v3 v5 v6 v47 v48 v49 h=nA1 N (nA7 N M) v2 v3 v5 v6 v47 v48 v49 h:=rfl
def f233 (N:Nat) (a0:zV2) (h:Heap):Option (zG1×Heap):=(rA (α:=Sum ((zV2×Unit)×Heap) (Sum (zG1×Heap) (Empty))) ((lA (α:=zM2) ( let x1:=qB 0 (Int.ofNat a0.length);(bif x1 then let x2:=qB (Int.ofNat a0.length) 19;some ((a0,0,AV.nilIface,x2,()),h)else some ((a0,0,AV.nilIface,false,()),h))) fun (j3:zM2) h4=>(bif j3.2.2.2.1 then(rA (α:=Sum (zH2×Heap) (Sum (zG1×Heap) (Empty))) ((lA (α:=zF2) ((rG j3.1 0 fun x5=>let x6:=dB x5 45;(bif x6 then some ((j3.1,j3.2.1,j3.2.2.1,j3.1,true,()),h4)else(rG j3.1 0 fun x7=>let x8:=dB x7 43;some ((j3.1,j3.2.1,j3.2.2.1,j3.1,x8,()),h4))))) fun (j9:zF2) h10=>(bif j9.2.2.2.2.1 then(iA (.val zR2) (rD E h10 9 (.str j9.1) (some (.int .i64 1)) none) fun (x11:zV2)=>let x12:=qB (Int.ofNat x11.length) 1;(bif x12 then some (Sum.inr (Sum.inl ((0,(AV.iface 256 (.int .i64 2)),()),h10)))else some (Sum.inl ((x11,j9.2.1,j9.2.2.1,j9.2.2.2.1,()),h10))))else some (Sum.inl ((j9.1,j9.2.1,j9.2.2.1,j9.2.2.2.1,()),h10))))) fun j13=>(jE j13 (fun (j14:zH2) h15=>(tD (.val zQ2) (vAc E 9 81 (.str j14.1) h15) fun (x17:SL) h18=>(pD (nA7 N N j14.2.1 j14.2.2.1 j14.2.2.2.1 0 x17 (Int.ofNat x17.len) 0 h18) fun o28 (j29:zS1) h30=>(bif uD o28 (.exit 0) then(lA (α:=zH1) ((rG j29.2.2.1 0 fun x31=>let x32:=dB x31 45;(bif x32 then let x33:=wA .i64 (0-j29.2.2.2.1);some ((x33,()),h30)else some ((j29.2.2.2.1,()),h30)))) fun (j34:zH1) h35=>some (Sum.inr (Sum.inl ((j34.1,AV.nilIface,()),h35))))else some (Sum.inr (Sum.inl ((j29.1,j29.2.1,()),h30))))))) fun j16=>
 (jE j16 (fun (j36:zG1) h37=>some (Sum.inr (Sum.inl ((j36.1,j36.2.1,()),h37)))) fun _=>none)))else some (Sum.inl ((j3.1,()),h4))))) fun j39=>(jE j39 (fun (j40:(zV2×Unit)) h41=>(lA (f245 N j40.1 10 0 h41) fun (x43:zG1) h44=>some ((x43.1,x43.2.1,()),h44))) fun j42=>(jE j42 (fun (j45:zG1) h46=>some ((j45.1,j45.2.1,()),h46)) fun _=>none)))
def oB9:Ann:=(.two .n (.two .n (.two (.joinO [(.norm,[(0,zR2)]),(.ret,[(2,zT2),(3,zU2)])] (.two (.join [(0,zR2),(2,zT2),(3,zU2),(30,zS2)] .n) (.two (.two .n (.two (.joinO [(.norm,[(0,zR2),(2,zT2),(3,zU2),(5,zR2)]),(.ret,[(2,zT2),(3,zU2)])] (.two (.join [(0,zR2),(2,zT2),(3,zU2),(5,zR2),(39,zS2)] .n) .n)) (.two .n (.two (.two .n (.two (.loop [(2,zT2),(3,zU2),(5,zR2),(6,zT2),(47,zQ2),(48,zT2),(49,zT2)] [(.exit 0),.ret] [(2,zT2),(3,zU2),(5,zR2),(6,zT2)] .n) .n)) (.two (.join [(6,zT2)] .n) .n))))) .n))) .n)))
theorem iB2 (N:Nat):jD Tryz.prog 233 [zR2] (.tup [zT2,zU2]) (fun x h=>f233 N x.1 h):=qD (bA (gB2 N) kA) N oB9 Tryz.f233
def f234 (N:Nat) (a0 a1:zV2) (a2 a3:Int) (a4:AV) (h:Heap):Option (AV×Heap):=Qw.oAb a0 a1 a2 a3 a4 h
theorem wAe (N:Nat):jD Tryz.prog 234 [zR2,zR2,zT2,zT2,zU2] (.val zU2) (fun x h=>f234 N x.1 x.2.1 x.2.2.1 x.2.2.2.1 x.2.2.2.2.1 h):=Qw.wAe N
def f220 (N:Nat) (a0:zV2) (h:Heap):Option (zG1×Heap):=(lA (f233 N a0 h) fun (x1:zG1) h2=>(iA (.val zS2) (oK E .neq 29 (.tmp 11) (.const .nilIface) x1.2.1 AV.nilIface) fun (x3:Bool)=>(bif x3 then(lA (f234 N [65,116,111,105] a0 0 0 x1.2.1 h2) fun (x4:AV) h5=>some ((x1.1,x4,()),h5))else some ((x1.1,AV.nilIface,()),h2))))
def pB9:Ann:=.n
theorem jB2 (N:Nat):jD Tryz.prog 220 [zR2] (.tup [zT2,zU2]) (fun x h=>f220 N x.1 h):=qD (bA (wAe N) (bA (iB2 N) kA)) N pB9 Tryz.f220
def f208 (N:Nat) (a0:zO2) (h:Heap):Option (zR×Heap):=let h1:=h.push (.row yZI .own);(lA (f92 N a0 [116,114,117,101] h1) fun (x2:Bool) h3=>(bif x2 then(rA (h3.store (h.next,0) [(.int .i64 2),(.int .i64 1),(.str []),(.slice none 0 0 0)]) fun h4=>(iA (.val zE) (h4.cells (h.next,0) 4) fun (x5:zR)=>some ((x5.1,x5.2.1,x5.2.2.1,x5.2.2.2.1,()),h4)))else(lA (f92 N a0 [102,97,108,115,101] h3) fun (x6:Bool) h7=>(bif x6 then(rA (h7.store (h.next,0) [(.int .i64 2),(.int .i64 0),(.str []),(.slice none 0 0 0)]) fun h8=>(iA (.val zE) (h8.cells (h.next,0) 4) fun (x9:zR)=>some ((x9.1,x9.2.1,x9.2.2.1,x9.2.2.2.1,()),h8)))else(lA (f56 N a0 h7) fun (x10:zP) h11=>let x12:=dB x10.1 4;(bif x12 then(lA (f94 N a0 4 h11) fun (x13:zV2) h14=>(lA (f220 N x13 h14) fun (x15:zG1) h16=>(rA (h16.store (h.next,0) [(.int .i64 1),(.int .i64 x15.1),(.str []),(.slice none 0 0 0)]) fun h17=>(iA (.val zE) (h17.cells (h.next,0) 4) fun (x18:zR)=>some ((x18.1,x18.2.1,x18.2.2.1,x18.2.2.2.1,()),h17)))))else(lA (f221 N a0 h11) fun (x19:zU) h20=>(rA (h20.store (h.next,0) [(.int .i64 3),(.int .i64 0),(.str x19.1),(.slice x19.2.1.a x19.2.1.len x19.2.1.cap x19.2.1.sz)]) fun h21=>(iA (.val zE) (h21.cells (h.next,0) 4) fun (x22:zR)=>some ((x22.1,x22.2.1,x22.2.2.1,x22.2.2.2.1,()),h21))))))))))
def qB9:Ann:=.n
theorem oA7 (N:Nat):jD Tryz.prog 208 [zP2] (.val zE) (fun x h=>f208 N x.1 h):=qD (bA (uN N) (bA (tW N) (bA (tN N) (bA (eAf N) (bA (jB2 N) kA))))) N qB9 Tryz.f208
def f231 (N:Nat) (a0:zO2) (a1:zV2) (h:Heap):Option (Bool×Heap):=(rA a0 fun q1=>(iA (.val zU2) (h.cell (q1.1,q1.2+3)) fun (x2:AV)=>(iA (.val zS2) (oK E .neq 29 (.tmp 9) (.const .nilIface) x2 AV.nilIface) fun (x3:Bool)=>(bif x3 then some (false,h)else(lA (f56 N a0 h) fun (x4:zP) h5=>let x6:=!dB x4.1 1;(bif x6 then some (false,h5)else(rA a0 fun q7=>(iA (.val zQ2) (h5.cell (q7.1,q7.2+0)) fun (x8:SL)=>(rA a0 fun q9=>(iA (.val zT2) (h5.cell (q9.1,q9.2+1)) fun (x10:Int)=>let x11:=wA .i64 (x10+1);(ixK x8.a x8.len x11 3 fun q12=>(iA (.val zF) (h5.cells q12 3) fun (x13:zP)=>let h14:=h5.push (.row yZE .own);(rA (h14.store (h5.next,0) (yRH x13)) fun h15=>(cE (bif (mB (h14.cells q12 3) (.agg (yRH x13))) then (bif (mB (h5.cells q12 3) (.agg (yRH x13))) then (bif (mB (h14.cell (q9.1,q9.2+1)) (.int .i64 x10)) then (bif (mB (h5.cell (q9.1,q9.2+1)) (.int .i64 x10)) then (bif (mB (h14.cell (q7.1,q7.2+0)) (.slice x8.a x8.len x8.cap x8.sz)) then (bif (mB (h5.cell (q7.1,q7.2+0)) (.slice x8.a x8.len x8.cap x8.sz)) then true else false) else false) else false) else false) else false) else false) ((iA (.val zT2) (h15.cell ((h5.next,0).1,(h5.next,0).2+0)) fun (x16:Int)=>let x17:=dB x16 5;(bif x17 then(iA (.val zR2) (h15.cell ((h5.next,0).1,(h5.next,0).2+1)) fun (x18:zV2)=>let x19:=jB x18 a1;some (x19,h15))else some (false,h15))))))))))))))))))
def rB9:Ann:=.n
theorem gAr (N:Nat):jD Tryz.prog 231 [zP2,zR2] (.val zS2) (fun x h=>f231 N x.1 x.2.1 h):=qD (bA (tN N) kA) N rB9 Tryz.f231
def f222 (N:Nat) (a0:zO2) (h:Heap):Option (Bool×Heap):=(lA (f231 N a0 [58,58] h) fun (x1:Bool) h2=>(bif x1 then some (true,h2)else(lA (f231 N a0 [40] h2) fun (x3:Bool) h4=>some (x3,h4))))
def tB9:Ann:=.n
theorem iAr (N:Nat):jD Tryz.prog 222 [zP2] (.val zS2) (fun x h=>f222 N x.1 h):=qD (bA (gAr N) kA) N tB9 Tryz.f222
def f256 (N:Nat) (a0 a1:zO2) (h:Heap):Option ((Unit)×Heap):=(rA a0 fun q1=>(iA (.val zP2) (h.cell q1) fun (x2:zO2)=>(rA a0 fun q3=>(iA (.val zP2) (h.cell q3) fun (x4:zO2)=>(rA x4 fun q5=>(iA (.val zQ2) (h.cell (q5.1,q5.2+13)) fun (x6:SL)=>(rA a1 fun q7=>(iA (.val zP2) (h.cell q7) fun (x8:zO2)=>(lA (f94 N x8 1 h) fun (x9:zV2) h10=>let h11:=h10.push (.row [(.str x9)] .own);(tD (.val zQ2) (fB E 38 38 (.slice x6.a x6.len x6.cap x6.sz) (.slice (some (h10.next,0)) 1 1 1) h11) fun (x12:SL) h13=>(rA x2 fun q14=>(rA (h13.store (q14.1,q14.2+13) [(.slice x12.a x12.len x12.cap x12.sz)]) fun h15=>(cE (bif (rE a1 fun q=>mB (h.cell q) (.ptr x8)) then (bif (mB (h11.cell (q5.1,q5.2+13)) (.slice x6.a x6.len x6.cap x6.sz)) then (bif (mB (h10.cell (q5.1,q5.2+13)) (.slice x6.a x6.len x6.cap x6.sz)) then (bif (mB (h.cell (q5.1,q5.2+13)) (.slice x6.a x6.len x6.cap x6.sz)) then (bif (rE a0 fun q=>mB (h11.cell q) (.ptr x4)) then (bif (rE a0 fun q=>mB (h10.cell q) (.ptr x4)) then (bif (rE a0 fun q=>mB (h.cell q) (.ptr x4)) then (bif (rE a0 fun q=>mB (h13.cell q) (.ptr x2)) then (bif (rE a0 fun q=>mB (h11.cell q) (.ptr x2)) then (bif (rE a0 fun q=>mB (h10.cell q) (.ptr x2)) then (bif (rE a0 fun q=>mB (h.cell q) (.ptr x2)) then true else false) else false) else false) else false) else false) else false) else false) else false) else false) else false) else false) ((rA a1 fun q16=>(iA (.val zP2) (h15.cell q16) fun (x17:zO2)=>
 (lA (f149 N x17 [58] h15) fun (x18:(Unit)) h19=>(rA a0 fun q20=>(iA (.val zP2) (h19.cell q20) fun (x21:zO2)=>(rA a0 fun q22=>(iA (.val zP2) (h19.cell q22) fun (x23:zO2)=>(rA x23 fun q24=>(iA (.val zQ2) (h19.cell (q24.1,q24.2+14)) fun (x25:SL)=>(rA a1 fun q26=>(iA (.val zP2) (h19.cell q26) fun (x27:zO2)=>(lA (f208 N x27 h19) fun (x28:zR) h29=>let h30:=h29.push (.row (yRE x28) .own);(tD (.val zQ2) (fB E 102 102 (.slice x25.a x25.len x25.cap x25.sz) (.slice (some (h29.next,0)) 1 1 4) h30) fun (x31:SL) h32=>(rA x21 fun q33=>(rA (h32.store (q33.1,q33.2+14) [(.slice x31.a x31.len x31.cap x31.sz)]) fun h34=>(cE (bif (rE a1 fun q=>mB (h19.cell q) (.ptr x27)) then (bif (mB (h30.cell (q24.1,q24.2+14)) (.slice x25.a x25.len x25.cap x25.sz)) then (bif (mB (h29.cell (q24.1,q24.2+14)) (.slice x25.a x25.len x25.cap x25.sz)) then (bif (mB (h19.cell (q24.1,q24.2+14)) (.slice x25.a x25.len x25.cap x25.sz)) then (bif (rE a0 fun q=>mB (h30.cell q) (.ptr x23)) then (bif (rE a0 fun q=>mB (h29.cell q) (.ptr x23)) then (bif (rE a0 fun q=>mB (h19.cell q) (.ptr x23)) then (bif (rE a0 fun q=>mB (h32.cell q) (.ptr x21)) then (bif (rE a0 fun q=>mB (h30.cell q) (.ptr x21)) then (bif (rE a0 fun q=>mB (h29.cell q) (.ptr x21)) then (bif (rE a0 fun q=>mB (h19.cell q) (.ptr x21)) then true else false) else false) else false) else false) else false) else false) else false) else false) else false) else false) else false) (
 some ((()),h34))))))))))))))))))))))))))))))))
def uB9:Ann:=.n
theorem kB2 (N:Nat):jD Tryz.prog 256 [zP2,zP2] (.tup []) (fun x h=>f256 N x.1 x.2.1 h):=qD (bA (uN N) (bA (oA7 N) (bA (nJ N) kA))) N uB9 Tryz.f256
def jM (N:Nat) (go:zO2→zV2→zO→Int→Heap→Option (Out×(Unit)×Heap)) (v0:zO2) (v1:zV2) (v2:zO) (v6:Int) (h:Heap):Option (Out×(Unit)×Heap):=(lA (f188 N v0 v6 h) fun (x1:Bool) h2=>(bif x1 then(lA (f256 N v2.1 v2.2.1 h2) fun (x3:(Unit)) h4=>(lA (f93 N v0 v1 h4) fun (x5:Bool) h6=>let x7:=!x5;(bif x7 then some (Out.ret,(()),h6)else let x8:=wA .i64 (v6+1);go v0 v1 (v2.1,v2.2.1,()) x8 h6)))else some ((Out.exit 0),(()),h2)))
def kM (N M:Nat) (v0:zO2) (v1:zV2) (v2:zO) (v6:Int) (h:Heap):Option (Out×(Unit)×Heap):=iter (fun go s h=>jM N (fun v0 v1 v2 v6 h=>go (v0,v1,v2,v6,()) h) s.1 s.2.1 s.2.2.1 s.2.2.2.1 h) M (v0,v1,v2,v6,()) h
theorem uX (N M v0 v1 v2 v6 h):kM N (M+1) v0 v1 v2 v6 h=jM N (kM N M) v0 v1 v2 v6 h:=rfl
def vY (N:Nat) (a0:zO2) (a1:zV2) (a2:zO) (h:Heap):Option ((Unit)×Heap):=(pD (kM N N a0 a1 (a2.1,a2.2.1,()) 0 h) fun o9 (j10:(Unit)) h11=>(bif uD o9 (.exit 0) then some ((()),h11)else some ((()),h11)))
def pAl:Ann:=(.two .n (.two (.loop [(0,zP2),(1,zR2),(2,(.clo 256 [.ptr,.ptr])),(6,zT2)] [(.exit 0),.ret] [] .n) .n))
theorem fAf (N:Nat):jD Tryz.prog 147 [zP2,zR2,(.clo 256 [.ptr,.ptr])] (.tup []) (fun x h=>vY N x.1 x.2.1 x.2.2.1 h):=qD (bA (nG N) (bA (kB2 N) (bA (vN N) kA))) N pAl Tryz.f147
def f244 (N:Nat) (a0 a1:zO2) (h:Heap):Option ((Unit)×Heap):=let h1:=h.push (.row [(.ptr a0)] .own);let h2:=h1.push (.row [(.ptr a1)] .own);(iA (.val zP2) (h2.cell (h.next,0)) fun (x3:zO2)=>(lA (f149 N x3 [123] h2) fun (x4:(Unit)) h5=>(iA (.val zP2) (h5.cell (h.next,0)) fun (x6:zO2)=>(lA (f93 N x6 [125] h5) fun (x7:Bool) h8=>let x9:=!x7;(bif x9 then(iA (.val zP2) (h8.cell (h.next,0)) fun (x10:zO2)=>(lA (vY N x10 [44] ((some (h1.next,0)),(some (h.next,0)),()) h8) fun (x11:(Unit)) h12=>(iA (.val zP2) (h12.cell (h.next,0)) fun (x13:zO2)=>(lA (f149 N x13 [125] h12) fun (x14:(Unit)) h15=>some ((()),h15)))))else some ((()),h8))))))
def vB9:Ann:=.n
theorem lB2 (N:Nat):jD Tryz.prog 244 [zP2,zP2] (.tup []) (fun x h=>f244 N x.1 x.2.1 h):=qD (bA (nG N) (bA (nJ N) (dC (sel:=fun a=>mJ 2 256 a) (fAf N) kA))) N vB9 Tryz.f244
def f235 (N:Nat) (a0 a1:zO2) (h:Heap):Option ((Unit)×Heap):=(rA a0 fun q1=>(iA (.val zP2) (h.cell q1) fun (x2:zO2)=>(rA a0 fun q3=>(iA (.val zP2) (h.cell q3) fun (x4:zO2)=>(rA x4 fun q5=>(iA (.val zQ2) (h.cell (q5.1,q5.2+14)) fun (x6:SL)=>(rA a1 fun q7=>(iA (.val zP2) (h.cell q7) fun (x8:zO2)=>(lA (f208 N x8 h) fun (x9:zR) h10=>let h11:=h10.push (.row (yRE x9) .own);(tD (.val zQ2) (fB E 102 102 (.slice x6.a x6.len x6.cap x6.sz) (.slice (some (h10.next,0)) 1 1 4) h11) fun (x12:SL) h13=>(rA x2 fun q14=>(rA (h13.store (q14.1,q14.2+14) [(.slice x12.a x12.len x12.cap x12.sz)]) fun h15=>(cE (bif (rE a1 fun q=>mB (h.cell q) (.ptr x8)) then (bif (mB (h11.cell (q5.1,q5.2+14)) (.slice x6.a x6.len x6.cap x6.sz)) then (bif (mB (h10.cell (q5.1,q5.2+14)) (.slice x6.a x6.len x6.cap x6.sz)) then (bif (mB (h.cell (q5.1,q5.2+14)) (.slice x6.a x6.len x6.cap x6.sz)) then (bif (rE a0 fun q=>mB (h11.cell q) (.ptr x4)) then (bif (rE a0 fun q=>mB (h10.cell q) (.ptr x4)) then (bif (rE a0 fun q=>mB (h.cell q) (.ptr x4)) then (bif (rE a0 fun q=>mB (h13.cell q) (.ptr x2)) then (bif (rE a0 fun q=>mB (h11.cell q) (.ptr x2)) then (bif (rE a0 fun q=>mB (h10.cell q) (.ptr x2)) then (bif (rE a0 fun q=>mB (h.cell q) (.ptr x2)) then true else false) else false) else false) else false) else false) else false) else false) else false) else false) else false) else false) ( some ((()),h15)))))))))))))))
def wB9:Ann:=.n
theorem mB2 (N:Nat):jD Tryz.prog 235 [zP2,zP2] (.tup []) (fun x h=>f235 N x.1 x.2.1 h):=qD (bA (oA7 N) kA) N wB9 Tryz.f235
def lM (N:Nat) (go:zO2→zV2→zO→Int→Heap→Option (Out×(Unit)×Heap)) (v0:zO2) (v1:zV2) (v2:zO) (v6:Int) (h:Heap):Option (Out×(Unit)×Heap):=(lA (f188 N v0 v6 h) fun (x1:Bool) h2=>(bif x1 then(lA (f235 N v2.1 v2.2.1 h2) fun (x3:(Unit)) h4=>(lA (f93 N v0 v1 h4) fun (x5:Bool) h6=>let x7:=!x5;(bif x7 then some (Out.ret,(()),h6)else let x8:=wA .i64 (v6+1);go v0 v1 (v2.1,v2.2.1,()) x8 h6)))else some ((Out.exit 0),(()),h2)))
def mM (N M:Nat) (v0:zO2) (v1:zV2) (v2:zO) (v6:Int) (h:Heap):Option (Out×(Unit)×Heap):=iter (fun go s h=>lM N (fun v0 v1 v2 v6 h=>go (v0,v1,v2,v6,()) h) s.1 s.2.1 s.2.2.1 s.2.2.2.1 h) M (v0,v1,v2,v6,()) h
theorem vX (N M v0 v1 v2 v6 h):mM N (M+1) v0 v1 v2 v6 h=lM N (mM N M) v0 v1 v2 v6 h:=rfl
def wY (N:Nat) (a0:zO2) (a1:zV2) (a2:zO) (h:Heap):Option ((Unit)×Heap):=(pD (mM N N a0 a1 (a2.1,a2.2.1,()) 0 h) fun o9 (j10:(Unit)) h11=>(bif uD o9 (.exit 0) then some ((()),h11)else some ((()),h11)))
def qAl:Ann:=(.two .n (.two (.loop [(0,zP2),(1,zR2),(2,(.clo 235 [.ptr,.ptr])),(6,zT2)] [(.exit 0),.ret] [] .n) .n))
theorem gAf (N:Nat):jD Tryz.prog 147 [zP2,zR2,(.clo 235 [.ptr,.ptr])] (.tup []) (fun x h=>wY N x.1 x.2.1 x.2.2.1 h):=qD (bA (nG N) (bA (mB2 N) (bA (vN N) kA))) N qAl Tryz.f147
def f223 (N:Nat) (a0 a1:zO2) (h:Heap):Option ((Unit)×Heap):=let h1:=h.push (.row [(.ptr a0)] .own);let h2:=h1.push (.row [(.ptr a1)] .own);(iA (.val zP2) (h2.cell (h.next,0)) fun (x3:zO2)=>(lA (f149 N x3 [40] h2) fun (x4:(Unit)) h5=>(iA (.val zP2) (h5.cell (h.next,0)) fun (x6:zO2)=>(lA (f93 N x6 [41] h5) fun (x7:Bool) h8=>let x9:=!x7;(bif x9 then(iA (.val zP2) (h8.cell (h.next,0)) fun (x10:zO2)=>(lA (wY N x10 [44] ((some (h1.next,0)),(some (h.next,0)),()) h8) fun (x11:(Unit)) h12=>(iA (.val zP2) (h12.cell (h.next,0)) fun (x13:zO2)=>(lA (f149 N x13 [41] h12) fun (x14:(Unit)) h15=>some ((()),h15)))))else some ((()),h8))))))
def yB9:Ann:=.n
theorem jAr (N:Nat):jD Tryz.prog 223 [zP2,zP2] (.tup []) (fun x h=>f223 N x.1 x.2.1 h):=qD (bA (nG N) (bA (nJ N) (dC (sel:=fun a=>mJ 2 235 a) (gAf N) kA))) N yB9 Tryz.f223
def f232 (N:Nat) (a0:zO2) (h:Heap):Option (zN×Heap):=let h1:=h.push (.row yZB .own);(lA (f95 N a0 h1) fun (x2:zV2) h3=>let h4:=h3.push (.row yZB .own);(rA (h4.store (h3.next,0) [(.int .i64 6),(.int .i64 0),(.int .i64 0),(.str []),(.slice none 0 0 0),(.int .i64 0),(.int .i64 0),(.str []),(.slice none 0 0 0),(.int .i64 0),(.str []),(.slice none 0 0 0),(.str x2),(.slice none 0 0 0),(.slice none 0 0 0)]) fun h5=>(lA (f146 N a0 5 [123] h5) fun (x6:Bool) h7=>(bif x6 then(rA (h7.store ((h3.next,0).1,(h3.next,0).2+0) [(.int .i64 7)]) fun h8=>(lA (f244 N a0 (some (h3.next,0)) h8) fun (x9:(Unit)) h10=>(iA (.val zB) (h10.cells (h3.next,0) 15) fun (x11:zN)=>(rA (h10.store (h.next,0) (yRB x11)) fun h12=>(iA (.val zB) (h12.cells (h.next,0) 15) fun (x13:zN)=>some ((x13.1,x13.2.1,x13.2.2.1,x13.2.2.2.1,x13.2.2.2.2.1,x13.2.2.2.2.2.1,x13.2.2.2.2.2.2.1,x13.2.2.2.2.2.2.2.1,x13.2.2.2.2.2.2.2.2.1,x13.2.2.2.2.2.2.2.2.2.1,x13.2.2.2.2.2.2.2.2.2.2.1,x13.2.2.2.2.2.2.2.2.2.2.2.1,x13.2.2.2.2.2.2.2.2.2.2.2.2.1,x13.2.2.2.2.2.2.2.2.2.2.2.2.2.1,x13.2.2.2.2.2.2.2.2.2.2.2.2.2.2.1,()),h12))))))else(lA (f223 N a0 (some (h3.next,0)) h7) fun (x14:(Unit)) h15=>(iA (.val zB) (h15.cells (h3.next,0) 15) fun (x16:zN)=>(rA (h15.store (h.next,0) (yRB x16)) fun h17=>(iA (.val zB) (h17.cells (h.next,0) 15) fun (x18:zN)=>some ((x18.1,x18.2.1,x18.2.2.1,x18.2.2.2.1,x18.2.2.2.2.1,x18.2.2.2.2.2.1,x18.2.2.2.2.2.2.1,x18.2.2.2.2.2.2.2.1,x18.2.2.2.2.2.2.2.2.1,x18.2.2.2.2.2.2.2.2.2.1,x18.2.2.2.2.2.2.2.2.2.2.1,x18.2.2.2.2.2.2.2.2.2.2.2.1,x18.2.2.2.2.2.2.2.2.2.2.2.2.1,x18.2.2.2.2.2.2.2.2.2.2.2.2.2.1,x18.2.2.2.2.2.2.2.2.2.2.2.2.2.2.1,()),h17)))))))))
def aBa:Ann:=.n
theorem pB2 (N:Nat):jD Tryz.prog 232 [zP2] (.val zB) (fun x h=>f232 N x.1 h):=qD (bA (jAp N) (bA (lB2 N) (bA (jAr N) (bA (dA1 N) kA)))) N aBa Tryz.f232
def wT (N:Nat) (go:zO2→zO2→zO2→SL→Int→Int→Heap→Option (Out×zO×Heap)) (v0 v2 v4:zO2) (v34:SL) (v35 v36:Int) (h:Heap):Option (Out×zO×Heap):=let x36:=qB v36 v35;(bif x36 then(ixK v34.a v34.len v36 1 fun q37=>(iA (.val zR2) (h.cell q37) fun (x38:zV2)=>(lA (f93 N v0 x38 h) fun (x39:Bool) h40=>(bif x39 then let x41:=wA .i64 (1+v36);(lA (f208 N v0 h40) fun (x42:zR) h43=>(rA v4 fun q44=>(rA (h43.store (q44.1,q44.2+0) [(.int .i64 5)]) fun h45=>(rA v4 fun q46=>(rA (h45.store (q46.1,q46.2+9) [(.int .i64 x41)]) fun h47=>(rA v4 fun q48=>(rA (h47.store (q48.1,q48.2+5) (yRE x42)) fun h49=>some ((Out.exit 1),(v2,v4,()),h49))))))))else let x50:=wA .i64 (v36+1);go v0 v2 v4 v34 v35 x50 h40))))else some ((Out.exit 1),(v2,v4,()),h))
def pA7 (N M:Nat) (v0 v2 v4:zO2) (v34:SL) (v35 v36:Int) (h:Heap):Option (Out×zO×Heap):=iter (fun go s h=>wT N (fun v0 v2 v4 v34 v35 v36 h=>go (v0,v2,v4,v34,v35,v36,()) h) s.1 s.2.1 s.2.2.1 s.2.2.2.1 s.2.2.2.2.1 s.2.2.2.2.2.1 h) M (v0,v2,v4,v34,v35,v36,()) h
theorem yW (N M v0 v2 v4 v34 v35 v36 h):pA7 N (M+1) v0 v2 v4 v34 v35 v36 h=wT N (pA7 N M) v0 v2 v4 v34 v35 v36 h:=rfl
def f219 (N:Nat) (a0:zO2) (h:Heap):Option (zN×Heap):=let h1:=h.push (.row yZB .own);(rA (α:=Sum (zO×Heap) (Sum ((zO2×Unit)×Heap) (Empty))) ((lA (f93 N a0 [38] h1) fun (x2:Bool) h3=>(bif x2 then(lA (α:=zC2) ((lA (f92 N a0 [109,117,116] h3) fun (x4:Bool) h5=>(bif x4 then some ((a0,(some (h.next,0)),3,()),h5)else some ((a0,(some (h.next,0)),2,()),h5)))) fun (j6:zC2) h7=>(lA (f221 N j6.1 h7) fun (x8:zU) h9=>(rA j6.2.1 fun q11=>(rA (h9.store q11 [(.int .i64 j6.2.2.1),(.int .i64 0),(.int .i64 0),(.str []),(.slice none 0 0 0),(.int .i64 0),(.int .i64 0),(.str []),(.slice none 0 0 0),(.int .i64 0),(.str x8.1),(.slice x8.2.1.a x8.2.1.len x8.2.1.cap x8.2.1.sz),(.str []),(.slice none 0 0 0),(.slice none 0 0 0)]) fun h10=>some (Sum.inr (Sum.inl ((j6.2.1,()),h10)))))))else(lA (f93 N a0 [33] h3) fun (x12:Bool) h13=>(bif x12 then(lA (f208 N a0 h13) fun (x14:zR) h15=>(rA (h15.store (h.next,0) [(.int .i64 4),(.int .i64 x14.1),(.int .i64 x14.2.1),(.str x14.2.2.1),(.slice x14.2.2.2.1.a x14.2.2.2.1.len x14.2.2.2.1.cap x14.2.2.2.1.sz),(.int .i64 0),(.int .i64 0),(.str []),(.slice none 0 0 0),(.int .i64 0),(.str []),(.slice none 0 0 0),(.str []),(.slice none 0 0 0),(.slice none 0 0 0)]) fun h16=>some (Sum.inr (Sum.inl (((some (h.next,0)),()),h16)))))else(lA (α:=zA2) ((lA (f222 N a0 h13) fun (x17:Bool) h18=>(bif x17 then some ((a0,(some (h.next,0)),true,()),h18)else(lA (f231 N a0 [123] h18) fun (x19:Bool) h20=>some ((a0,(some (h.next,0)),x19,()),h20))))) fun (j21:zA2) h22=>
 (bif j21.2.2.1 then(lA (f232 N j21.1 h22) fun (x23:zN) h24=>(rA j21.2.1 fun q26=>(rA (h24.store q26 (yRB x23)) fun h25=>some (Sum.inr (Sum.inl ((j21.2.1,()),h25))))))else some (Sum.inl ((j21.1,j21.2.1,()),h22))))))))) fun j27=>(jE j27 (fun (j28:zO) h29=>(lA (f208 N j28.1 h29) fun (x31:zR) h32=>let h33:=h32.push (.row yZB .own);(rA (h33.store (h32.next,0) [(.int .i64 1),(.int .i64 x31.1),(.int .i64 x31.2.1),(.str x31.2.2.1),(.slice x31.2.2.2.1.a x31.2.2.2.1.len x31.2.2.2.1.cap x31.2.2.2.1.sz),(.int .i64 0),(.int .i64 0),(.str []),(.slice none 0 0 0),(.int .i64 0),(.str []),(.slice none 0 0 0),(.str []),(.slice none 0 0 0),(.slice none 0 0 0)]) fun h34=>let h35:=h34.push (.row [(.str [43]),(.str [45]),(.str [60]),(.str [61,61])] .own);(pD (pA7 N N j28.1 j28.2.1 (some (h32.next,0)) ⟨(some (h34.next,0)),4,4,1⟩ (Int.ofNat 4) 0 h35) fun _ (j52:zO) h53=>(rA j52.2.1 fun q54=>(iA (.val zB) (h53.cells q54 15) fun (x55:zN)=>(rA j52.1 fun q57=>(rA (h53.store q57 (yRB x55)) fun h56=>(rA j52.1 fun q58=>(iA (.val zB) (h56.cells q58 15) fun (x59:zN)=>some ((x59.1,x59.2.1,x59.2.2.1,x59.2.2.2.1,x59.2.2.2.2.1,x59.2.2.2.2.2.1,x59.2.2.2.2.2.2.1,x59.2.2.2.2.2.2.2.1,x59.2.2.2.2.2.2.2.2.1,x59.2.2.2.2.2.2.2.2.2.1,x59.2.2.2.2.2.2.2.2.2.2.1,x59.2.2.2.2.2.2.2.2.2.2.2.1,x59.2.2.2.2.2.2.2.2.2.2.2.2.1,x59.2.2.2.2.2.2.2.2.2.2.2.2.2.1,x59.2.2.2.2.2.2.2.2.2.2.2.2.2.2.1,()),h56))))))))))) fun j30=>(jE j30 (fun (j60:(zO2×Unit)) h61=>(rA j60.1 fun q63=>(iA (.val zB) (h61.cells q63 15) fun (x64:zN)=>
 some ((x64.1,x64.2.1,x64.2.2.1,x64.2.2.2.1,x64.2.2.2.2.1,x64.2.2.2.2.2.1,x64.2.2.2.2.2.2.1,x64.2.2.2.2.2.2.2.1,x64.2.2.2.2.2.2.2.2.1,x64.2.2.2.2.2.2.2.2.2.1,x64.2.2.2.2.2.2.2.2.2.2.1,x64.2.2.2.2.2.2.2.2.2.2.2.1,x64.2.2.2.2.2.2.2.2.2.2.2.2.1,x64.2.2.2.2.2.2.2.2.2.2.2.2.2.1,x64.2.2.2.2.2.2.2.2.2.2.2.2.2.2.1,()),h61)))) fun _=>none)))
def bBa:Ann:=(.two .n (.two (.joinO [(.norm,[(0,zP2),(2,zP2)]),(.ret,[(2,zP2)])] (.two (.two .n (.two (.two .n (.two (.join [(0,zP2),(2,zP2),(3,zT2)] .n) .n)) (.two .n (.two .n (.two (.join [(0,zP2),(2,zP2),(22,zS2)] .n) .n))))) .n)) (.two .n (.two (.two .n (.two (.loop [(0,zP2),(2,zP2),(4,zP2),(34,zQ2),(35,zT2),(36,zT2)] [(.exit 1)] [(2,zP2),(4,zP2)] .n) .n)) .n))))
theorem kAr (N:Nat):jD Tryz.prog 219 [zP2] (.val zB) (fun x h=>f219 N x.1 h):=qD (bA (nG N) (bA (tW N) (bA (pB2 N) (bA (gAr N) (bA (iAr N) (bA (eAf N) (bA (oA7 N) kA))))))) N bBa Tryz.f219
def f207 (N:Nat) (a0 a1:zO2) (h:Heap):Option ((Unit)×Heap):=(lA (f92 N a0 [109,117,116] h) fun (x1:Bool) h2=>(rA a1 fun q3=>(rA (h2.store (q3.1,q3.2+0) [(.int .i64 1)]) fun h4=>(rA a1 fun q5=>(rA (h4.store (q5.1,q5.2+2) [(.bool x1)]) fun h6=>(lA (f154 N a0 h6) fun (x7:zV) h8=>let h9:=h8.push (.row yZF .own);(rA (h9.store (h8.next,0) (yRF x7)) fun h10=>(iA (.val zR2) (h10.cell ((h8.next,0).1,(h8.next,0).2+1)) fun (x11:zV2)=>(iA (.val zC) (h10.cells ((h8.next,0).1,(h8.next,0).2+2) 4) fun (x12:zM)=>(rA a1 fun q13=>(rA (h10.store (q13.1,q13.2+3) [(.str x11)]) fun h14=>(rA a1 fun q15=>(rA (h14.store (q15.1,q15.2+4) (yRD x12)) fun h16=>(cE (bif (mB (h14.cells ((h8.next,0).1,(h8.next,0).2+2) 4) (.agg (yRD x12))) then (bif (mB (h10.cells ((h8.next,0).1,(h8.next,0).2+2) 4) (.agg (yRD x12))) then (bif (mB (h10.cell ((h8.next,0).1,(h8.next,0).2+1)) (.str x11)) then true else false) else false) else false) ((lA (f93 N a0 [61] h16) fun (x17:Bool) h18=>(rA a1 fun q19=>(rA (h18.store (q19.1,q19.2+8) [(.bool x17)]) fun h20=>(rA a1 fun q21=>(iA (.val zS2) (h20.cell (q21.1,q21.2+8)) fun (x22:Bool)=>(bif x22 then(lA (f219 N a0 h20) fun (x23:zN) h24=>(rA a1 fun q25=>(rA (h24.store (q25.1,q25.2+11) (yRB x23)) fun h26=>(lA (f149 N a0 [59] h26) fun (x27:(Unit)) h28=>some ((()),h28)))))else(lA (f149 N a0 [59] h20) fun (x29:(Unit)) h30=>some ((()),h30)))))))))))))))))))))))
def cBa:Ann:=.n
theorem qB2 (N:Nat):jD Tryz.prog 207 [zP2,zP2] (.tup []) (fun x h=>f207 N x.1 x.2.1 h):=qD (bA (nG N) (bA (tW N) (bA (kAr N) (bA (yAe N) (bA (nJ N) kA))))) N cBa Tryz.f207
def f209 (N:Nat) (a0 a1:zO2) (h:Heap):Option ((Unit)×Heap):=(lA (f92 N a0 [98,114,101,97,107] h) fun (x1:Bool) h2=>(bif x1 then(rA a1 fun q3=>(rA (h2.store (q3.1,q3.2+0) [(.int .i64 8)]) fun h4=>some ((()),h4)))else(lA (f92 N a0 [99,111,110,116,105,110,117,101] h2) fun (x5:Bool) h6=>(bif x5 then(rA a1 fun q7=>(rA (h6.store (q7.1,q7.2+0) [(.int .i64 9)]) fun h8=>some ((()),h8)))else(lA (f92 N a0 [114,101,116,117,114,110] h6) fun (x9:Bool) h10=>(bif x9 then(rA a1 fun q11=>(rA (h10.store (q11.1,q11.2+0) [(.int .i64 10)]) fun h12=>(lA (f146 N a0 5 [59] h12) fun (x13:Bool) h14=>let x15:=!x13;(rA a1 fun q16=>(rA (h14.store (q16.1,q16.2+8) [(.bool x15)]) fun h17=>(rA a1 fun q18=>(iA (.val zS2) (h17.cell (q18.1,q18.2+8)) fun (x19:Bool)=>(bif x19 then(lA (f219 N a0 h17) fun (x20:zN) h21=>(rA a1 fun q22=>(rA (h21.store (q22.1,q22.2+11) (yRB x20)) fun h23=>some ((()),h23))))else some ((()),h17)))))))))else(lA (f92 N a0 [100,114,111,112] h10) fun (x24:Bool) h25=>(bif x24 then(lA (f221 N a0 h25) fun (x26:zU) h27=>(rA a1 fun q28=>(rA (h27.store (q28.1,q28.2+0) [(.int .i64 11)]) fun h29=>(rA a1 fun q30=>(rA (h29.store (q30.1,q30.2+9) (yRI x26)) fun h31=>some ((()),h31))))))else(lA (f222 N a0 h25) fun (x32:Bool) h33=>(bif x32 then(lA (f95 N a0 h33) fun (x34:zV2) h35=>(rA a1 fun q36=>(rA (h35.store (q36.1,q36.2+0) [(.int .i64 3)]) fun h37=>(rA a1 fun q38=>(rA (h37.store (q38.1,q38.2+11) [(.int .i64 6),(.int .i64 0),(.int .i64 0),(.str []),(.slice none 0 0 0),(.int .i64 0),(.int .i64 0),(.str []),(.slice none 0 0 0),(.int .i64 0),(.str []),(.slice none 0 0 0),(.str x34),(.slice none 0 0 0),(.slice none 0 0 0)]) fun h39=>
 (rA a1 fun q40=>(lA (f223 N a0 (some (q40.1,q40.2+11)) h39) fun (x41:(Unit)) h42=>some ((()),h42))))))))else(lA (f221 N a0 h33) fun (x43:zU) h44=>(rA a1 fun q45=>(rA (h44.store (q45.1,q45.2+0) [(.int .i64 2)]) fun h46=>(rA a1 fun q47=>(rA (h46.store (q47.1,q47.2+9) (yRI x43)) fun h48=>(lA (f149 N a0 [61] h48) fun (x49:(Unit)) h50=>(lA (f219 N a0 h50) fun (x51:zN) h52=>(rA a1 fun q53=>(rA (h52.store (q53.1,q53.2+11) (yRB x51)) fun h54=>some ((()),h54))))))))))))))))))))
def dBa:Ann:=.n
theorem rB2 (N:Nat):jD Tryz.prog 209 [zP2,zP2] (.tup []) (fun x h=>f209 N x.1 x.2.1 h):=qD (bA (jAp N) (bA (tW N) (bA (jAr N) (bA (iAr N) (bA (eAf N) (bA (kAr N) (bA (nJ N) (bA (dA1 N) kA)))))))) N dBa Tryz.f209
def bO (N:Nat) (rec158:zO2→Int→Heap→Option (SL×Heap)) (rec190:zO2→Int→Heap→Option (zL×Heap)) (go:zO2→Int→SL→SL→Heap→Option (Out×zE1×Heap)) (v0:zO2) (v1:Int) (v4 v5:SL) (h:Heap):Option (Out×zE1×Heap):=(rA v0 fun q8=>(iA (.val zU2) (h.cell (q8.1,q8.2+3)) fun (x9:AV)=>(iA (.val zS2) (oK E .eql 29 (.tmp 15) (.const .nilIface) x9 AV.nilIface) fun (x10:Bool)=>(bif x10 then(lA (f93 N v0 [125] h) fun (x11:Bool) h12=>let x13:=!x11;(bif x13 then(lA (α:=zG2) ((rA v0 fun q14=>(iA (.val zT2) (h12.cell (q14.1,q14.2+2)) fun (x15:Int)=>let x16:=dB x15 2000;(bif x16 then(lA (f56 N v0 h12) fun (x17:zP) h18=>let x19:=!dB x17.1 0;some ((v0,v1,v4,v5,x19,()),h18))else some ((v0,v1,v4,v5,false,()),h12))))) fun (j20:zG2) h21=>(bif j20.2.2.2.2.1 then(lA (f57 N j20.1 5 h21) fun (x22:(Unit)) h23=>some (Out.ret,(⟨none,0,0,0⟩,j20.2.2.2.1,()),h23))else(rA j20.1 fun q24=>(iA (.val zT2) (h21.cell (q24.1,q24.2+2)) fun (x25:Int)=>let x26:=wA .i64 (x25+1);(rA j20.1 fun q27=>(rA (h21.store (q27.1,q27.2+2) [(.int .i64 x26)]) fun h28=>(lA (rec190 j20.1 j20.2.1 h28) fun (x29:zL) h30=>let h31:=h30.push (.row (yRA x29) .own);(tD (.val zQ2) (fB E 42 42 (.slice j20.2.2.2.1.a j20.2.2.2.1.len j20.2.2.2.1.cap j20.2.2.2.1.sz) (.slice (some (h30.next,0)) 1 1 32) h31) fun (x32:SL) h33=>go j20.1 j20.2.1 j20.2.2.1 x32 h33))))))))else some ((Out.exit 0),(v4,v5,()),h12)))else some ((Out.exit 0),(v4,v5,()),h)))))
def pA1 (N:Nat) (rec158:zO2→Int→Heap→Option (SL×Heap)) (rec190:zO2→Int→Heap→Option (zL×Heap)) (M:Nat) (v0:zO2) (v1:Int) (v4 v5:SL) (h:Heap):Option (Out×zE1×Heap):=iter (fun go s h=>bO N rec158 rec190 (fun v0 v1 v4 v5 h=>go (v0,v1,v4,v5,()) h) s.1 s.2.1 s.2.2.1 s.2.2.2.1 h) M (v0,v1,v4,v5,()) h
theorem fO (N rec158 rec190 M v0 v1 v4 v5 h):pA1 N rec158 rec190 (M+1) v0 v1 v4 v5 h=bO N rec158 rec190 (pA1 N rec158 rec190 M) v0 v1 v4 v5 h:=rfl
def qAi (N:Nat) (rec158:zO2→Int→Heap→Option (SL×Heap)) (rec190:zO2→Int→Heap→Option (zL×Heap)) (a0:zO2) (a1:Int) (h:Heap):Option (SL×Heap):=(lA (α:=zL2) ( let x1:=qB 64 a1;(bif x1 then(lA (f57 N a0 6 h) fun (x2:(Unit)) h3=>some ((a0,a1,⟨none,0,0,0⟩,()),h3))else some ((a0,a1,⟨none,0,0,0⟩,()),h))) fun (j4:zL2) h5=>(lA (f149 N j4.1 [123] h5) fun (x6:(Unit)) h7=>(pD (pA1 N rec158 rec190 N j4.1 j4.2.1 j4.2.2.1 ⟨none,0,0,0⟩ h7) fun o34 (j35:zE1) h36=>(bif uD o34 (.exit 0) then some (j35.2.1,h36)else some (j35.1,h36)))))
def eBa:Ann:=(.two .n (.two (.join [(0,zP2),(1,zT2),(4,zQ2)] .n) (.two .n (.two .n (.two (.two (.loop [(0,zP2),(1,zT2),(4,zQ2),(5,zQ2)] [(.exit 0),.ret] [(4,zQ2),(5,zQ2)] (.two .n (.two (.two (.two (.join [(0,zP2),(1,zT2),(4,zQ2),(5,zQ2),(32,zS2)] .n) .n) .n) .n))) .n) .n)))))
def rAi (N:Nat) (rec158:zO2→Int→Heap→Option (SL×Heap)) (rec190:zO2→Int→Heap→Option (zL×Heap)) (a0:zO2) (a1:Int) (h:Heap):Option (zL×Heap):=let h1:=h.push (.row yZA .own);(lA (f56 N a0 h1) fun (x2:zP) h3=>let h4:=h3.push (.row yZE .own);(rA (h4.store (h3.next,0) (yRH x2)) fun h5=>(iA (.val zT2) (h5.cell ((h3.next,0).1,(h3.next,0).2+2)) fun (x6:Int)=>let h7:=h5.push (.row yZA .own);(rA (h7.store (h5.next,0) [(.int .i64 0),(.int .i64 x6),(.bool false),(.str []),(.int .i64 0),(.str []),(.slice none 0 0 0),(.slice none 0 0 0),(.bool false),(.str []),(.slice none 0 0 0),(.int .i64 0),(.int .i64 0),(.int .i64 0),(.str []),(.slice none 0 0 0),(.int .i64 0),(.int .i64 0),(.str []),(.slice none 0 0 0),(.int .i64 0),(.str []),(.slice none 0 0 0),(.str []),(.slice none 0 0 0),(.slice none 0 0 0),(.int .i64 0),(.int .i64 0),(.str []),(.slice none 0 0 0),(.slice none 0 0 0),(.slice none 0 0 0)]) fun h8=>(lA (α:=zO) ((lA (f92 N a0 [108,101,116] h8) fun (x9:Bool) h10=>(bif x9 then(lA (f207 N a0 (some (h5.next,0)) h10) fun (x11:(Unit)) h12=>some (((some (h.next,0)),(some (h5.next,0)),()),h12))else(lA (f92 N a0 [105,102] h10) fun (x13:Bool) h14=>(bif x13 then(lA (f208 N a0 h14) fun (x15:zR) h16=>(rA (h16.store ((h5.next,0).1,(h5.next,0).2+0) [(.int .i64 4)]) fun h17=>(rA (h17.store ((h5.next,0).1,(h5.next,0).2+26) (yRE x15)) fun h18=>let x19:=wA .i64 (a1+1);(lA (rec158 a0 x19 h18) fun (x20:SL) h21=>(rA (h21.store ((h5.next,0).1,(h5.next,0).2+30) [(.slice x20.a x20.len x20.cap x20.sz)]) fun h22=>
 (lA (f92 N a0 [101,108,115,101] h22) fun (x23:Bool) h24=>(rA (h24.store ((h5.next,0).1,(h5.next,0).2+8) [(.bool x23)]) fun h25=>(iA (.val zS2) (h25.cell ((h5.next,0).1,(h5.next,0).2+8)) fun (x26:Bool)=>(bif x26 then let x27:=wA .i64 (a1+1);(lA (rec158 a0 x27 h25) fun (x28:SL) h29=>(rA (h29.store ((h5.next,0).1,(h5.next,0).2+31) [(.slice x28.a x28.len x28.cap x28.sz)]) fun h30=>some (((some (h.next,0)),(some (h5.next,0)),()),h30)))else some (((some (h.next,0)),(some (h5.next,0)),()),h25))))))))))else(lA (f92 N a0 [119,104,105,108,101] h14) fun (x31:Bool) h32=>(bif x31 then(lA (f208 N a0 h32) fun (x33:zR) h34=>(rA (h34.store ((h5.next,0).1,(h5.next,0).2+0) [(.int .i64 5)]) fun h35=>(rA (h35.store ((h5.next,0).1,(h5.next,0).2+26) (yRE x33)) fun h36=>let x37:=wA .i64 (a1+1);(lA (rec158 a0 x37 h36) fun (x38:SL) h39=>(rA (h39.store ((h5.next,0).1,(h5.next,0).2+30) [(.slice x38.a x38.len x38.cap x38.sz)]) fun h40=>some (((some (h.next,0)),(some (h5.next,0)),()),h40))))))else(lA (f92 N a0 [108,111,111,112] h32) fun (x41:Bool) h42=>(bif x41 then let x43:=wA .i64 (a1+1);(lA (rec158 a0 x43 h42) fun (x44:SL) h45=>(rA (h45.store ((h5.next,0).1,(h5.next,0).2+0) [(.int .i64 6)]) fun h46=>(rA (h46.store ((h5.next,0).1,(h5.next,0).2+30) [(.slice x44.a x44.len x44.cap x44.sz)]) fun h47=>some (((some (h.next,0)),(some (h5.next,0)),()),h47))))else(lA (f146 N a0 5 [123] h42) fun (x48:Bool) h49=>(bif x48 then let x50:=wA .i64 (a1+1);(lA (rec158 a0 x50 h49) fun (x51:SL) h52=>
 (rA (h52.store ((h5.next,0).1,(h5.next,0).2+0) [(.int .i64 7)]) fun h53=>(rA (h53.store ((h5.next,0).1,(h5.next,0).2+30) [(.slice x51.a x51.len x51.cap x51.sz)]) fun h54=>some (((some (h.next,0)),(some (h5.next,0)),()),h54))))else(lA (f209 N a0 (some (h5.next,0)) h49) fun (x55:(Unit)) h56=>(lA (f149 N a0 [59] h56) fun (x57:(Unit)) h58=>some (((some (h.next,0)),(some (h5.next,0)),()),h58)))))))))))))) fun (j59:zO) h60=>(rA j59.2.1 fun q61=>(iA (.val zA) (h60.cells q61 32) fun (x62:zL)=>(rA j59.1 fun q64=>(rA (h60.store q64 (yRA x62)) fun h63=>(rA j59.1 fun q65=>(iA (.val zA) (h63.cells q65 32) fun (x66:zL)=>some ((x66.1,x66.2.1,x66.2.2.1,x66.2.2.2.1,x66.2.2.2.2.1,x66.2.2.2.2.2.1,x66.2.2.2.2.2.2.1,x66.2.2.2.2.2.2.2.1,x66.2.2.2.2.2.2.2.2.1,x66.2.2.2.2.2.2.2.2.2.1,x66.2.2.2.2.2.2.2.2.2.2.1,x66.2.2.2.2.2.2.2.2.2.2.2.1,x66.2.2.2.2.2.2.2.2.2.2.2.2.1,x66.2.2.2.2.2.2.2.2.2.2.2.2.2.1,x66.2.2.2.2.2.2.2.2.2.2.2.2.2.2.1,x66.2.2.2.2.2.2.2.2.2.2.2.2.2.2.2.1,x66.2.2.2.2.2.2.2.2.2.2.2.2.2.2.2.2.1,x66.2.2.2.2.2.2.2.2.2.2.2.2.2.2.2.2.2.1,x66.2.2.2.2.2.2.2.2.2.2.2.2.2.2.2.2.2.2.1,x66.2.2.2.2.2.2.2.2.2.2.2.2.2.2.2.2.2.2.2.1,x66.2.2.2.2.2.2.2.2.2.2.2.2.2.2.2.2.2.2.2.2.1,x66.2.2.2.2.2.2.2.2.2.2.2.2.2.2.2.2.2.2.2.2.2.1,x66.2.2.2.2.2.2.2.2.2.2.2.2.2.2.2.2.2.2.2.2.2.2.1,x66.2.2.2.2.2.2.2.2.2.2.2.2.2.2.2.2.2.2.2.2.2.2.2.1,x66.2.2.2.2.2.2.2.2.2.2.2.2.2.2.2.2.2.2.2.2.2.2.2.2.1,x66.2.2.2.2.2.2.2.2.2.2.2.2.2.2.2.2.2.2.2.2.2.2.2.2.2.1,x66.2.2.2.2.2.2.2.2.2.2.2.2.2.2.2.2.2.2.2.2.2.2.2.2.2.2.1,x66.2.2.2.2.2.2.2.2.2.2.2.2.2.2.2.2.2.2.2.2.2.2.2.2.2.2.2.1,x66.2.2.2.2.2.2.2.2.2.2.2.2.2.2.2.2.2.2.2.2.2.2.2.2.2.2.2.2.1,x66.2.2.2.2.2.2.2.2.2.2.2.2.2.2.2.2.2.2.2.2.2.2.2.2.2.2.2.2.2.1,x66.2.2.2.2.2.2.2.2.2.2.2.2.2.2.2.2.2.2.2.2.2.2.2.2.2.2.2.2.2.2.1,x66.2.2.2.2.2.2.2.2.2.2.2.2.2.2.2.2.2.2.2.2.2.2.2.2.2.2.2.2.2.2.2.1,()),h63))))))))))))
def fBa:Ann:=(.two .n (.two .n (.two .n (.two (.join [(4,zP2),(6,zP2)] .n) .n))))
def lAr (N M:Nat):((zO2→Int→Heap→Option (SL×Heap))×(zO2→Int→Heap→Option (zL×Heap))×Unit):=Nat.rec (fun _ _ _=>none,fun _ _ _=>none,()) (fun _ r=>(qAi N r.1 r.2.1,rAi N r.1 r.2.1,())) M
def f158 (N M:Nat):zO2→Int→Heap→Option (SL×Heap):=(lAr N M).1
def f190 (N M:Nat):zO2→Int→Heap→Option (zL×Heap):=(lAr N M).2.1
theorem qAb (N M a0 a1 h):f158 N (M+1) a0 a1 h=qAi N (f158 N M) (f190 N M) a0 a1 h:=rfl
theorem mAr (N M a0 a1 h):f190 N (M+1) a0 a1 h=rAi N (f158 N M) (f190 N M) a0 a1 h:=rfl
theorem mR (N:Nat):∀ M:Nat,(jD Tryz.prog 158 [zP2,zT2] (.val zQ2) (fun x h=>f158 N M x.1 x.2.1 h))∧(jD Tryz.prog 190 [zP2,zT2] (.val zA) (fun x h=>f190 N M x.1 x.2.1 h))∧True
 | 0=>⟨(fun xs h r h' hx=>by cases hx),(fun xs h r h' hx=>by cases hx),trivial⟩
 | M+1=>⟨qD (bA (nG N) (bA (rW N) (bA (tN N) (bA (mR N M).2.1 (bA (nJ N) kA))))) N eBa Tryz.f158,qD (bA (tW N) (bA (tN N) (bA (rB2 N) (bA (oA7 N) (bA (qB2 N) (bA (mR N M).1 (bA (nJ N) (bA (dA1 N) kA)))))))) N fBa Tryz.f190,trivial⟩
theorem tB2 (N:Nat):jD Tryz.prog 158 [zP2,zT2] (.val zQ2) (fun x h=>f158 N N x.1 x.2.1 h):=(mR N N).1
def f103 (N:Nat) (a0:zO2) (a1:Bool) (a2:Int) (h:Heap):Option (zS×Heap):=let h1:=h.push (.row [(.ptr a0)] .own);let h2:=h1.push (.row yZC .own);(iA (.val zP2) (h2.cell (h.next,0)) fun (x3:zO2)=>(rA x3 fun q4=>(rA (h2.store (q4.1,q4.2+2) yZK) fun h5=>(iA (.val zP2) (h5.cell (h.next,0)) fun (x6:zO2)=>(lA (f94 N x6 1 h5) fun (x7:zV2) h8=>let h9:=h8.push (.row yZC .own);(rA (h9.store (h8.next,0) [(.bool a1),(.str x7),(.slice none 0 0 0),(.slice none 0 0 0),(.int .i64 0),(.str []),(.slice none 0 0 0),(.slice none 0 0 0),(.slice none 0 0 0),(.int .i64 a2)]) fun h10=>(lA (α:=zT) ((iA (.val zP2) (h10.cell (h.next,0)) fun (x11:zO2)=>(lA (f93 N x11 [60] h10) fun (x12:Bool) h13=>(bif x12 then(iA (.val zP2) (h13.cell (h.next,0)) fun (x14:zO2)=>(lA (tT N x14 [44] ((some (h8.next,0)),(some (h.next,0)),()) h13) fun (x15:(Unit)) h16=>(iA (.val zP2) (h16.cell (h.next,0)) fun (x17:zO2)=>(lA (f149 N x17 [62] h16) fun (x18:(Unit)) h19=>some (((some (h.next,0)),(some (h1.next,0)),(some (h8.next,0)),()),h19)))))else some (((some (h.next,0)),(some (h1.next,0)),(some (h8.next,0)),()),h13))))) fun (j20:zT) h21=>(rA j20.1 fun q22=>(iA (.val zP2) (h21.cell q22) fun (x23:zO2)=>(lA (f149 N x23 [40] h21) fun (x24:(Unit)) h25=>(lA (α:=zT) ((rA j20.1 fun q26=>(iA (.val zP2) (h25.cell q26) fun (x27:zO2)=>(lA (f93 N x27 [41] h25) fun (x28:Bool) h29=>let x30:=!x28;(bif x30 then(rA j20.1 fun q31=>(iA (.val zP2) (h29.cell q31) fun (x32:zO2)=>(lA (uT N x32 [44] (j20.1,j20.2.2.1,()) h29) fun (x33:(Unit)) h34=>
 (rA j20.1 fun q35=>(iA (.val zP2) (h34.cell q35) fun (x36:zO2)=>(lA (f149 N x36 [41] h34) fun (x37:(Unit)) h38=>some ((j20.1,j20.2.1,j20.2.2.1,()),h38)))))))else some ((j20.1,j20.2.1,j20.2.2.1,()),h29)))))) fun (j39:zT) h40=>(lA (α:=zT) ((rA j39.1 fun q41=>(iA (.val zP2) (h40.cell q41) fun (x42:zO2)=>(lA (f93 N x42 [45,62] h40) fun (x43:Bool) h44=>(bif x43 then(rA j39.1 fun q45=>(iA (.val zP2) (h44.cell q45) fun (x46:zO2)=>(lA (f55 N N x46 1 h44) fun (x47:zM) h48=>(rA j39.2.2.1 fun q49=>(rA (h48.store (q49.1,q49.2+4) (yRD x47)) fun h50=>some ((j39.1,j39.2.1,j39.2.2.1,()),h50))))))else some ((j39.1,j39.2.1,j39.2.2.1,()),h44)))))) fun (j51:zT) h52=>(rA j51.1 fun q53=>(iA (.val zP2) (h52.cell q53) fun (x54:zO2)=>(lA (f158 N N x54 1 h52) fun (x55:SL) h56=>(rA j51.2.2.1 fun q57=>(rA (h56.store (q57.1,q57.2+8) [(.slice x55.a x55.len x55.cap x55.sz)]) fun h58=>(rA j51.2.2.1 fun q59=>(iA (.val zD) (h58.cells q59 10) fun (x60:zS)=>(rA j51.2.1 fun q62=>(rA (h58.store q62 (yRC x60)) fun h61=>(rA j51.2.1 fun q63=>(iA (.val zD) (h61.cells q63 10) fun (x64:zS)=>some ((x64.1,x64.2.1,x64.2.2.1,x64.2.2.2.1,x64.2.2.2.2.1,x64.2.2.2.2.2.1,x64.2.2.2.2.2.2.1,x64.2.2.2.2.2.2.2.1,x64.2.2.2.2.2.2.2.2.1,x64.2.2.2.2.2.2.2.2.2.1,()),h61))))))))))))))))))))))))
def gBa:Ann:=(.two .n (.two .n (.two .n (.two (.join [(3,zP2),(6,zP2),(7,zP2)] .n) (.two .n (.two (.join [(3,zP2),(6,zP2),(7,zP2)] .n) (.two (.join [(3,zP2),(6,zP2),(7,zP2)] .n) .n)))))))
theorem uB2 (N:Nat):jD Tryz.prog 103 [zP2,zS2,zT2] (.val zD) (fun x h=>f103 N x.1 x.2.1 x.2.2.1 h):=qD (bA (uN N) (bA (nG N) (bA (kAp N) (bA (tB2 N) (bA (nJ N) (dC (sel:=fun a=>mJ 2 157 a) (dAf N) (dC (sel:=fun a=>mJ 2 155 a) (cAf N) kA))))))) N gBa Tryz.f103
def f63 (N:Nat) (a0 a1:zO2) (h:Heap):Option ((Unit)×Heap):=(lA (f92 N a0 [112,117,98] h) fun (x1:Bool) h2=>(lA (f56 N a0 h2) fun (x3:zP) h4=>(lA (f92 N a0 [115,116,114,117,99,116] h4) fun (x5:Bool) h6=>(bif x5 then(rA a1 fun q7=>(iA (.val zQ2) (h6.cell (q7.1,q7.2+0)) fun (x8:SL)=>(lA (f102 N a0 x1 x3.2.2.1 h6) fun (x9:zW) h10=>let h11:=h10.push (.row (yRG x9) .own);(tD (.val zQ2) (fB E 22 22 (.slice x8.a x8.len x8.cap x8.sz) (.slice (some (h10.next,0)) 1 1 5) h11) fun (x12:SL) h13=>(rA a1 fun q14=>(rA (h13.store (q14.1,q14.2+0) [(.slice x12.a x12.len x12.cap x12.sz)]) fun h15=>(cE (bif (mB (h11.cell (q7.1,q7.2+0)) (.slice x8.a x8.len x8.cap x8.sz)) then (bif (mB (h10.cell (q7.1,q7.2+0)) (.slice x8.a x8.len x8.cap x8.sz)) then (bif (mB (h6.cell (q7.1,q7.2+0)) (.slice x8.a x8.len x8.cap x8.sz)) then true else false) else false) else false) ((rA a0 fun q16=>(iA (.val zU2) (h15.cell (q16.1,q16.2+3)) fun (x17:AV)=>(lA (f104 N x17 x3.2.2.1 h15) fun (x18:AV) h19=>(rA a0 fun q20=>(cE (AV.single x18) (rA (h19.store (q20.1,q20.2+3) [x18]) fun h21=>some ((()),h21)))))))))))))))else(lA (f92 N a0 [102,110] h6) fun (x22:Bool) h23=>(bif x22 then(rA a1 fun q24=>(iA (.val zQ2) (h23.cell (q24.1,q24.2+1)) fun (x25:SL)=>(lA (f103 N a0 x1 x3.2.2.1 h23) fun (x26:zS) h27=>let h28:=h27.push (.row (yRC x26) .own);(tD (.val zQ2) (fB E 23 23 (.slice x25.a x25.len x25.cap x25.sz) (.slice (some (h27.next,0)) 1 1 10) h28) fun (x29:SL) h30=>
 (rA a1 fun q31=>(rA (h30.store (q31.1,q31.2+1) [(.slice x29.a x29.len x29.cap x29.sz)]) fun h32=>(cE (bif (mB (h28.cell (q24.1,q24.2+1)) (.slice x25.a x25.len x25.cap x25.sz)) then (bif (mB (h27.cell (q24.1,q24.2+1)) (.slice x25.a x25.len x25.cap x25.sz)) then (bif (mB (h23.cell (q24.1,q24.2+1)) (.slice x25.a x25.len x25.cap x25.sz)) then true else false) else false) else false) ((rA a0 fun q33=>(iA (.val zU2) (h32.cell (q33.1,q33.2+3)) fun (x34:AV)=>(lA (f104 N x34 x3.2.2.1 h32) fun (x35:AV) h36=>(rA a0 fun q37=>(cE (AV.single x35) (rA (h36.store (q37.1,q37.2+3) [x35]) fun h38=>some ((()),h38)))))))))))))))else(lA (f57 N a0 21 h23) fun (x39:(Unit)) h40=>some ((()),h40))))))))
def vBf:Ann:=.n
theorem iBa (N:Nat):jD Tryz.prog 63 [zP2,zP2] (.tup []) (fun x h=>f63 N x.1 x.2.1 h):=qD (bA (tW N) (bA (rW N) (bA (tN N) (bA (vB1 N) (bA (uB2 N) (bA (rB1 N) kA)))))) N vBf Tryz.f63
def yT (N:Nat) (go:zO2→zO2→zO2→Int→Heap→Option (Out×zT×Heap)) (v2 v6 v7:zO2) (v8:Int) (h:Heap):Option (Out×zT×Heap):=(rA v7 fun q9=>(iA (.val zU2) (h.cell (q9.1,q9.2+3)) fun (x10:AV)=>(iA (.val zS2) (oK E .eql 29 (.tmp 24) (.const .nilIface) x10 AV.nilIface) fun (x11:Bool)=>(bif x11 then(lA (f56 N v7 h) fun (x12:zP) h13=>let x14:=!dB x12.1 0;(bif x14 then let x15:=dB v8 256;(bif x15 then(lA (f57 N v7 5 h13) fun (x16:(Unit)) h17=>some ((Out.exit 0),(v2,v6,v7,()),h17))else(lA (f63 N v7 v6 h13) fun (x18:(Unit)) h19=>let x20:=wA .i64 (v8+1);go v2 v6 v7 x20 h19))else some ((Out.exit 0),(v2,v6,v7,()),h13)))else some ((Out.exit 0),(v2,v6,v7,()),h)))))
def tAi (N M:Nat) (v2 v6 v7:zO2) (v8:Int) (h:Heap):Option (Out×zT×Heap):=iter (fun go s h=>yT N (fun v2 v6 v7 v8 h=>go (v2,v6,v7,v8,()) h) s.1 s.2.1 s.2.2.1 s.2.2.2.1 h) M (v2,v6,v7,v8,()) h
theorem pR (N M v2 v6 v7 v8 h):tAi N (M+1) v2 v6 v7 v8 h=yT N (tAi N M) v2 v6 v7 v8 h:=rfl
def f27 (N:Nat) (a0:zV2) (h:Heap):Option ((zE1×AV×Unit)×Heap):=let h1:=h.push (.row yZH .own);(lA (f54 N a0 h1) fun (x2:(SL×AV×Unit)) h3=>(iA (.val zS2) (oK E .neq 29 (.tmp 14) (.const .nilIface) x2.2.1 AV.nilIface) fun (x4:Bool)=>(bif x4 then(rA (h3.store (h.next,0) yZH) fun h5=>(iA (.val zK) (h5.cells (h.next,0) 2) fun (x6:zE1)=>some (((x6.1,x6.2.1,()),x2.2.1,()),h5)))else let h7:=h3.push (.row yZH .own);let h8:=h7.push (.row [(.slice x2.1.a x2.1.len x2.1.cap x2.1.sz),(.int .i64 0),(.int .i64 0),AV.nilIface] .own);(pD (tAi N N (some (h.next,0)) (some (h3.next,0)) (some (h7.next,0)) 0 h8) fun _ (j22:zT) h23=>(rA j22.2.2.1 fun q24=>(iA (.val zU2) (h23.cell (q24.1,q24.2+3)) fun (x25:AV)=>(iA (.val zS2) (oK E .neq 29 (.tmp 43) (.const .nilIface) x25 AV.nilIface) fun (x26:Bool)=>(bif x26 then(rA j22.2.2.1 fun q27=>(iA (.val zU2) (h23.cell (q27.1,q27.2+3)) fun (x28:AV)=>(rA j22.1 fun q30=>(rA (h23.store q30 yZH) fun h29=>(cE (bif (mB (h29.cell (q27.1,q27.2+3)) x28) then (bif (mB (h23.cell (q27.1,q27.2+3)) x28) then true else false) else false) ((rA j22.1 fun q31=>(iA (.val zK) (h29.cells q31 2) fun (x32:zE1)=>some (((x32.1,x32.2.1,()),x28,()),h29)))))))))else(rA j22.2.1 fun q33=>(iA (.val zK) (h23.cells q33 2) fun (x34:zE1)=>(rA j22.1 fun q36=>(rA (h23.store q36 (yRJ x34)) fun h35=>(rA j22.1 fun q37=>(iA (.val zK) (h35.cells q37 2) fun (x38:zE1)=>some (((x38.1,x38.2.1,()),AV.nilIface,()),h35)))))))))))))))
def wBf:Ann:=(.two .n (.two .n (.two .n (.two .n (.two .n (.two (.two .n (.two (.loop [(2,zP2),(6,zP2),(7,zP2),(8,zT2)] [(.exit 0)] [(2,zP2),(6,zP2),(7,zP2)] .n) .n)) .n))))))
theorem cAz (N:Nat):jD Tryz.prog 27 [zR2] (.tup [zK,zU2]) (fun x h=>f27 N x.1 h):=qD (bA (iBa N) (bA (rW N) (bA (tN N) (bA (fAy N) kA)))) N wBf Tryz.f27
end
end Qp
namespace Qp
theorem rAl (N:Nat) (h:Heap):f233 N [] h=some ((0,AV.iface 256 (.int .i64 2),()),h):=rfl
theorem tAl {N:Nat} {h:Heap} (hp:Qw.pinned h=true):∃ v h',f220 N [] h=some ((0,v,()),h')∧Chg [] h h':=by
 unfold f220;rw [rAl,aA];have e:oK E .neq 29 (.tmp 11) (.const .nilIface) (AV.iface 256 (.int .i64 2)) AV.nilIface=some (.bool true):=by kernel_rfl
 simp only [e,fA,wB,cond_true];have ef:f234 N [65,116,111,105] [] 0 0 (AV.iface 256 (.int .i64 2)) h=some (AV.iface 259 (.ptr (some (h.next,0))),h.push (.row [.str [65,116,111,105],.str [],Qw.sen] .own)):=by
  unfold f234 Qw.oAb;rw [hp];rfl
 rw [ef,aA];exact ⟨_,_,rfl,qA _ _⟩
theorem yA4:∀ (t:Bs) (i:Nat) (hi:i<t.length),(ofBytes t)[i]? = some (.int .u8 ((t[i]).toNat:Int))
 | c::r,0,_=>rfl
 | c::r,i+1,hi=>by
  simp only [ofBytes,List.getElem?_cons_succ,List.getElem_cons_succ];exact yA4 r i (by simpa using hi)
theorem nAr {N:Nat} {t:Bs} {h:Heap} {A:Nat} (hA:h.t.get A=some (.row (ofBytes t) .grown)) (ht:t.all qC=true) (hl:t.length≤10) {v2:Int} {v3:AV} {v5:Bs} {cap:Nat}:∀ (M j v:Nat),j≤t.length→t.length-j<M→v<10 ^ j→
  nA7 N M v2 v3 v5 (v:Int) ⟨some (A,0),t.length,cap,1⟩ (Int.ofNat t.length) (j:Int) h=some (.exit 0,(v2,v3,v5,((tU (t.drop j) v:Nat):Int),()),h):=by
 intro M
 induction M with
 | zero=>intro j _ _ h;omega
 | succ M ih=>
  intro j v hj hM hv;rw [pAb];unfold nA1;simp only [oG]
  by_cases q:j<t.length
  ·simp only [q,decide_true,cond_true]
   have hd:qC t[j]=true:=List.all_eq_true.1 ht _ (List.getElem_mem q);have hd':=hd;simp only [qC,decide_eq_true_eq] at hd';rw [show ((j:Nat):Int)=Int.ofNat j from rfl,jT _ _ _ _ _ q];have hc:h.cell (A,0+j * 1)=some (.int .u8 ((t[j]).toNat:Int)):=by
    rw [Nat.zero_add,Nat.mul_one];have hg:vAo (h.g A)=some (ofBytes t):=by
     have:h.g A=some (.row (ofBytes t) .grown):=hA
     rw [this];rfl
    rw [Heap.cell_g,nT,hg];simp only [Option.bind_some,List.head?_drop];exact yA4 t j q
   rw [hc];simp only [fA,yC];have w1:wA .u8 (((t[j]).toNat:Int)-48)=(((t[j]).toNat-48:Nat):Int):=by rw [u8_in (by omega) (by omega)];omega
   have z:qB 9 ((((t[j]).toNat-48:Nat)):Int)=false:=by
    have:=pE 9 ((t[j]).toNat-48)
    rw [show ((9:Nat):Int)=9 from rfl] at this;rw [this,decide_eq_false_iff_not];omega
   rw [w1];simp only [z,cond_false];have hp:(10:Nat) ^ j≤10 ^ 10:=Nat.pow_le_pow_right (by omega) (by omega);have w2:wA .i64 (wA .i64 ((v:Int) * 10)+wA .i64 (((t[j]).toNat-48:Nat):Int))=((v * 10+((t[j]).toNat-48):Nat):Int):=by
    rw [fD (x:=(v:Int) * 10) (by omega) (by omega),tL (by omega),fD (by omega) (by omega)];omega
   rw [w2,show Int.ofNat j=(j:Int) from rfl,iB (by omega),drop_cons q];simp only [tU];exact ih (j+1) _ q (by omega) (by rw [Nat.pow_succ];omega)
  ·simp only [q,decide_false,cond_false]
   rw [show t.drop j=[] from List.drop_of_length_le (by omega)];rfl
theorem fAw {N:Nat} {t:Bs} {h:Heap} (hN:20≤N) (hk:aN t=true) (h0:0<t.length):∃ h',f220 N t h=some ((((tU t 0:Nat):Int),AV.nilIface,()),h')∧Chg [] h h':=by
 have hl:t.length≤10:=by
  cases t with
  | nil=>simp at h0
  | cons c r=>
   by_cases q:10<(c::r).length
   ·rw [qA4 q] at hk;cases hk
   ·omega
 have hall:t.all qC=true:=by
  simp only [aN,Bool.and_eq_true] at hk;exact hk.1.1
 have hval:tU t 0≤2147483647:=by
  simp only [aN,Bool.and_eq_true,Nat.ble_eq] at hk;exact hk.1.2
 have hd:qC t[0]=true:=List.all_eq_true.1 hall _ (List.getElem_mem h0);have hd':=hd;simp only [qC,decide_eq_true_eq] at hd';unfold f220 f233;have z1:qB 0 (Int.ofNat t.length)=true:=by rw [ltI,decide_eq_true_eq];show (0:Int)<(t.length:Int);omega
 have z2:qB (Int.ofNat t.length) 19=true:=by rw [ltI,decide_eq_true_eq];show (t.length:Int)<19;omega
 have e0:∀ {β:Type} (K:Int→Option β),rG t 0 K=K ((t[0]).toNat:Int):=fun K=>vD h0 K;have z45:dB ((t[0]).toNat:Int) 45=false:=by rw [eqI,decide_eq_false_iff_not];omega
 have z43:dB ((t[0]).toNat:Int) 43=false:=by rw [eqI,decide_eq_false_iff_not];omega
 have hconv:vAc E 9 81 (.str t) h=some (.slice (some (h.next,0)) t.length t.length 1,h.push (.row (ofBytes t) .grown)):=by
  have u9:E.und 9=some .string:=tBd;have u81:∃ e,E.und 81=some (.slice e)∧E.und e=some (.int .u8):=by
   have:(match E.und 81 with | some (.slice e)=>(match E.und e with | some (.int .u8)=>true | _=>false) | _=>false)=true:=by kernel_rfl
   split at this
   ·rename_i e he
    split at this
    ·rename_i h8;exact ⟨e,he,h8⟩
    ·cases this
   ·cases this
  obtain ⟨e,h1,h2⟩:=u81;simp only [vAc,u9,h1,h2]
 simp only [z1,z2,cond_true,aA,dA,e0,z45,cond_false,z43,fC,jC,hconv,wF,uA];have hg:(h.push (.row (ofBytes t) .grown)).t.get h.next=some (.row (ofBytes t) .grown):=aH _ rfl;have lp:=nAr (N:=N) hg hall hl (v2:=0) (v3:=AV.nilIface) (v5:=t) (cap:=t.length) N 0 0 (Nat.zero_le _) (by omega) (by simp);rw [show ((0:Nat):Int)=0 from rfl,List.drop_zero] at lp;rw [lp];simp only [pB,vH,decide_true,cond_true,e0,z45,cond_false,aA,dA,fC,jC];have ne:oK E .neq 29 (.tmp 11) (.const .nilIface) AV.nilIface AV.nilIface=some (.bool false):=ne_nil 11;simp only [ne,fA,wB,cond_false];exact ⟨_,rfl,qA _ _⟩
end Qp
namespace Qp
structure PC (T:List Tok) (P:Nat) (X:List Nat) (h:Heap) (σ:St) (st:Int):Prop where
 pa:PA T P X h σ st
 pin:Qw.pinned h=true
 p4:4≤P
theorem rJ {h h':Heap} {M:List Nat} (c:Chg M h h') (hM:∀ A∈M,4≤A) (h4:4≤h.next) (hp:Qw.pinned h=true):Qw.pinned h'=true:=by
 unfold Qw.pinned Qx.pinned at hp ⊢;have e0:h'.t.get 0=h.t.get 0:=c.g 0 (by omega) (fun hm=>by have:=hM 0 hm;omega);have e2:h'.t.get 2=h.t.get 2:=c.g 2 (by omega) (fun hm=>by have:=hM 2 hm;omega);rw [c.pins,e0,e2];exact hp
section
variable {N:Nat} {T:List Tok} {P:Nat} {X X':List Nat} {h h':Heap} {σ σ':St} {st st':Int}
theorem PC.to (x:PC T P X h σ st) {M:List Nat} (c:Chg M h h') (hM:∀ A∈M,P≤A) (y:PA T P X' h' σ' st'):PC T P X' h' σ' st':=
 ⟨y,rJ c (fun A hA=>Nat.le_trans x.p4 (hM A hA)) (by have:=x.pa.P_lt;have:=x.p4;omega) x.pin,x.p4⟩
theorem PC.to1 (x:PC T P X h σ st) (c:Chg [P] h h') (y:PA T P X' h' σ' st'):PC T P X' h' σ' st':=x.to c (by simp) y
theorem PC.chg (x:PC T P X h σ st) (c:Chg [] h h'):PC T P X h' σ st:=x.to c (by simp) (x.pa.chg c)
theorem PC.chgM {M:List Nat} (x:PC T P X h σ st) (c:Chg M h h') (hM:∀ A∈M,A∈X):PC T P X h' σ st:=x.to c (fun A hA=>Nat.le_of_lt (x.pa.xl A (hM A hA)).1) (x.pa.chgM c hM)
theorem PC.chg1 {A:Nat} (x:PC T P X h σ st) (c:Chg [A] h h') (hA:A∈X):PC T P X h' σ st:=x.chgM c (by simpa using hA)
theorem PC.free {i:Nat} (x:PC T P X h (i,none) st) (hX:∀ A∈X',P<A∧A<h.next):PC T P X' h (i,none) st:=⟨x.pa.free hX,x.pin,x.p4⟩
theorem PC.sub (x:PC T P X h σ st) (hX:∀ A∈X',A∈X):PC T P X' h σ st:=⟨x.pa.sub hX,x.pin,x.p4⟩
theorem PC.add (x:PC T P X h σ st) (c:Chg [] h h') {A:Nat} (h1:h.next≤A) (h2:A<h'.next):PC T P (A::X) h' σ st:=x.to c (by simp) (x.pa.add c h1 h2)
theorem PC.P_lt (x:PC T P X h σ st):P<h.next:=x.pa.P_lt
theorem PC.lt (x:PC T P X h σ st):σ.1<T.length:=x.pa.lt
theorem uAi (x:PC T P X h σ st) {c:Int} (hc:c≠0):∃ h',f57 N (some (P,0)) c h=some ((),h')∧Chg [P] h h'∧PC T P X h' (iF T c σ) st:=by
 obtain ⟨h',e,c,y⟩:=lA1 (N:=N) x.pa hc;exact ⟨h',e,c,x.to1 c y⟩
theorem fI (hT:Toks T) (x:PC T P X h σ st) {w:Bs} (hw:kA1 w=false):∃ h',f92 N (some (P,0)) w h=some ((kB T w σ).1,h')∧Chg [P] h h'∧PC T P X h' (kB T w σ).2 st:=by
 obtain ⟨h',e,c,y⟩:=oAi (N:=N) hT x.pa hw;exact ⟨h',e,c,x.to1 c y⟩
theorem pI (hT:Toks T) (x:PC T P X h σ st) {w:Bs} (hw:isWord w=false):∃ h',f93 N (some (P,0)) w h=some ((kB T w σ).1,h')∧Chg [P] h h'∧PC T P X h' (kB T w σ).2 st:=by
 obtain ⟨h',e,c,y⟩:=rA4 (N:=N) hT x.pa hw;exact ⟨h',e,c,x.to1 c y⟩
theorem aU (hT:Toks T) (x:PC T P X h σ st) {k:Int} (hk:k≠0):∃ h',f94 N (some (P,0)) k h=some ((iC T k σ).1,h')∧Chg [P] h h'∧PC T P X h' (iC T k σ).2 st:=by
 obtain ⟨h',e,c,y⟩:=jAb (N:=N) hT x.pa hk;exact ⟨h',e,c,x.to1 c y⟩
theorem dAz (hT:Toks T) (x:PC T P X h σ st):∃ h',f95 N (some (P,0)) h=some ((lI T σ).1,h')∧Chg [P] h h'∧PC T P X h' (lI T σ).2 st:=by
 obtain ⟨h',e,c,y⟩:=tAy (N:=N) hT x.pa;exact ⟨h',e,c,x.to1 c y⟩
theorem tF (hT:Toks T) (x:PC T P X h σ st) {w:Bs} (hw:isWord w=false):∃ h',f149 N (some (P,0)) w h=some ((),h')∧Chg [P] h h'∧PC T P X h' (gD T w σ) st:=by
 obtain ⟨h',e,c,y⟩:=uAq (N:=N) hT x.pa hw;exact ⟨h',e,c,x.to1 c y⟩
theorem qA1 (x:PC T P X h σ st) (n:Nat):∃ h',f188 N (some (P,0)) (n:Int) h=some (((if 64≤n then iF T 5 σ else σ).2).isNone,h')∧Chg [P] h h'∧PC T P X h' (if 64≤n then iF T 5 σ else σ) st:=by
 obtain ⟨h',e,c,y⟩:=vAe (N:=N) x.pa n;exact ⟨h',e,c,x.to1 c y⟩
theorem jBa (hT:Toks T) (hN:100≤N) (x:PC T P X h σ st):∃ v h',f96 N (some (P,0)) h=some (v,h')∧PC T P X h' (oI T σ).2 st∧Chg [P] h h'∧Sl h' (fun C=>h.next≤C) v ((oI T σ).1.map D.s):=by
 obtain ⟨v,h',e,y,c,s⟩:=uAy (N:=N) hT hN x.pa;exact ⟨v,h',e,x.to1 c y,c,s⟩
theorem eAz (hT:Toks T) (hN:100≤N) (x:PC T P X h σ st):∃ r h',f55 N N (some (P,0)) 1 h=some (r,h')∧PC T P X h' (yL T 64 σ).2 st∧Chg [P] h h'∧Dt h' (fun C=>h.next≤C) (yL T 64 σ).1 (tyc r):=by
 obtain ⟨r,h',e,y,c,s⟩:=yAy (N:=N) hT hN 64 N h σ X (by omega) (by omega) x.pa;rw [show ((65-64:Nat):Int)=1 from rfl] at e;exact ⟨r,h',e,x.to1 c y,c,s⟩
end
theorem oAr {h0 H:Heap} {M:List Nat} {st e:TypeId} {n W:Nat} (ha:AppN E st e n W) (hn:0<n) {v:SL} {xs:List D} {d:D} {cs:List AV} (c:Chg M h0 H) (ow:Ow h0.next H v n xs) (hd:Dt H (fun C=>h0.next≤C∧v.blk≠some C) d cs) (hcs:cs.length=n) (hl:(xs.length+1) * W≤1073741824) :
  ∃ v' H',(∀ {β:Type} (K:SL→Heap→Option β),tD (.val zQ2) (fB E st st (.slice v.a v.len v.cap v.sz) (.slice (some (H.next,0)) 1 1 n) (H.push (.row cs .own))) K=K v' H')∧Ow h0.next H' v' n (xs++[d])∧Chg v.blk.toList H H'∧(∀ A,v'.blk=some A→v.blk=some A∨H.next≤A):=by
 obtain ⟨v',H',e,o,c',hb⟩:=pT ha hn ow hd hcs c.next hl;exact ⟨v',H',fun K=>by rw [e];simp only [wF,uA],o,c',hb⟩
theorem pAr {h0 H:Heap} {M:List Nat} {st e:TypeId} {n W:Nat} (ha:AppN E st e n W) (hn:0<n) {O j:Nat} {cs0:List AV} {v:SL} {xs:List D} {d:D} {cs:List AV} (c:Chg M h0 H) (oO:H.own O cs0) (hj:cs0[j]? = some (SL.av v)) (ow:Ow h0.next H v n xs) (hO:O<h0.next) (hd:Dt H (fun C=>h0.next≤C∧v.blk≠some C) d cs) (hcs:cs.length=n) (hl:(xs.length+1) * W≤1073741824) :
  ∃ v' H',(∀ {β:Type} (K:Heap→Option β),(tD (.val zQ2) (fB E st st (.slice v.a v.len v.cap v.sz) (.slice (some (H.next,0)) 1 1 n) (H.push (.row cs .own))) fun (x8:SL) h9=>rA (h9.store (O,j) [.slice x8.a x8.len x8.cap x8.sz]) K)=K H')∧H'.own O (cs0.set j (SL.av v'))∧Ow h0.next H' v' n (xs++[d])∧Chg (O::v.blk.toList) H H':=by
 obtain ⟨v',H',e,o,c',hb⟩:=oAr ha hn c ow hd hcs hl;have hge:∀ A∈v.blk.toList,h0.next≤A:=fun A hA=>(ow.ge A (by simpa using hA)).1;have oO':H'.own O cs0:=oO.chg c' (fun hm=>by have:=hge O hm;omega);have hjl:j<cs0.length:=(List.getElem?_eq_some_iff.1 hj).1;have hst:H'.store (O,j) [SL.av v']=some (H'.put O (.row (cs0.set j (SL.av v')) .own)):=oO'.store1 hjl _;have cp:=oO'.put (cs0.set j (SL.av v'));refine ⟨v',_,fun K=>?_,yA oO' _,o.chg cp (by intro A hA;rw [List.mem_singleton] at hA;omega),(c'.mono (fun A hA=>List.mem_cons_of_mem _ hA)).trans (cp.mono (by simp))⟩;rw [e];show rA (H'.store (O,j) [SL.av v']) K=_;rw [hst,dA]
noncomputable def bN (N:Nat) (P:zO2) (sep:Bs) (F:Heap→Option (Unit×Heap)):Nat→Int→Heap→Option (Out×Unit×Heap)
 | 0,_,_=>none
 | M+1,n,h=>(lA (f188 N P n h) fun (x1:Bool) h2=>
  (bif x1 then
   (lA (F h2) fun (x3:Unit) h4=>
   (lA (f93 N P sep h4) fun (x5:Bool) h6=>
   (bif !x5 then
   some (Out.ret,(),h6)
   else
   bN N P sep F M (wA .i64 (n+1)) h6)))
  else
   some (Out.exit 0,(),h2)))
def gO (T:List Tok) (one:St→D×St) (sep:Bs):Nat→St→List D×St
 | 0,σ=>([],iF T 5 σ)
 | g+1,σ=>let a:=one σ;let b:=kB T sep a.2;if b.1=true then ((a.1::(gO T one sep g b.2).1),(gO T one sep g b.2).2) else ([a.1],b.2)
theorem gAw {N:Nat} {T:List Tok} {P:Nat} {X:List Nat} {st:Int} (hT:Toks T) {F:Heap→Option (Unit×Heap)} {one:St→D×St} {Inv:Heap→List D→St→Prop}
  (hPC:∀ h xs σ,Inv h xs σ→PC T P X h σ st)
  (hstep:∀ h h' xs σ σ',Inv h xs σ→Chg [P] h h'→PC T P X h' σ' st→Inv h' xs σ')
  (hone:∀ h xs i,Inv h xs (i,none)→xs.length≤64→∃ h',F h=some ((),h')∧Inv h' (xs++[(one (i,none)).1]) (one (i,none)).2)
  {sep:Bs} (hsep:isWord sep=false):∀ (g M i:Nat) (h:Heap) (xs:List D),g<M→g≤64→xs.length≤64-g→Inv h xs (i,none)→
  ∃ o h',bN N (some (P,0)) sep F M ((64-g:Nat):Int) h=some (o,(),h')∧Inv h' (xs++(gO T one sep g (i,none)).1) (gO T one sep g (i,none)).2:=by
 intro g
 induction g with
 | zero=>
  intro M i h xs hM hg hx x;obtain ⟨M,rfl⟩:∃ m,M=m+1:=⟨M-1,by omega⟩;obtain ⟨h2,e2,c2,x2⟩:=qA1 (N:=N) (hPC _ _ _ x) (64-0);simp only [bN];rw [e2,aA];simp only [show 64≤64-0 by omega,if_true,iF,Option.isNone_some,cond_false] at x2 ⊢;refine ⟨_,h2,rfl,?_⟩;simp only [gO,List.append_nil];exact hstep _ _ _ _ _ x c2 x2
 | succ g ih=>
  intro M i h xs hM hg hx x;obtain ⟨M,rfl⟩:∃ m,M=m+1:=⟨M-1,by omega⟩;obtain ⟨h2,e2,c2,x2⟩:=qA1 (N:=N) (hPC _ _ _ x) (64-(g+1));simp only [bN];rw [e2,aA];have z:¬ 64≤64-(g+1):=by omega
  simp only [z,if_false,Option.isNone_none,cond_true] at x2 ⊢;obtain ⟨h4,e4,x4⟩:=hone _ _ _ (hstep _ _ _ _ _ x c2 x2) (by omega);rw [e4,aA];obtain ⟨h6,e6,c6,x6⟩:=pI (N:=N) hT (hPC _ _ _ x4) (w:=sep) hsep;rw [e6,aA];have x6':=hstep _ _ _ _ _ x4 c6 x6;simp only [gO]
  cases hb:(kB T sep (one (i,none)).2).1 with
  | false=>
   simp only [Bool.not_false,cond_true,Bool.false_eq_true,if_false];exact ⟨_,h6,rfl,x6'⟩
  | true=>
   simp only [Bool.not_true,cond_false,if_true];have hs:=(eH hb).1;rw [hs] at x6' ⊢;rw [iB (by omega),show 64-(g+1)+1=64-g by omega]
   have:=ih M _ h6 (xs++[(one (i,none)).1]) (by omega) (by omega) (by simp;omega) x6'
   simpa only [List.append_assoc,List.singleton_append] using this
def bE (T:List Tok) (one:St→D×St) (sep:Bs) (σ:St):List D×St:=match σ.2 with
 | none=>gO T one sep 64 σ
 | some _=>([],σ)
theorem qP {N:Nat} {T:List Tok} {P:Nat} {X:List Nat} {st:Int} (hT:Toks T) (hN:100≤N) {F:Heap→Option (Unit×Heap)} {one:St→D×St} {Inv:Heap→List D→St→Prop}
  (hPC:∀ h xs σ,Inv h xs σ→PC T P X h σ st)
  (hstep:∀ h h' xs σ σ',Inv h xs σ→Chg [P] h h'→PC T P X h' σ' st→Inv h' xs σ')
  (hone:∀ h xs i,Inv h xs (i,none)→xs.length≤64→∃ h',F h=some ((),h')∧Inv h' (xs++[(one (i,none)).1]) (one (i,none)).2)
  {sep:Bs} (hsep:isWord sep=false) {σ:St} {h:Heap} (x:Inv h [] σ) :
  ∃ o h',bN N (some (P,0)) sep F N 0 h=some (o,(),h')∧Inv h' (bE T one sep σ).1 (bE T one sep σ).2:=by
 obtain ⟨i,e⟩:=σ
 cases e with
 | none=>
  obtain ⟨o,h',e,y⟩:=gAw (N:=N) hT hPC hstep hone hsep 64 N i h [] (by omega) (Nat.le_refl _) (by simp) x;rw [show ((64-64:Nat):Int)=0 from rfl] at e;rw [List.nil_append] at y;exact ⟨o,h',e,y⟩
 | some q=>
  obtain ⟨M,rfl⟩:∃ m,N=m+1:=⟨N-1,by omega⟩;obtain ⟨h2,e2,c2,x2⟩:=qA1 (N:=M+1) (hPC _ _ _ x) 0;rw [show ((0:Nat):Int)=0 from rfl] at e2;simp only [bN];rw [e2,aA];simp only [show ¬ 64≤0 by omega,if_false,Option.isNone_some,cond_false] at x2 ⊢;exact ⟨_,h2,rfl,hstep _ _ _ _ _ x c2 x2⟩
end Qp
namespace Qp
theorem kD {h:Heap} {A j:Nat} {cs vs cs':List AV} (x:h.own A cs) (ho:over j cs vs=some cs'):h.store (A,j) vs=some (h.put A (.row cs' .own)):=by
 rw [Heap.store_g,x.1,pV,ho];rfl
abbrev FdV:=Bool×zV2×Int×zV2×SL×SL×Unit
def fdc (x:FdV):List AV:=[.bool x.1,.str x.2.1,.int .i64 x.2.2.1,.str x.2.2.2.1,SL.av x.2.2.2.2.1,SL.av x.2.2.2.2.2.1]
abbrev fd0:FdV:=(false,[],0,[],sl0,sl0,())
def qR (m:Bool) (nm:Bs) (r:TyV):FdV:=(m,nm,r.1,r.2.1,r.2.2.1,r.2.2.2.1,())
theorem yBf {β:Type} (r:FdV) (K:FdV→Option β):iA (.val zI) (some (.agg (fdc r))) K=K r:=by
 obtain ⟨m,n,k,x,s1,s2,_⟩:=r;simp [fdc,SL.av]
theorem vAi {H:Heap} {A:Nat} {r:FdV} (o:H.own A (fdc r)) {β:Type} (K:FdV→Option β):iA (.val zI) (H.cells (A,0) 6) K=K r:=by
 have:H.cells (A,0) 6=some (.agg (fdc r)):=o.cells (j:=0) (m:=6) (Nat.le_refl _)
 rw [this,yBf]
theorem qAr {H:Heap} {A:Nat} {r0:FdV} (o:H.own A (fdc r0)) (r:FdV):H.store (A,0) [.bool r.1,.str r.2.1,.int .i64 r.2.2.1,.str r.2.2.2.1,.slice r.2.2.2.2.1.a r.2.2.2.2.1.len r.2.2.2.2.1.cap r.2.2.2.2.1.sz,.slice r.2.2.2.2.2.1.a r.2.2.2.2.2.1.len r.2.2.2.2.2.1.cap r.2.2.2.2.2.1.sz]=some (H.put A (.row (fdc r) .own)):=o.store rfl
theorem oBi {H:Heap} {A:Nat} {r0:FdV} (o:H.own A (fdc r0)) (r:FdV) {β:Type} (K:FdV→Heap→Option β) :
  (rA (H.store (A,0) [.bool r.1,.str r.2.1,.int .i64 r.2.2.1,.str r.2.2.2.1,.slice r.2.2.2.2.1.a r.2.2.2.2.1.len r.2.2.2.2.1.cap r.2.2.2.2.1.sz,.slice r.2.2.2.2.2.1.a r.2.2.2.2.2.1.len r.2.2.2.2.2.1.cap r.2.2.2.2.2.1.sz]) fun h7=>iA (.val zI) (h7.cells (A,0) 6) fun x8=>K x8 h7)=K r (H.put A (.row (fdc r) .own)):=by
 rw [qAr o,dA,vAi (yA o _)]
def fdD (m:Bool) (nm:Bs) (ty:D):D:=.t [.b m,.s nm,ty]
theorem fAz (h:Heap) (V:Nat→Prop) (x:Bool):Dt h V (.b x) [.bool x]:=by simp only [Dt]
theorem wAi (h:Heap) (V:Nat→Prop) (x:Int):Dt h V (.i x) [.int .i64 x]:=by simp only [Dt]
theorem aX (h:Heap) (V:Nat→Prop):Dp h V [] []:=by simp only [Dp]
theorem wC {h:Heap} {V:Nat→Prop} {d:D} {r:List D} {a b:List AV} (x:Dt h V d a) (y:Dp h V r b):Dp h V (d::r) (a++b):=by
 simp only [Dp];exact ⟨a,b,rfl,x,y⟩
theorem pAu {h:Heap} {V:Nat→Prop} {ds:List D} {cs:List AV} (x:Dp h V ds cs):Dt h V (.t ds) cs:=by simp only [Dt];exact x
theorem vB2 {h:Heap} {V:Nat→Prop} {m:Bool} {nm:Bs} {ty:D} {r:TyV} (x:Dt h V ty (tyc r)):Dt h V (fdD m nm ty) (fdc (qR m nm r)):=
 pAu (wC (a:=[_]) (fAz h V m) (wC (a:=[_]) (qJ h V nm) (wC (a:=tyc r) (b:=[]) x (aX h V))))
def pG (T:List Tok) (σ:St):D×St:=
 let a:=iC T 1 σ
 let r:=yL T 64 (gD T [58] a.2)
 (fdD false a.1 r.1,r.2)
section
variable {N:Nat} {T:List Tok} {P:Nat} {X:List Nat} {st:Int} {h:Heap} {σ:St}
theorem iAf (hT:Toks T) (hN:100≤N) (x:PC T P X h σ st):∃ r h',f154 N (some (P,0)) h=some (r,h')∧PC T P X h' (pG T σ).2 st∧Chg [P] h h'∧Dt h' (fun C=>h.next≤C) (pG T σ).1 (fdc r)∧∃ nm t,r=qR false nm t∧(pG T σ).1=fdD false nm (yL T 64 (gD T [58] (iC T 1 σ).2)).1∧Dt h' (fun C=>h.next≤C) (yL T 64 (gD T [58] (iC T 1 σ).2)).1 (tyc t):=by
 unfold f154;have hP:=x.P_lt;have o1:=vA h (fdc fd0);have c1:=qA h (.row (fdc fd0) .own);have x1:=x.add c1 (A:=h.next) (Nat.le_refl _) (Nat.lt_succ_self _);have e1:h.push (.row [(.bool false),(.str []),(.int .i64 0),(.str []),(.slice none 0 0 0),(.slice none 0 0 0)] .own)=h.push (.row (fdc fd0) .own):=rfl;rw [e1];have n1:(h.push (.row (fdc fd0) .own)).next=h.next+1:=rfl;generalize h.push (.row (fdc fd0) .own)=h1 at *;dsimp only;obtain ⟨h3,e3,c3,x3⟩:=aU (N:=N) hT x1 (k:=1) (by decide);rw [e3,aA];have o3:=o1.chg c3 (by simp;omega);have hn3:=c3.next;have oA0:=vA h3 (fdc fd0);have cA0:=qA h3 (.row (fdc fd0) .own);have eA:h3.push (.row [(.bool false),(.str []),(.int .i64 0),(.str []),(.slice none 0 0 0),(.slice none 0 0 0)] .own)=h3.push (.row (fdc fd0) .own):=rfl;generalize hnm:(iC T 1 σ).1=nm at *;have hstA:(h3.push (.row (fdc fd0) .own)).store (h3.next,0) [(.bool false),(.str nm),(.int .i64 0),(.str []),(.slice none 0 0 0),(.slice none 0 0 0)]=some ((h3.push (.row (fdc fd0) .own)).put h3.next (.row (fdc (qR false nm (0,[],sl0,sl0,()))) .own)):=oA0.store rfl;rw [eA,hstA,dA];have oA:=yA oA0 (fdc (qR false nm (0,[],sl0,sl0,())));have cA:Chg [] h3 ((h3.push (.row (fdc fd0) .own)).put h3.next (.row (fdc (qR false nm (0,[],sl0,sl0,()))) .own)):=cA0.put (.inr (Nat.le_refl _)) _;have nA:((h3.push (.row (fdc fd0) .own)).put h3.next (.row (fdc (qR false nm (0,[],sl0,sl0,()))) .own)).next=h3.next+1:=rfl;have x5:=x3.add cA (A:=h3.next) (Nat.le_refl _) (Nat.lt_succ_self _);have oR:=o3.chg cA (by simp);generalize (h3.push (.row (fdc fd0) .own)).put h3.next (.row (fdc (qR false nm (0,[],sl0,sl0,()))) .own)=h5 at *;obtain ⟨h7,e7,c7,x7⟩:=tF (N:=N) hT x5 (w:=[58]) (by decide);rw [e7,aA];obtain ⟨r8,h9,e9,x9,c9,d9⟩:=eAz (N:=N) hT hN x7;rw [e9,aA];have c79:=c7.trans c9;have oA9:=oA.chg c79 (by simp;omega);have oR9:=oR.chg c79 (by simp;omega);have hst:h9.store (h3.next,2) [.int .i64 r8.1,.str r8.2.1,.slice r8.2.2.1.a r8.2.2.1.len r8.2.2.1.cap r8.2.2.1.sz,.slice r8.2.2.2.1.a r8.2.2.2.1.len r8.2.2.2.1.cap r8.2.2.2.1.sz]=some (h9.put h3.next (.row (fdc (qR false nm r8)) .own)):=kD oA9 rfl;simp only [Nat.zero_add];rw [hst,dA];have cB:=oA9.put (fdc (qR false nm r8));have oA10:=yA oA9 (fdc (qR false nm r8));have oR10:=oR9.chg cB (by simp;omega);have x10:=x9.chg1 cB (by simp);have hn7:=c7.next;have d10:=d9.chg cB (fun C hC=>by simp;omega);have hn9:=c9.next;generalize h9.put h3.next (.row (fdc (qR false nm r8)) .own)=h10 at *;rw [vAi oA10];have cR:=oR10.put (fdc (qR false nm r8));have cAll:Chg [P] h h10:=by
  have a1:Chg [P] h h5:=((c1.mono (by simp)).trans c3).trans (cA.mono (by simp));exact (a1.trans c79).step cB (fun A hA hl=>by rw [List.mem_singleton] at hA;omega)
 have d11:=(d10.chg cR (fun C hC=>by simp;omega)).weak (W:=fun C=>h.next≤C) (fun C hC _=>by omega);simp only [pG,hnm];exact ⟨qR false nm r8,_,oBi oR10 (qR false nm r8) (fun x h=>some (x,h)),(x10.chg1 cR (by simp)).sub (by simp +contextual),cAll.put (.inr (Nat.le_refl _)) _,vB2 d11,nm,r8,rfl,rfl,d11⟩
end
end Qp
namespace Qp
structure CF (P:Nat) (X:List Nat) (h0:Heap) (O Q n j:Nat) (row:SL→List AV):Prop where
 o:P<O∧O<h0.next
 q:Q≠P∧Q≠O∧Q<h0.next
 x:O∈X
 rj:∀ v,(row v)[j]? = some (SL.av v)
 rs:∀ v v',(row v).set j (SL.av v')=row v'
structure CI (T:List Tok) (P:Nat) (X:List Nat) (st:Int) (h0:Heap) (O Q n:Nat) (row:SL→List AV) (h:Heap) (xs:List D) (σ:St):Prop where
 pc:PC T P X h σ st
 chg:Chg [P,O] h0 h
 q:h.own Q [.ptr (some (P,0))]
 ex:∃ v,h.own O (row v)∧Ow h0.next h v n xs
section
variable {T:List Tok} {P:Nat} {X:List Nat} {st:Int} {h0 h h' h6:Heap} {O Q n j:Nat} {row:SL→List AV} {xs:List D} {σ σ':St}
theorem CI.step (f:CF P X h0 O Q n j row) (x:CI T P X st h0 O Q n row h xs σ) (c:Chg [P] h h') (y:PC T P X h' σ' st):CI T P X st h0 O Q n row h' xs σ':=by
 obtain ⟨v,o1,w1⟩:=x.ex
 have:=f.o;have:=f.q
 exact ⟨y,x.chg.trans (c.mono (by simp)),x.q.chg c (by simp;omega),v,o1.chg c (by simp;omega),w1.chg c (by intro A hA;rw [List.mem_singleton] at hA;omega)⟩
theorem CI.open {i:Nat} (f:CF P X h0 O Q n j row) (x:CI T P X st h0 O Q n row h xs (i,none)):∃ v,h.own O (row v)∧Ow h0.next h v n xs∧PC T P (v.blk.toList++X) h (i,none) st∧h.cell (O,j)=some (.slice v.a v.len v.cap v.sz)∧h.cell (Q,0)=some (.ptr (some (P,0))):=by
 obtain ⟨v,o1,w1⟩:=x.ex
 have:=f.o
 refine ⟨v,o1,w1,x.pc.free fun A hA=>?_,by rw [o1.cell j,f.rj v];rfl,x.q.cell 0⟩;rcases List.mem_append.1 hA with hA | hA
 ·have:=w1.ge A (by simpa using hA);omega
 ·exact x.pc.pa.xl A hA
theorem CI.close {i:Nat} (f:CF P X h0 O Q n j row) (x:CI T P X st h0 O Q n row h xs (i,none)) {v:SL} (o1:h.own O (row v)) (w1:Ow h0.next h v n xs) {t e:TypeId} {W:Nat} (ha:AppN E t e n W) (hn:0<n) (hW:W≤10000000) (hl:xs.length≤64) (c:Chg [P] h h6) (y:PC T P (v.blk.toList++X) h6 σ' st) {d:D} {cs:List AV} (hd:Dt h6 (fun C=>h.next≤C) d cs) (hcs:cs.length=n) :
  ∃ H',(∀ {β:Type} (K:Heap→Option β),(tD (.val zQ2) (fB E t t (.slice v.a v.len v.cap v.sz) (.slice (some (h6.next,0)) 1 1 n) (h6.push (.row cs .own))) fun (x8:SL) h9=>rA (h9.store (O,j) [.slice x8.a x8.len x8.cap x8.sz]) K)=K H')∧CI T P X st h0 O Q n row H' (xs++[d]) σ'∧h6.cell (O,j)=some (.slice v.a v.len v.cap v.sz)∧(h6.push (.row cs .own)).cell (O,j)=some (.slice v.a v.len v.cap v.sz):=by
 have hO:=f.o;have hQ:=f.q;have hlt:∀ A,v.blk=some A→h0.next≤A∧A<h.next:=w1.ge;have c06:Chg [P,O] h0 h6:=x.chg.trans (c.mono (by simp));have o6:h6.own O (row v):=o1.chg c (by simp;omega);have w6:Ow h0.next h6 v n xs:=w1.chg c (by intro A hA;rw [List.mem_singleton] at hA;omega);have hn0:=x.chg.next;have hd6:Dt h6 (fun C=>h0.next≤C∧v.blk≠some C) d cs:=hd.weak fun C hC _=>⟨by omega,fun e=>by have:=hlt C e;omega⟩;have hll:(xs.length+1) * W≤1073741824:=by
  have:(xs.length+1) * W≤65 * 10000000:=Nat.mul_le_mul (by omega) hW
  omega
 obtain ⟨v',H',e',o',w',c'⟩:=pAr ha hn c06 o6 (f.rj v) w6 hO.2 hd6 hcs hll;have hM:∀ A∈O::v.blk.toList,P<A∧A∈v.blk.toList++X:=fun A hA=>by
  rcases List.mem_cons.1 hA with rfl | hA
  ·exact ⟨hO.1,List.mem_append_right _ f.x⟩
  ·exact ⟨by have:=hlt A (by simpa using hA);omega,List.mem_append_left _ hA⟩
 have y':=y.chgM c' fun A hA=>(hM A hA).2;refine ⟨H',e',⟨y'.sub fun A hA=>List.mem_append_right _ hA,c06.step c' fun A hA hlt'=>?_,(x.q.chg c (by simp;omega)).chg c' fun hm=>?_,v',by rw [← f.rs v v'];exact o',w'⟩,by rw [o6.cell j,f.rj v];rfl,by rw [(o6.chg (qA h6 _) (by simp)).cell j,f.rj v];rfl⟩
 ·rcases List.mem_cons.1 hA with rfl | hA
  ·simp
  ·have:=hlt A (by simpa using hA);omega
 ·rcases List.mem_cons.1 hm with e | hm
  ·exact hQ.2.1 e
  ·have:=hlt Q (by simpa using hm);omega
end
abbrev StV:=Bool×zV2×SL×SL×Int×Unit
def stc (x:StV):List AV:=[.bool x.1,.str x.2.1,SL.av x.2.2.1,SL.av x.2.2.2.1,.int .i64 x.2.2.2.2.1]
abbrev st0:StV:=(false,[],sl0,sl0,0,())
theorem aBg {β:Type} (r:StV) (K:StV→Option β):iA (.val zG) (some (.agg (stc r))) K=K r:=by
 obtain ⟨m,n,s1,s2,k,_⟩:=r;simp [stc,SL.av]
theorem rAb {H:Heap} {A:Nat} {r:StV} (o:H.own A (stc r)) {β:Type} (K:StV→Option β):iA (.val zG) (H.cells (A,0) 5) K=K r:=by
 have:H.cells (A,0) 5=some (.agg (stc r)):=o.cells (j:=0) (m:=5) (Nat.le_refl _)
 rw [this,aBg]
theorem wBh {H:Heap} {A:Nat} {r0:StV} (o:H.own A (stc r0)) (r:StV) {β:Type} (K:StV→Heap→Option β) :
  (rA (H.store (A,0) [.bool r.1,.str r.2.1,.slice r.2.2.1.a r.2.2.1.len r.2.2.1.cap r.2.2.1.sz,.slice r.2.2.2.1.a r.2.2.2.1.len r.2.2.2.1.cap r.2.2.2.1.sz,.int .i64 r.2.2.2.2.1]) fun h7=>iA (.val zG) (h7.cells (A,0) 5) fun x8=>K x8 h7)=K r (H.put A (.row (stc r) .own)):=by
 have:H.store (A,0) [.bool r.1,.str r.2.1,.slice r.2.2.1.a r.2.2.1.len r.2.2.1.cap r.2.2.1.sz,.slice r.2.2.2.1.a r.2.2.2.1.len r.2.2.2.1.cap r.2.2.2.1.sz,.int .i64 r.2.2.2.2.1]=some (H.put A (.row (stc r) .own)):=o.store rfl
 rw [this,dA,rAb (yA o _)]
def iAw (pub:Bool) (nm:Bs) (lv:List Bs) (fs:List D) (at_:Int):D:=.t [.b pub,.s nm,.l (lv.map D.s),.l fs,.i at_]
theorem qA7 {h:Heap} {V:Nat→Prop} {pub:Bool} {nm:Bs} {lv:List Bs} {fs:List D} {at_:Int} {s1 s2:SL} (x:Sl h V s1 (lv.map D.s)) (y:Sl h V s2 fs):Dt h V (iAw pub nm lv fs at_) (stc (pub,nm,s1,s2,at_,())):=
 pAu (wC (a:=[_]) (fAz h V pub) (wC (a:=[_]) (qJ h V nm) (wC (a:=[_]) (qL.2 x) (wC (a:=[_]) (qL.2 y) (wC (a:=[_]) (b:=[]) (wAi h V at_) (aX h V))))))
def jF (T:List Tok) (pub:Bool) (at_:Int) (σ:St):D×St:=
 let a:=iC T 1 σ
 let l:=oI T a.2
 let b:=kB T [125] (gD T [123] l.2)
 if b.1=true then (iAw pub a.1 l.1 [] at_,b.2)
 else let fs:=bE T (pG T) [44] b.2;(iAw pub a.1 l.1 fs.1 at_,gD T [125] fs.2)
theorem wB2:AppN E 37 140 6 1000:=AppN.of (by kernel_rfl)
section
variable {N:Nat} {T:List Tok} {P:Nat} {X:List Nat} {st:Int} {h:Heap} {σ:St}
theorem lQ (P:zO2) (sep:Bs) (O Q:zO2):∀ (M:Nat) (n:Int) (h:Heap),bM N M P sep (O,Q,()) n h=bN N P sep (fun h=>f153 N O Q h) M n h
 | 0,n,h=>rfl
 | M+1,n,h=>by
  rw [pX];unfold aM;simp only [bN];simp only [lQ P sep O Q M]
theorem yB2 (hT:Toks T) (hN:100≤N) {h0:Heap} {O Q:Nat} {row:SL→List AV} (f:CF P X h0 O Q 6 3 row) {xs:List D} {i:Nat} (x:CI T P X st h0 O Q 6 row h xs (i,none)) (hl:xs.length≤64):∃ h',f153 N (some (O,0)) (some (Q,0)) h=some ((),h')∧CI T P X st h0 O Q 6 row h' (xs++[(pG T (i,none)).1]) (pG T (i,none)).2:=by
 unfold f153;obtain ⟨v,o1,w1,y,r1,r2⟩:=x.open f;obtain ⟨r,h6,e6,x6,c6,d6,_⟩:=iAf (N:=N) hT hN y;obtain ⟨H',eK,ci,g1,g2⟩:=x.close f o1 w1 wB2 (by decide) (by decide) hl c6 x6 d6 rfl;simp only [dA,Nat.zero_add,r1,r2,fA,uA,uB];rw [e6,aA];have g2':(h6.push (.row [(.bool r.1),(.str r.2.1),(.int .i64 r.2.2.1),(.str r.2.2.2.1),(.slice r.2.2.2.2.1.a r.2.2.2.2.1.len r.2.2.2.2.1.cap r.2.2.2.2.1.sz),(.slice r.2.2.2.2.2.1.a r.2.2.2.2.2.1.len r.2.2.2.2.2.1.cap r.2.2.2.2.2.1.sz)] .own)).cell (O,3)=some (.slice v.a v.len v.cap v.sz):=g2;simp only [rE,r2,g2',g1,r1,cD,cond_true,mC];exact ⟨H',eK _,ci⟩
theorem jAf (hT:Toks T) (hN:100≤N) {h0:Heap} {O Q:Nat} {row:SL→List AV} (f:CF P X h0 O Q 6 3 row) (x:CI T P X st h0 O Q 6 row h0 [] σ):∃ h',tY N (some (P,0)) [44] ((some (O,0)),(some (Q,0)),()) h0=some ((),h')∧CI T P X st h0 O Q 6 row h' (bE T (pG T) [44] σ).1 (bE T (pG T) [44] σ).2:=by
 unfold tY;obtain ⟨o,h',e,y⟩:=qP (N:=N) hT hN (F:=fun h=>f153 N (some (O,0)) (some (Q,0)) h) (one:=pG T) (Inv:=CI T P X st h0 O Q 6 row) (fun h xs σ c=>c.pc) (fun h h' xs σ σ' c d z=>c.step f d z) (fun h xs i c hl=>yB2 hT hN f c hl) (sep:=[44]) (by decide) x;simp only [lQ];rw [e];simp only [pB];cases uD o (.exit 0) <;> exact ⟨h',rfl,y⟩
theorem aB3 (hT:Toks T) (hN:100≤N) (x:PC T P X h σ st) (pub:Bool) (at_:Int):∃ r h',f102 N (some (P,0)) pub at_ h=some (r,h')∧PC T P X h' (jF T pub at_ σ).2 st∧Chg [P] h h'∧Dt h' (fun C=>h.next≤C) (jF T pub at_ σ).1 (stc r):=by
 unfold f102;have hP:=x.P_lt;have oQ:=vA h [AV.ptr (some (P,0))];have cQ:=qA h (.row [AV.ptr (some (P,0))] .own);have nQ:(h.push (.row [AV.ptr (some (P,0))] .own)).next=h.next+1:=rfl;dsimp only;generalize h.push (.row [AV.ptr (some (P,0))] .own)=h1 at *;have oR:=vA h1 (stc st0);have cR:=qA h1 (.row (stc st0) .own);have eR:h1.push (.row [(.bool false),(.str []),(.slice none 0 0 0),(.slice none 0 0 0),(.int .i64 0)] .own)=h1.push (.row (stc st0) .own):=rfl;have nR:(h1.push (.row (stc st0) .own)).next=h1.next+1:=rfl;have x2:=(x.chg cQ).add cR (A:=h1.next) (Nat.le_refl _) (Nat.lt_succ_self _);rw [eR];generalize h1.push (.row (stc st0) .own)=h2 at *;have oQ2:=oQ.chg cR (by simp);have c02:=cQ.trans cR;have r2:h2.cell (h.next,0)=some (.ptr (some (P,0))):=oQ2.cell 0;simp only [r2,fA,uB];obtain ⟨h5,e5,c5,x5⟩:=aU (N:=N) hT x2 (k:=1) (by decide);rw [e5,aA];have oQ5:=oQ2.chg c5 (by simp;omega);have oR5:=oR.chg c5 (by simp;omega);have hn5:=c5.next;generalize hnm:(iC T 1 σ).1=nm at *;have oO0:=vA h5 (stc st0);have cO0:=qA h5 (.row (stc st0) .own);have eO:h5.push (.row [(.bool false),(.str []),(.slice none 0 0 0),(.slice none 0 0 0),(.int .i64 0)] .own)=h5.push (.row (stc st0) .own):=rfl;have hstO:(h5.push (.row (stc st0) .own)).store (h5.next,0) [(.bool pub),(.str nm),(.slice none 0 0 0),(.slice none 0 0 0),(.int .i64 at_)]=some ((h5.push (.row (stc st0) .own)).put h5.next (.row (stc (pub,nm,sl0,sl0,at_,())) .own)):=oO0.store rfl;rw [eO,hstO,dA];have oO:=yA oO0 (stc (pub,nm,sl0,sl0,at_,()));have cO:Chg [] h5 ((h5.push (.row (stc st0) .own)).put h5.next (.row (stc (pub,nm,sl0,sl0,at_,())) .own)):=cO0.put (.inr (Nat.le_refl _)) _;have nO:((h5.push (.row (stc st0) .own)).put h5.next (.row (stc (pub,nm,sl0,sl0,at_,())) .own)).next=h5.next+1:=rfl;have x7:=x5.add cO (A:=h5.next) (Nat.le_refl _) (Nat.lt_succ_self _);have oQ7:=oQ5.chg cO (by simp);have oR7:=oR5.chg cO (by simp);generalize (h5.push (.row (stc st0) .own)).put h5.next (.row (stc (pub,nm,sl0,sl0,at_,())) .own)=h7 at *;have r7:h7.cell (h.next,0)=some (.ptr (some (P,0))):=oQ7.cell 0;simp only [r7,fA,uB];obtain ⟨s9,h10,e10,x10,c10,sl10⟩:=jBa (N:=N) hT hN x7;rw [e10,aA];have oQ10:=oQ7.chg c10 (by simp;omega);have oR10:=oR7.chg c10 (by simp;omega);have oO10:=oO.chg c10 (by simp;omega);have hn10:=c10.next;have hst:h10.store (h5.next,2) [.slice s9.a s9.len s9.cap s9.sz]=some (h10.put h5.next (.row (stc (pub,nm,s9,sl0,at_,())) .own)):=kD oO10 rfl;simp only [Nat.zero_add];rw [hst,dA];have cS:=oO10.put (stc (pub,nm,s9,sl0,at_,()));have oO11:=yA oO10 (stc (pub,nm,s9,sl0,at_,()));have oQ11:=oQ10.chg cS (by simp;omega);have oR11:=oR10.chg cS (by simp;omega);have x11:=x10.chg1 cS (by simp);have sl11:=sl10.chg cS (fun C hC=>by simp;omega);have n11:(h10.put h5.next (.row (stc (pub,nm,s9,sl0,at_,())) .own)).next=h10.next:=rfl;have c011:Chg [P] h (h10.put h5.next (.row (stc (pub,nm,s9,sl0,at_,())) .own)):=by
  have a1:Chg [P] h h7:=((c02.mono (by simp)).trans c5).trans (cO.mono (by simp));exact (a1.trans c10).step cS (fun A hA hl=>by rw [List.mem_singleton] at hA;omega)
 generalize h10.put h5.next (.row (stc (pub,nm,s9,sl0,at_,())) .own)=h11 at *;have r11:h11.cell (h.next,0)=some (.ptr (some (P,0))):=oQ11.cell 0;simp only [r11,fA,uB];obtain ⟨h14,e14,c14,x14⟩:=tF (N:=N) hT x11 (w:=[123]) (by decide);rw [e14,aA];have oQ14:=oQ11.chg c14 (by simp;omega);have r14:h14.cell (h.next,0)=some (.ptr (some (P,0))):=oQ14.cell 0;simp only [r14,fA,uB];obtain ⟨h17,e17,c17,x17⟩:=pI (N:=N) hT x14 (w:=[125]) (by decide);rw [e17,aA];have c1117:=c14.trans c17;have oQ17:=oQ14.chg c17 (by simp;omega);have oO17:=oO11.chg c1117 (by simp;omega);have oR17:=oR11.chg c1117 (by simp;omega);have sl17:=sl11.chg c1117 (fun C hC=>by simp;omega);have hn17:=c1117.next;have c017:=c011.trans c1117;simp only [jF,hnm]
 cases hb:(kB T [125] (gD T [123] (oI T (iC T 1 σ).2).2)).1 with
 | true=>
  simp only [Bool.not_true,cond_false,if_true];rw [rAb oO17];have cZ:=oR17.put (stc (pub,nm,s9,sl0,at_,()));refine ⟨(pub,nm,s9,sl0,at_,()),_,wBh oR17 (pub,nm,s9,sl0,at_,()) (fun x h=>some (x,h)),(x17.chg1 cZ (by simp)).sub (by simp +contextual),c017.step cZ (fun A hA hl=>by rw [List.mem_singleton] at hA;omega),qA7 ?_ (Sl.nil _ _ _)⟩;exact (sl17.chg cZ (fun C hC=>by simp;omega)).weak (fun C hC _=>by omega)
 | false=>
  simp only [Bool.not_false,cond_true,Bool.false_eq_true,if_false];have r17:h17.cell (h.next,0)=some (.ptr (some (P,0))):=oQ17.cell 0;simp only [r17,fA,uB];have f:CF P (h5.next::h1.next::X) h17 h5.next h.next 6 3 (fun v=>stc (pub,nm,s9,v,at_,())):=⟨by omega,by omega,by simp,fun v=>rfl,fun v v'=>rfl⟩;obtain ⟨h21,e21,ci⟩:=jAf (N:=N) hT hN f ⟨x17,Chg.refl _ _,oQ17,sl0,oO17,Ow.nil _ _ _ _⟩;rw [e21,aA];obtain ⟨v,oO21,w21⟩:=ci.ex;have r21:h21.cell (h.next,0)=some (.ptr (some (P,0))):=ci.q.cell 0;simp only [r21,fA,uB];obtain ⟨h24,e24,c24,x24⟩:=tF (N:=N) hT ci.pc (w:=[125]) (by decide);rw [e24,aA];have hn21:=ci.chg.next;have hn24:=c24.next;have oO24:=oO21.chg c24 (by simp;omega);have w24:=w21.chg c24 (by intro A hA;rw [List.mem_singleton] at hA;omega);have oR24:=(oR17.chg ci.chg (by simp;omega)).chg c24 (by simp;omega);have sl24:=(sl17.chg ci.chg (fun C hC=>by simp;omega)).chg c24 (fun C hC=>by simp;omega);rw [rAb oO24];have cZ:=oR24.put (stc (pub,nm,s9,v,at_,()));have c024:Chg [P] h h24:=(c017.step ci.chg (fun A hA hl=>by
   simp only [List.mem_cons,List.not_mem_nil,or_false] at hA ⊢;omega)).trans c24
  refine ⟨(pub,nm,s9,v,at_,()),_,wBh oR24 (pub,nm,s9,v,at_,()) (fun x h=>some (x,h)),(x24.chg1 cZ (by simp)).sub (by simp +contextual),c024.step cZ (fun A hA hl=>by rw [List.mem_singleton] at hA;omega),qA7 ?_ ?_⟩
  ·exact (sl24.chg cZ (fun C hC=>by simp;omega)).weak (fun C hC _=>by omega)
  ·exact (w24.sl.chg cZ (fun C hC=>by simp;omega)).weak (fun C hC _=>by omega)
end
end Qp
namespace Qp
abbrev LfV:=zV2×SL×Unit
def lfc (x:LfV):List AV:=[.str x.1,SL.av x.2.1]
abbrev lf0:LfV:=([],sl0,())
theorem cAn {β:Type} (r:LfV) (K:LfV→Option β):iA (.val zJ) (some (.agg (lfc r))) K=K r:=by
 obtain ⟨n,s,_⟩:=r;simp [lfc,SL.av]
theorem yAi {H:Heap} {A:Nat} {r:LfV} (o:H.own A (lfc r)) {β:Type} (K:LfV→Option β):iA (.val zJ) (H.cells (A,0) 2) K=K r:=by
 have:H.cells (A,0) 2=some (.agg (lfc r)):=o.cells (j:=0) (m:=2) (Nat.le_refl _)
 rw [this,cAn]
theorem bBg {H:Heap} {A:Nat} {r0:LfV} (o:H.own A (lfc r0)) (r:LfV) {β:Type} (K:LfV→Heap→Option β) :
  (rA (H.store (A,0) [.str r.1,.slice r.2.1.a r.2.1.len r.2.1.cap r.2.1.sz]) fun h7=>iA (.val zJ) (h7.cells (A,0) 2) fun x8=>K x8 h7)=K r (H.put A (.row (lfc r) .own)):=by
 have:H.store (A,0) [.str r.1,.slice r.2.1.a r.2.1.len r.2.1.cap r.2.1.sz]=some (H.put A (.row (lfc r) .own)):=o.store rfl
 rw [this,dA,yAi (yA o _)]
def rA1 (nm:Bs) (l:List D):D:=.t [.s nm,.l l]
theorem vV {h:Heap} {V:Nat→Prop} {nm:Bs} {l:List D} {s:SL} (x:Sl h V s l):Dt h V (rA1 nm l) (lfc (nm,s,())):=
 pAu (wC (a:=[_]) (qJ h V nm) (wC (a:=[_]) (b:=[]) (qL.2 x) (aX h V)))
def tA1 (T:List Tok) (k:Int) (σ:St):D×St:=(.s (iC T k σ).1,(iC T k σ).2)
def wX (T:List Tok) (σ:St):D×St:=
 let a:=iC T 3 σ
 let b:=kB T [58] a.2
 if b.1=true then (rA1 a.1 (bE T (tA1 T 3) [43] b.2).1,(bE T (tA1 T 3) [43] b.2).2) else (rA1 a.1 [],b.2)
def uF (T:List Tok) (σ:St):D×St:=
 let m:=kB T [109,117,116] σ
 let a:=iC T 1 m.2
 let r:=yL T 64 (gD T [58] a.2)
 (fdD m.1 a.1 r.1,r.2)
theorem kBa:AppN E 36 76 2 1000:=AppN.of (by kernel_rfl)
section
variable {N:Nat} {T:List Tok} {P:Nat} {X:List Nat} {st:Int} {h:Heap} {σ:St}
theorem mQ (P:zO2) (sep:Bs) (O Q:zO2):∀ (M:Nat) (n:Int) (h:Heap),dM N M P sep (O,Q,()) n h=bN N P sep (fun h=>f189 N O Q h) M n h
 | 0,n,h=>rfl
 | M+1,n,h=>by
  rw [qX];unfold cM;simp only [bN];simp only [mQ P sep O Q M]
theorem pQ (P:zO2) (sep:Bs) (O Q:zO2):∀ (M:Nat) (n:Int) (h:Heap),fM N M P sep (O,Q,()) n h=bN N P sep (fun h=>f155 N O Q h) M n h
 | 0,n,h=>rfl
 | M+1,n,h=>by
  rw [rX];unfold eM;simp only [bN];simp only [pQ P sep O Q M]
theorem qQ (P:zO2) (sep:Bs) (O Q:zO2):∀ (M:Nat) (n:Int) (h:Heap),iM N M P sep (Q,O,()) n h=bN N P sep (fun h=>f157 N Q O h) M n h
 | 0,n,h=>rfl
 | M+1,n,h=>by
  rw [tX];unfold gM;simp only [bN];simp only [qQ P sep O Q M]
theorem bB3 (hT:Toks T) {h0:Heap} {O Q:Nat} {row:SL→List AV} (f:CF P X h0 O Q 1 1 row) {xs:List D} {i:Nat} (x:CI T P X st h0 O Q 1 row h xs (i,none)) (hl:xs.length≤64):∃ h',f189 N (some (O,0)) (some (Q,0)) h=some ((),h')∧CI T P X st h0 O Q 1 row h' (xs++[(tA1 T 3 (i,none)).1]) (tA1 T 3 (i,none)).2:=by
 unfold f189;obtain ⟨v,o1,w1,y,r1,r2⟩:=x.open f;obtain ⟨h6,e6,c6,x6⟩:=aU (N:=N) hT y (k:=3) (by decide);obtain ⟨H',eK,ci,g1,g2⟩:=x.close f o1 w1 fAl (by decide) (by decide) hl c6 x6 (qJ h6 _ (iC T 3 (i,none)).1) rfl;simp only [dA,Nat.zero_add,r1,r2,fA,uA,uB];rw [e6,aA];simp only [rE,r2,g2,g1,r1,cD,cond_true,mC];exact ⟨H',eK _,ci⟩
theorem rAr (hT:Toks T) (hN:100≤N) {h0:Heap} {O Q:Nat} {row:SL→List AV} (f:CF P X h0 O Q 1 1 row) (x:CI T P X st h0 O Q 1 row h0 [] σ):∃ h',uY N (some (P,0)) [43] ((some (O,0)),(some (Q,0)),()) h0=some ((),h')∧CI T P X st h0 O Q 1 row h' (bE T (tA1 T 3) [43] σ).1 (bE T (tA1 T 3) [43] σ).2:=by
 unfold uY;obtain ⟨o,h',e,y⟩:=qP (N:=N) hT hN (F:=fun h=>f189 N (some (O,0)) (some (Q,0)) h) (one:=tA1 T 3) (Inv:=CI T P X st h0 O Q 1 row) (fun h xs σ c=>c.pc) (fun h h' xs σ σ' c d z=>c.step f d z) (fun h xs i c hl=>bB3 hT f c hl) (sep:=[43]) (by decide) x;simp only [mQ];rw [e];simp only [pB];cases uD o (.exit 0) <;> exact ⟨h',rfl,y⟩
theorem cB3 (hT:Toks T) (hN:100≤N) (x:PC T P X h σ st):∃ r h',f156 N (some (P,0)) h=some (r,h')∧PC T P X h' (wX T σ).2 st∧Chg [P] h h'∧Dt h' (fun C=>h.next≤C) (wX T σ).1 (lfc r):=by
 unfold f156;have hP:=x.P_lt;have oQ:=vA h [AV.ptr (some (P,0))];have cQ:=qA h (.row [AV.ptr (some (P,0))] .own);have nQ:(h.push (.row [AV.ptr (some (P,0))] .own)).next=h.next+1:=rfl;dsimp only;generalize h.push (.row [AV.ptr (some (P,0))] .own)=h1 at *;have oR:=vA h1 (lfc lf0);have cR:=qA h1 (.row (lfc lf0) .own);have eR:h1.push (.row [(.str []),(.slice none 0 0 0)] .own)=h1.push (.row (lfc lf0) .own):=rfl;have nR:(h1.push (.row (lfc lf0) .own)).next=h1.next+1:=rfl;have x2:=(x.chg cQ).add cR (A:=h1.next) (Nat.le_refl _) (Nat.lt_succ_self _);rw [eR];generalize h1.push (.row (lfc lf0) .own)=h2 at *;have oQ2:=oQ.chg cR (by simp);have c02:=cQ.trans cR;have r2:h2.cell (h.next,0)=some (.ptr (some (P,0))):=oQ2.cell 0;simp only [r2,fA,uB];obtain ⟨h5,e5,c5,x5⟩:=aU (N:=N) hT x2 (k:=3) (by decide);rw [e5,aA];have oQ5:=oQ2.chg c5 (by simp;omega);have oR5:=oR.chg c5 (by simp;omega);have hn5:=c5.next;generalize hnm:(iC T 3 σ).1=nm at *;have oO0:=vA h5 (lfc lf0);have cO0:=qA h5 (.row (lfc lf0) .own);have eO:h5.push (.row [(.str []),(.slice none 0 0 0)] .own)=h5.push (.row (lfc lf0) .own):=rfl;have hstO:(h5.push (.row (lfc lf0) .own)).store (h5.next,0) [(.str nm),(.slice none 0 0 0)]=some ((h5.push (.row (lfc lf0) .own)).put h5.next (.row (lfc (nm,sl0,())) .own)):=oO0.store rfl;rw [eO,hstO,dA];have oO:=yA oO0 (lfc (nm,sl0,()));have cO:Chg [] h5 ((h5.push (.row (lfc lf0) .own)).put h5.next (.row (lfc (nm,sl0,())) .own)):=cO0.put (.inr (Nat.le_refl _)) _;have nO:((h5.push (.row (lfc lf0) .own)).put h5.next (.row (lfc (nm,sl0,())) .own)).next=h5.next+1:=rfl;have x7:=x5.add cO (A:=h5.next) (Nat.le_refl _) (Nat.lt_succ_self _);have oQ7:=oQ5.chg cO (by simp);have oR7:=oR5.chg cO (by simp);generalize (h5.push (.row (lfc lf0) .own)).put h5.next (.row (lfc (nm,sl0,())) .own)=h7 at *;have c07:Chg [P] h h7:=((c02.mono (by simp)).trans c5).trans (cO.mono (by simp));have r7:h7.cell (h.next,0)=some (.ptr (some (P,0))):=oQ7.cell 0;simp only [r7,fA,uB];obtain ⟨h17,e17,c17,x17⟩:=pI (N:=N) hT x7 (w:=[58]) (by decide);rw [e17,aA];have oQ17:=oQ7.chg c17 (by simp;omega);have oO17:=oO.chg c17 (by simp;omega);have oR17:=oR7.chg c17 (by simp;omega);have hn17:=c17.next;have c017:=c07.trans c17;simp only [wX,hnm]
 cases hb:(kB T [58] (iC T 3 σ).2).1 with
 | false=>
  simp only [cond_false,Bool.false_eq_true,if_false];rw [yAi oO17];have cZ:=oR17.put (lfc (nm,sl0,()));exact ⟨(nm,sl0,()),_,bBg oR17 (nm,sl0,()) (fun x h=>some (x,h)),(x17.chg1 cZ (by simp)).sub (by simp +contextual),c017.step cZ (fun A hA hl=>by rw [List.mem_singleton] at hA;omega),vV (Sl.nil _ _ _)⟩
 | true=>
  simp only [cond_true,if_true];have r17:h17.cell (h.next,0)=some (.ptr (some (P,0))):=oQ17.cell 0;simp only [r17,fA,uB];have f:CF P (h5.next::h1.next::X) h17 h5.next h.next 1 1 (fun v=>lfc (nm,v,())):=⟨by omega,by omega,by simp,fun v=>rfl,fun v v'=>rfl⟩;obtain ⟨h21,e21,ci⟩:=rAr (N:=N) hT hN f ⟨x17,Chg.refl _ _,oQ17,sl0,oO17,Ow.nil _ _ _ _⟩;rw [e21,aA];obtain ⟨v,oO21,w21⟩:=ci.ex;have hn21:=ci.chg.next;have oR21:=oR17.chg ci.chg (by simp;omega);rw [yAi oO21];have cZ:=oR21.put (lfc (nm,v,()));have c021:Chg [P] h h21:=c017.step ci.chg (fun A hA hl=>by
   simp only [List.mem_cons,List.not_mem_nil,or_false] at hA ⊢;omega)
  refine ⟨(nm,v,()),_,bBg oR21 (nm,v,()) (fun x h=>some (x,h)),(ci.pc.chg1 cZ (by simp)).sub (by simp +contextual),c021.step cZ (fun A hA hl=>by rw [List.mem_singleton] at hA;omega),vV ?_⟩;exact (w21.sl.chg cZ (fun C hC=>by simp;omega)).weak (fun C hC _=>by omega)
theorem dB3 (hT:Toks T) (hN:100≤N) {h0:Heap} {O Q:Nat} {row:SL→List AV} (f:CF P X h0 O Q 2 2 row) {xs:List D} {i:Nat} (x:CI T P X st h0 O Q 2 row h xs (i,none)) (hl:xs.length≤64):∃ h',f155 N (some (O,0)) (some (Q,0)) h=some ((),h')∧CI T P X st h0 O Q 2 row h' (xs++[(wX T (i,none)).1]) (wX T (i,none)).2:=by
 unfold f155;obtain ⟨v,o1,w1,y,r1,r2⟩:=x.open f;obtain ⟨r,h6,e6,x6,c6,d6⟩:=cB3 (N:=N) hT hN y;obtain ⟨H',eK,ci,g1,g2⟩:=x.close f o1 w1 kBa (by decide) (by decide) hl c6 x6 d6 rfl;simp only [dA,Nat.zero_add,r1,r2,fA,uA,uB];rw [e6,aA];have g2':(h6.push (.row [(.str r.1),(.slice r.2.1.a r.2.1.len r.2.1.cap r.2.1.sz)] .own)).cell (O,2)=some (.slice v.a v.len v.cap v.sz):=g2;simp only [rE,r2,g2',g1,r1,cD,cond_true,mC];exact ⟨H',eK _,ci⟩
theorem tAr (hT:Toks T) (hN:100≤N) {h0:Heap} {O Q:Nat} {row:SL→List AV} (f:CF P X h0 O Q 2 2 row) (x:CI T P X st h0 O Q 2 row h0 [] σ):∃ h',tT N (some (P,0)) [44] ((some (O,0)),(some (Q,0)),()) h0=some ((),h')∧CI T P X st h0 O Q 2 row h' (bE T (wX T) [44] σ).1 (bE T (wX T) [44] σ).2:=by
 unfold tT;obtain ⟨o,h',e,y⟩:=qP (N:=N) hT hN (F:=fun h=>f155 N (some (O,0)) (some (Q,0)) h) (one:=wX T) (Inv:=CI T P X st h0 O Q 2 row) (fun h xs σ c=>c.pc) (fun h h' xs σ σ' c d z=>c.step f d z) (fun h xs i c hl=>dB3 hT hN f c hl) (sep:=[44]) (by decide) x;simp only [pQ];rw [e];simp only [pB];cases uD o (.exit 0) <;> exact ⟨h',rfl,y⟩
theorem eB3 (hT:Toks T) (hN:100≤N) {h0:Heap} {O Q:Nat} {row:SL→List AV} (f:CF P X h0 O Q 6 3 row) {xs:List D} {i:Nat} (x:CI T P X st h0 O Q 6 row h xs (i,none)) (hl:xs.length≤64):∃ h',f157 N (some (Q,0)) (some (O,0)) h=some ((),h')∧CI T P X st h0 O Q 6 row h' (xs++[(uF T (i,none)).1]) (uF T (i,none)).2:=by
 unfold f157;have hO:=f.o;have hQ:=f.q;obtain ⟨v,o1,w1,y,r1,r2⟩:=x.open f;simp only [dA,r2,fA,uB];obtain ⟨h4,e4,c4,x4⟩:=fI (N:=N) hT y (w:=[109,117,116]) (by decide);rw [e4,aA];have r4:h4.cell (Q,0)=some (.ptr (some (P,0))):=(x.q.chg c4 (by simp;omega)).cell 0;simp only [r4,fA,uB];obtain ⟨r,h8,e8,x8,c8,d8,nm,t,hr,hf,dt⟩:=iAf (N:=N) hT hN x4;rw [e8,aA];have hn0:=x.chg.next;have hn4:=c4.next;have hn8:=c8.next;have hnm:nm=(iC T 1 (kB T [109,117,116] (i,none)).2).1:=by
  simp only [pG,fdD,D.t.injEq,List.cons.injEq,D.s.injEq,true_and,and_true] at hf;exact hf.symm
 have oA0:=vA h8 (fdc fd0);have cA0:=qA h8 (.row (fdc fd0) .own);have eA:h8.push (.row [(.bool false),(.str []),(.int .i64 0),(.str []),(.slice none 0 0 0),(.slice none 0 0 0)] .own)=h8.push (.row (fdc fd0) .own):=rfl;rw [eA,qAr oA0 r,dA];have oA1:=yA oA0 (fdc r);have cA1:Chg [] h8 ((h8.push (.row (fdc fd0) .own)).put h8.next (.row (fdc r) .own)):=cA0.put (.inr (Nat.le_refl _)) _;generalize hm:(kB T [109,117,116] (i,none)).1=m at *;have hst:((h8.push (.row (fdc fd0) .own)).put h8.next (.row (fdc r) .own)).store (h8.next,0) [.bool m]=some (((h8.push (.row (fdc fd0) .own)).put h8.next (.row (fdc r) .own)).put h8.next (.row (fdc (qR m nm t)) .own)):=by
  rw [hr] at oA1 ⊢;exact oA1.store1 (j:=0) (by show 0<6;omega) _
 simp only [Nat.add_zero];rw [hst,dA];have oA2:=yA oA1 (fdc (qR m nm t));have cA2:Chg [] h8 (((h8.push (.row (fdc fd0) .own)).put h8.next (.row (fdc r) .own)).put h8.next (.row (fdc (qR m nm t)) .own)):=cA1.put (.inr (Nat.le_refl _)) _;generalize ((h8.push (.row (fdc fd0) .own)).put h8.next (.row (fdc r) .own)).put h8.next (.row (fdc (qR m nm t)) .own)=h11 at *;have x11:=x8.chg cA2;have c11:Chg [P] h h11:=(c4.trans c8).trans (cA2.mono (by simp));have dd:Dt h11 (fun C=>h.next≤C) (fdD m nm (yL T 64 (gD T [58] (iC T 1 (kB T [109,117,116] (i,none)).2).2)).1) (fdc (qR m nm t)):=vB2 ((dt.chg cA2 (by simp)).weak (fun C hC _=>by omega));obtain ⟨H',eK,ci,g1,g2⟩:=x.close f o1 w1 wB2 (by decide) (by decide) hl c11 x11 dd rfl;simp only [Nat.zero_add,g1,fA,uA];rw [vAi oA2];have hp:(uF T (i,none))=(fdD m nm (yL T 64 (gD T [58] (iC T 1 (kB T [109,117,116] (i,none)).2).2)).1,(pG T (kB T [109,117,116] (i,none)).2).2):=by
  simp only [uF,pG,hm,hnm]
 rw [hp];exact ⟨H',eK _,ci⟩
theorem kAf (hT:Toks T) (hN:100≤N) {h0:Heap} {O Q:Nat} {row:SL→List AV} (f:CF P X h0 O Q 6 3 row) (x:CI T P X st h0 O Q 6 row h0 [] σ):∃ h',uT N (some (P,0)) [44] ((some (Q,0)),(some (O,0)),()) h0=some ((),h')∧CI T P X st h0 O Q 6 row h' (bE T (uF T) [44] σ).1 (bE T (uF T) [44] σ).2:=by
 unfold uT;obtain ⟨o,h',e,y⟩:=qP (N:=N) hT hN (F:=fun h=>f157 N (some (Q,0)) (some (O,0)) h) (one:=uF T) (Inv:=CI T P X st h0 O Q 6 row) (fun h xs σ c=>c.pc) (fun h h' xs σ σ' c d z=>c.step f d z) (fun h xs i c hl=>eB3 hT hN f c hl) (sep:=[44]) (by decide) x;simp only [qQ];rw [e];simp only [pB];cases uD o (.exit 0) <;> exact ⟨h',rfl,y⟩
end
end Qp
namespace Qp
def lK (T:List Tok):Nat→St→List Bs×St
 | 0,σ=>let b:=kB T [46] σ;if b.1=true then ([],iF T 5 b.2) else ([],b.2)
 | g+1,σ=>
  let b:=kB T [46] σ
  if b.1=true then
   let c:=kB T [42] b.2
   if c.1=true then ([42]::(lK T g c.2).1,(lK T g c.2).2)
   else let x:=iC T 1 c.2;(x.1::(lK T g x.2).1,(lK T g x.2).2)
  else ([],b.2)
def qG (T:List Tok) (σ:St):D×St:=
 let a:=iC T 1 σ
 let p:=lK T 64 a.2
 (rA1 a.1 (p.1.map D.s),p.2)
def pl0:D:=rA1 [] []
def opD (k n:Int) (pl:D):D:=.t [.i k,.i n,pl]
def op0:D:=opD 0 0 pl0
def kF (T:List Tok) (σ:St):D×St:=
 let a:=kB T [116,114,117,101] σ
 if a.1=true then (opD 2 1 pl0,a.2) else
 let b:=kB T [102,97,108,115,101] a.2
 if b.1=true then (opD 2 0 pl0,b.2) else
 if (tk T b.2.1).1=4 then (opD 1 ((tU (iC T 4 b.2).1 0:Nat):Int) pl0,(iC T 4 b.2).2)
 else (opD 3 0 (qG T b.2).1,(qG T b.2).2)
def dF (T:List Tok) (w:Bs) (σ:St):Bool:=σ.2.isNone&&(decide ((tk T σ.1).1=1)&&(decide ((tk T (σ.1+1)).1=5)&&jB (tk T (σ.1+1)).2.1 w))
section
variable {N:Nat} {T:List Tok} {P:Nat} {X:List Nat} {st:Int} {h:Heap} {σ:St}
theorem uAr (hT:Toks T) {h0:Heap} {O:Nat} {R:zO2} {nm:Bs} (hO:P<O∧O<h0.next) (hX:O∈X):∀ (g M:Nat) (h:Heap) (σ:St) (v:SL) (xs:List Bs),g<M→g≤64→xs.length=64-g→PC T P X h σ st→Chg [P,O] h0 h→h.own O (lfc (nm,v,()))→Ow h0.next h v 1 (xs.map D.s)→
  ∃ v' h',mA7 N M (some (P,0)) R (some (O,0)) h=some (.exit 0,(R,some (O,0),()),h')∧PC T P X h' (lK T g σ).2 st∧Chg [P,O] h0 h'∧h'.own O (lfc (nm,v',()))∧Ow h0.next h' v' 1 ((xs++(lK T g σ).1).map D.s):=by
 intro g
 induction g with
 | zero=>
  intro M h σ v xs hM hg hx x c oO w;obtain ⟨M,rfl⟩:∃ m,M=m+1:=⟨M-1,by omega⟩;rw [wW];unfold vT;obtain ⟨h7,e7,c7,x7⟩:=pI (N:=N) hT x (w:=[46]) (by decide);rw [e7,aA];have o7:=oO.chg c7 (by simp;omega);have w7:=w.chg c7 (by intro A hA;rw [List.mem_singleton] at hA;omega);have c07:=c.trans (c7.mono (N:=[P,O]) (by simp));simp only [lK]
  cases hb:(kB T [46] σ).1 with
  | false=>
   simp only [cond_false,Bool.false_eq_true,if_false];exact ⟨v,h7,rfl,x7,c07,o7,by rw [List.append_nil];exact w7⟩
  | true=>
   simp only [cond_true,if_true];have r7:h7.cell (O,1)=some (.slice v.a v.len v.cap v.sz):=o7.cell 1;have hv:v.len=64:=by rw [w7.len,List.length_map,hx]
   simp only [dA,Nat.zero_add,r7,fA,uA];have hs:=(eH hb).1;rw [hs] at x7 ⊢;obtain ⟨h11,e11,c11,x11⟩:=qA1 (N:=N) x7 v.len;rw [show Int.ofNat v.len=(v.len:Int) from rfl,e11,aA];rw [hv] at x11 ⊢;simp only [Nat.le_refl,if_true,iF,Option.isNone_some,cond_false] at x11 ⊢;exact ⟨v,h11,rfl,x11,c07.trans (c11.mono (by simp)),o7.chg c11 (by simp;omega),by rw [List.append_nil];exact w7.chg c11 (by intro A hA;rw [List.mem_singleton] at hA;omega)⟩
 | succ g ih=>
  intro M h σ v xs hM hg hx x c oO w;obtain ⟨M,rfl⟩:∃ m,M=m+1:=⟨M-1,by omega⟩;rw [wW];unfold vT;obtain ⟨h7,e7,c7,x7⟩:=pI (N:=N) hT x (w:=[46]) (by decide);rw [e7,aA];have o7:=oO.chg c7 (by simp;omega);have w7:=w.chg c7 (by intro A hA;rw [List.mem_singleton] at hA;omega);have c07:=c.trans (c7.mono (N:=[P,O]) (by simp));simp only [lK]
  cases hb:(kB T [46] σ).1 with
  | false=>
   simp only [cond_false,Bool.false_eq_true,if_false];exact ⟨v,h7,rfl,x7,c07,o7,by rw [List.append_nil];exact w7⟩
  | true=>
   simp only [cond_true,if_true];have r7:h7.cell (O,1)=some (.slice v.a v.len v.cap v.sz):=o7.cell 1;have hv:v.len=64-(g+1):=by rw [w7.len,List.length_map,hx]
   simp only [dA,Nat.zero_add,r7,fA,uA];have hs:=(eH hb).1;rw [hs] at x7 ⊢;obtain ⟨h11,e11,c11,x11⟩:=qA1 (N:=N) x7 v.len;rw [show Int.ofNat v.len=(v.len:Int) from rfl,e11,aA];have z:¬ 64≤v.len:=by omega
   simp only [z,if_false,Option.isNone_none,cond_true] at x11 ⊢;obtain ⟨h13,e13,c13,x13⟩:=pI (N:=N) hT x11 (w:=[42]) (by decide);rw [e13,aA];have c713:=c11.trans c13;have o13:=o7.chg c713 (by simp;omega);have w13:=w7.chg c713 (by intro A hA;rw [List.mem_singleton] at hA;omega);have c013:=c07.trans (c713.mono (N:=[P,O]) (by simp));have hlt:∀ A,v.blk=some A→h0.next≤A∧A<h13.next:=w13.ge;have r13:h13.cell (O,1)=some (.slice v.a v.len v.cap v.sz):=o13.cell 1;have hll:(xs.length+1) * 100≤1073741824:=by omega
   cases hb2:(kB T [42] (σ.1+1,none)).1 with
   | true=>
    simp only [cond_true,if_true,r13,fA,uA];have hs2:=(eH hb2).1;rw [hs2] at x13 ⊢;have xf:=x13.free (X':=v.blk.toList++X) fun A hA=>by
     rcases List.mem_append.1 hA with hA | hA
     ·have:=hlt A (by simpa using hA);omega
     ·exact x13.pa.xl A hA
    obtain ⟨v',H',eK,o',w',c'⟩:=pAr fAl (by decide) c013 o13 (j:=1) rfl w13 hO.2 (qJ h13 _ ([42]:Bs)) rfl (by rw [List.length_map];exact hll);have hM':∀ A∈O::v.blk.toList,A∈v.blk.toList++X:=fun A hA=>by
     rcases List.mem_cons.1 hA with rfl | hA
     ·exact List.mem_append_right _ hX
     ·exact List.mem_append_left _ hA
    have xH:=(xf.chgM c' hM').sub (X':=X) fun A hA=>List.mem_append_right _ hA;have cH:Chg [P,O] h0 H':=c013.step c' fun A hA hl=>by
     rcases List.mem_cons.1 hA with rfl | hA
     ·simp
     ·have:=hlt A (by simpa using hA);omega
    rw [eK];have w'':Ow h0.next H' v' 1 ((xs++[[42]]).map D.s):=by rw [List.map_append];exact w'
    have:=ih M H' _ v' (xs++[[42]]) (by omega) (by omega) (by simp;omega) xH cH o' w''
    simpa only [List.append_assoc,List.singleton_append] using this
   | false=>
    simp only [cond_false,Bool.false_eq_true,if_false,r13,fA,uA];rw [wD hb2] at x13 ⊢;have xf:=x13.free (X':=v.blk.toList++X) fun A hA=>by
     rcases List.mem_append.1 hA with hA | hA
     ·have:=hlt A (by simpa using hA);omega
     ·exact x13.pa.xl A hA
    obtain ⟨h24,e24,c24,x24⟩:=aU (N:=N) hT xf (k:=1) (by decide);rw [e24,aA];have o24:=o13.chg c24 (by simp;omega);have w24:=w13.chg c24 (by intro A hA;rw [List.mem_singleton] at hA;omega);have c024:=c013.trans (c24.mono (N:=[P,O]) (by simp));generalize hxx:(iC T 1 (σ.1+1,none)).1=xx at *;obtain ⟨v',H',eK,o',w',c'⟩:=pAr fAl (by decide) c024 o24 (j:=1) rfl w24 hO.2 (qJ h24 _ xx) rfl (by rw [List.length_map];exact hll);have hM':∀ A∈O::v.blk.toList,A∈v.blk.toList++X:=fun A hA=>by
     rcases List.mem_cons.1 hA with rfl | hA
     ·exact List.mem_append_right _ hX
     ·exact List.mem_append_left _ hA
    have xH:=(x24.chgM c' hM').sub (X':=X) fun A hA=>List.mem_append_right _ hA;have cH:Chg [P,O] h0 H':=c024.step c' fun A hA hl=>by
     rcases List.mem_cons.1 hA with rfl | hA
     ·simp
     ·have:=hlt A (by simpa using hA);omega
    have r24:h24.cell (O,1)=some (.slice v.a v.len v.cap v.sz):=o24.cell 1;have r25:(h24.push (.row [(.str xx)] .own)).cell (O,1)=some (.slice v.a v.len v.cap v.sz):=(o24.chg (qA h24 _) (by simp)).cell 1;simp only [r25,r24,cD,cond_true,mC];rw [eK];have w'':Ow h0.next H' v' 1 ((xs++[xx]).map D.s):=by rw [List.map_append];exact w'
    have:=ih M H' _ v' (xs++[xx]) (by omega) (by omega) (by simp;omega) xH cH o' w''
    simpa only [List.append_assoc,List.singleton_append] using this
theorem uA1 (hT:Toks T) (hN:100≤N) (x:PC T P X h σ st):∃ r h',f221 N (some (P,0)) h=some (r,h')∧PC T P X h' (qG T σ).2 st∧Chg [P] h h'∧Dt h' (fun C=>h.next≤C) (qG T σ).1 (lfc r):=by
 unfold f221;have hP:=x.P_lt;have oR:=vA h (lfc lf0);have cR:=qA h (.row (lfc lf0) .own);have eR:h.push (.row [(.str []),(.slice none 0 0 0)] .own)=h.push (.row (lfc lf0) .own):=rfl;have nR:(h.push (.row (lfc lf0) .own)).next=h.next+1:=rfl;have x1:=x.add cR (A:=h.next) (Nat.le_refl _) (Nat.lt_succ_self _);rw [eR];generalize h.push (.row (lfc lf0) .own)=h1 at *;dsimp only;obtain ⟨h3,e3,c3,x3⟩:=aU (N:=N) hT x1 (k:=1) (by decide);rw [e3,aA];have oR3:=oR.chg c3 (by simp;omega);have hn3:=c3.next;generalize hnm:(iC T 1 σ).1=nm at *;have oO0:=vA h3 (lfc lf0);have cO0:=qA h3 (.row (lfc lf0) .own);have eO:h3.push (.row [(.str []),(.slice none 0 0 0)] .own)=h3.push (.row (lfc lf0) .own):=rfl;have hstO:(h3.push (.row (lfc lf0) .own)).store (h3.next,0) [(.str nm),(.slice none 0 0 0)]=some ((h3.push (.row (lfc lf0) .own)).put h3.next (.row (lfc (nm,sl0,())) .own)):=oO0.store rfl;rw [eO,hstO,dA];have oO:=yA oO0 (lfc (nm,sl0,()));have cO:Chg [] h3 ((h3.push (.row (lfc lf0) .own)).put h3.next (.row (lfc (nm,sl0,())) .own)):=cO0.put (.inr (Nat.le_refl _)) _;have nO:((h3.push (.row (lfc lf0) .own)).put h3.next (.row (lfc (nm,sl0,())) .own)).next=h3.next+1:=rfl;have x5:=x3.add cO (A:=h3.next) (Nat.le_refl _) (Nat.lt_succ_self _);have oR5:=oR3.chg cO (by simp);generalize (h3.push (.row (lfc lf0) .own)).put h3.next (.row (lfc (nm,sl0,())) .own)=h5 at *;obtain ⟨v,h32,e32,x32,c32,oO32,w32⟩:=uAr (N:=N) hT (h0:=h5) (O:=h3.next) (R:=some (h.next,0)) (by omega) (by simp) 64 N h5 _ sl0 [] (by omega) (Nat.le_refl _) rfl x5 (Chg.refl _ _) oO (Ow.nil _ _ _ _);rw [e32];simp only [pB,dA];have hn32:=c32.next;rw [yAi oO32];have oR32:=oR5.chg c32 (by simp;omega);have cZ:=oR32.put (lfc (nm,v,()));have c032:Chg [P] h h32:=(((cR.mono (by simp)).trans c3).trans (cO.mono (by simp))).step c32 (fun A hA hl=>by
  simp only [List.mem_cons,List.not_mem_nil,or_false] at hA ⊢;omega)
 simp only [qG,hnm];rw [List.nil_append] at w32;refine ⟨(nm,v,()),_,bBg oR32 (nm,v,()) (fun x h=>some (x,h)),(x32.chg1 cZ (by simp)).sub (by simp +contextual),c032.step cZ (fun A hA hl=>by rw [List.mem_singleton] at hA;omega),vV ?_⟩;exact (w32.sl.chg cZ (fun C hC=>by simp;omega)).weak (fun C hC _=>by omega)
abbrev OpV:=Int×Int×zV2×SL×Unit
def opc (x:OpV):List AV:=[.int .i64 x.1,.int .i64 x.2.1,.str x.2.2.1,SL.av x.2.2.2.1]
theorem dAn {β:Type} (r:OpV) (K:OpV→Option β):iA (.val zE) (some (.agg (opc r))) K=K r:=by
 obtain ⟨k,n,x,s,_⟩:=r;simp [opc,SL.av]
theorem gAz {H:Heap} {A:Nat} {r:OpV} (o:H.own A (opc r)) {β:Type} (K:OpV→Option β):iA (.val zE) (H.cells (A,0) 4) K=K r:=by
 have:H.cells (A,0) 4=some (.agg (opc r)):=o.cells (j:=0) (m:=4) (Nat.le_refl _)
 rw [this,dAn]
theorem vBd {H:Heap} {A:Nat} {r0:OpV} (o:H.own A (opc r0)) (r:OpV) {β:Type} (K:OpV→Heap→Option β) :
  (rA (H.store (A,0) [.int .i64 r.1,.int .i64 r.2.1,.str r.2.2.1,.slice r.2.2.2.1.a r.2.2.2.1.len r.2.2.2.1.cap r.2.2.2.1.sz]) fun h7=>iA (.val zE) (h7.cells (A,0) 4) fun x8=>K x8 h7)=K r (H.put A (.row (opc r) .own)):=by
 have:H.store (A,0) [.int .i64 r.1,.int .i64 r.2.1,.str r.2.2.1,.slice r.2.2.2.1.a r.2.2.2.1.len r.2.2.2.1.cap r.2.2.2.1.sz]=some (H.put A (.row (opc r) .own)):=o.store rfl
 rw [this,dA,gAz (yA o _)]
theorem uAl {h:Heap} {V:Nat→Prop} {k n:Int} {pl:D} {p:LfV} (x:Dt h V pl (lfc p)):Dt h V (opD k n pl) (opc (k,n,p.1,p.2.1,())):=
 pAu (wC (a:=[_]) (wAi h V k) (wC (a:=[_]) (wAi h V n) (wC (a:=lfc p) (b:=[]) x (aX h V))))
theorem dL (h:Heap) (V:Nat→Prop):Dt h V pl0 (lfc lf0):=vV (Sl.nil _ _ _)
theorem rR (hT:Toks T) (hN:100≤N) (x:PC T P X h σ st):∃ r h',f208 N (some (P,0)) h=some (r,h')∧PC T P X h' (kF T σ).2 st∧Chg [P] h h'∧Dt h' (fun C=>h.next≤C) (kF T σ).1 (opc r):=by
 unfold f208;have hP:=x.P_lt;have oR:=vA h (opc (0,0,[],sl0,()));have cR:=qA h (.row (opc (0,0,[],sl0,())) .own);have eR:h.push (.row [(.int .i64 0),(.int .i64 0),(.str []),(.slice none 0 0 0)] .own)=h.push (.row (opc (0,0,[],sl0,())) .own):=rfl;have nR:(h.push (.row (opc (0,0,[],sl0,())) .own)).next=h.next+1:=rfl;have x1:=x.add cR (A:=h.next) (Nat.le_refl _) (Nat.lt_succ_self _);rw [eR];generalize h.push (.row (opc (0,0,[],sl0,())) .own)=h1 at *;dsimp only;have fin:∀ {h':Heap} {σ':St} (c:Chg [P] h1 h') (y:PC T P (h.next::X) h' σ' st) (o:h'.own h.next (opc (0,0,[],sl0,()))) (r:OpV) {d:D} (_:Dt h' (fun C=>h.next+1≤C) d (opc r)),PC T P X (h'.put h.next (.row (opc r) .own)) σ' st∧Chg [P] h (h'.put h.next (.row (opc r) .own))∧Dt (h'.put h.next (.row (opc r) .own)) (fun C=>h.next≤C) d (opc r):=fun c y o r d hd=>
  ⟨(y.chg1 (o.put (opc r)) (by simp)).sub (by simp +contextual),((cR.mono (by simp)).trans c).put (.inr (Nat.le_refl _)) _,(hd.chg (o.put (opc r)) (fun C hC=>by simp;omega)).weak (fun C hC _=>by omega)⟩
 obtain ⟨h3,e3,c3,x3⟩:=fI (N:=N) hT x1 (w:=[116,114,117,101]) (by decide);rw [e3,aA];have o3:=oR.chg c3 (by simp;omega);simp only [kF]
 cases hb:(kB T [116,114,117,101] σ).1 with
 | true=>
  simp only [cond_true,if_true];obtain ⟨f1,f2,f3⟩:=fin c3 x3 o3 (2,1,[],sl0,()) (uAl (dL h3 _));exact ⟨(2,1,[],sl0,()),_,vBd o3 (2,1,[],sl0,()) (fun x h=>some (x,h)),f1,f2,f3⟩
 | false=>
  simp only [cond_false,Bool.false_eq_true,if_false];obtain ⟨h7,e7,c7,x7⟩:=fI (N:=N) hT x3 (w:=[102,97,108,115,101]) (by decide);rw [e7,aA];have c17:=c3.trans c7;have o7:=o3.chg c7 (by simp;omega)
  cases hb2:(kB T [102,97,108,115,101] (kB T [116,114,117,101] σ).2).1 with
  | true=>
   simp only [cond_true,if_true];obtain ⟨f1,f2,f3⟩:=fin c17 x7 o7 (2,0,[],sl0,()) (uAl (dL h7 _));exact ⟨(2,0,[],sl0,()),_,vBd o7 (2,0,[],sl0,()) (fun x h=>some (x,h)),f1,f2,f3⟩
  | false=>
   simp only [cond_false,Bool.false_eq_true,if_false];generalize (kB T [102,97,108,115,101] (kB T [116,114,117,101] σ).2).2=τ at *;obtain ⟨h11,e11,c11⟩:=wM (N:=N) x7.pa;rw [e11,aA];have x11:=x7.chg c11;have o11:=o7.chg c11 (by simp);have c111:=c17.trans (c11.mono (N:=[P]) (by simp));simp only [kAi,eqI]
   by_cases q:(tk T τ.1).1=4
   ·simp only [q,decide_true,cond_true,if_true]
    obtain ⟨h14,e14,c14,x14⟩:=aU (N:=N) hT x11 (k:=4) (by decide);rw [e14,aA];have o14:=o11.chg c14 (by simp;omega);have at16:∃ u h16,f220 N (iC T 4 τ).1 h14=some ((((tU (iC T 4 τ).1 0:Nat):Int),u,()),h16)∧Chg [] h14 h16:=by
     obtain ⟨i,e⟩:=τ
     cases e with
     | none=>
      have ok:=vB8 hT x7.lt;have hk:=ok.num q;have et:(iC T 4 (i,none)).1=(tk T i).2.1:=by simp only [iC];rw [if_pos q]
      rw [et];obtain ⟨h',e',c'⟩:=fAw (N:=N) (h:=h14) (by omega) hk.1 hk.2;exact ⟨_,h',e',c'⟩
     | some p=>
      have et:(iC T 4 (i,some p)).1=[]:=rfl;rw [et];obtain ⟨u,h',e',c'⟩:=tAl (N:=N) x14.pin;exact ⟨u,h',e',c'⟩
    obtain ⟨u,h16,e16,c16⟩:=at16;rw [e16,aA];have x16:=x14.chg c16;have o16:=o14.chg c16 (by simp);obtain ⟨f1,f2,f3⟩:=fin ((c111.trans c14).trans (c16.mono (by simp))) x16 o16 (1,((tU (iC T 4 τ).1 0:Nat):Int),[],sl0,()) (uAl (dL h16 _));exact ⟨(1,((tU (iC T 4 τ).1 0:Nat):Int),[],sl0,()),_,vBd o16 (1,((tU (iC T 4 τ).1 0:Nat):Int),[],sl0,()) (fun x h=>some (x,h)),f1,f2,f3⟩
   ·simp only [q,decide_false,cond_false,if_false]
    obtain ⟨r,h20,e20,x20,c20,d20⟩:=uA1 (N:=N) hT hN x11;rw [e20,aA];have o20:=o11.chg c20 (by simp;omega);have hn11:=c111.next;obtain ⟨f1,f2,f3⟩:=fin (c111.trans c20) x20 o20 (3,0,r.1,r.2.1,()) (uAl (d20.weak fun C hC _=>by omega));exact ⟨(3,0,r.1,r.2.1,()),_,vBd o20 (3,0,r.1,r.2.1,()) (fun x h=>some (x,h)),f1,f2,f3⟩
theorem lAf (hT:Toks T) (x:PC T P X h σ st) (w:Bs):∃ h',f231 N (some (P,0)) w h=some (dF T w σ,h')∧Chg [] h h':=by
 unfold f231;obtain ⟨v,k3,hv⟩:=x.pa.readE;simp only [dA,Nat.zero_add,k3,fA,aE,hv.ne 9,wB,dF]
 cases hn:σ.2 with
 | some q=>simp only [Option.isSome_some,cond_true,Option.isNone_some,Bool.false_and];exact ⟨_,rfl,Chg.refl _ _⟩
 | none=>
  simp only [Option.isSome_none,cond_false,Option.isNone_none,Bool.true_and];obtain ⟨h5,e5,c5⟩:=wM (N:=N) x.pa;rw [e5,aA];simp only [kAi,eqI]
  by_cases q:(tk T σ.1).1=1
  ·simp only [q,decide_true,Bool.not_true,cond_false,Bool.true_and]
   have hnx:=rAq hT x.lt (by rw [q];decide);have x5:=x.pa.chg c5;obtain ⟨⟨s,v',g1,g2,g3,g4⟩,g5,g6⟩:=x5;have k0:h5.cell (P,0)=some (.slice s.a s.len s.cap s.sz):=g1.cell 0;have k1:h5.cell (P,1)=some (.int .i64 (σ.1:Int)):=g1.cell 1;obtain ⟨d1,d2,d3⟩:=kA7 g2 g3 hnx;simp only [Nat.add_zero,k0,k1,fA,uA,yC];rw [mB1 hT x.lt,iQ d2 d3,d1,uBh];obtain ⟨h8,e8,c8,o8⟩:=mAi h5 (tk T (σ.1+1));have c7:=qA h5 (.row [(.int .i64 0),(.str []),(.int .i64 0)] .own);have g1':=g1.chg c7 (by simp);have t0:(h5.push (.row [(.int .i64 0),(.str []),(.int .i64 0)] .own)).cell (P,0)=some (.slice s.a s.len s.cap s.sz):=g1'.cell 0;have t1:(h5.push (.row [(.int .i64 0),(.str []),(.int .i64 0)] .own)).cell (P,1)=some (.int .i64 (σ.1:Int)):=g1'.cell 1;have t2:=(kA7 (g2.chg c7 (by simp)) g3 hnx).1;simp only [kAi] at e8;rw [e8];simp only [dA,tkc] at t2 d1 ⊢;simp only [t0,t1,t2,k0,k1,d1,cD,cond_true,mC];have q0:h8.cell (h5.next,0)=some (.int .i64 (tk T (σ.1+1)).1):=o8.cell 0;have q1:h8.cell (h5.next,1)=some (.str (tk T (σ.1+1)).2.1):=o8.cell 1;simp only [q0,q1,fA,yC,rB]
   by_cases z5:(tk T (σ.1+1)).1=5
   ·simp only [z5,decide_true,cond_true,Bool.true_and];exact ⟨_,rfl,c5.trans c8⟩
   ·simp only [z5,decide_false,cond_false,Bool.false_and];exact ⟨_,rfl,c5.trans c8⟩
  ·simp only [q,decide_false,Bool.not_false,cond_true,Bool.false_and]
   exact ⟨_,rfl,c5⟩
def yF (T:List Tok) (σ:St):Bool:=dF T [58,58] σ||dF T [40] σ
theorem vAr (hT:Toks T) (x:PC T P X h σ st):∃ h',f222 N (some (P,0)) h=some (yF T σ,h')∧Chg [] h h':=by
 unfold f222 yF;obtain ⟨h2,e2,c2⟩:=lAf (N:=N) hT x [58,58];rw [e2,aA]
 cases hb:dF T [58,58] σ with
 | true=>simp only [cond_true,Bool.true_or];exact ⟨_,rfl,c2⟩
 | false=>
  simp only [cond_false,Bool.false_or];obtain ⟨h4,e4,c4⟩:=lAf (N:=N) hT (x.chg c2) [40];rw [e4,aA];exact ⟨_,rfl,c2.trans c4⟩
end
end Qp
namespace Ai
def OwV (V:Nat→Prop) (h:Heap) (s:SL) (n:Nat) (xs:List D):Prop:=
 (s.a=none∧s.len=0∧s.cap=0∧xs=[])∨
 ∃ A cs st vs,s.a=some (A,0)∧s.sz=n∧V A∧A<h.next∧h.g A=some (.row cs st)∧s.len=xs.length∧cs.take vs.length=vs∧De h (fun C=>V C∧C≠A) n xs vs∧s.len≤s.cap∧(st=.grown∨(st=.own∧s.cap * n=cs.length))
section
variable {E:Env} {V:Nat→Prop} {h h':Heap} {s:SL} {n:Nat} {xs:List D} {M:List Nat}
theorem OwV.weak {W:Nat→Prop} (x:OwV V h s n xs) (hW:∀ C,V C→C<h.next→W C):OwV W h s n xs:=by
 rcases x with h1 | ⟨A,cs,st,vs,h1,h2,h3,h4,h5,h6,h7,h8,h9⟩
 ·exact .inl h1
 ·exact .inr ⟨A,cs,st,vs,h1,h2,hW A h3 h4,h4,h5,h6,h7,De.weak (fun C hC hl=>⟨hW C hC.1 hl,hC.2⟩) h8,h9⟩
theorem OwV.nil (V:Nat→Prop) (h:Heap) (z n:Nat):OwV V h ⟨none,0,0,z⟩ n []:=.inl ⟨rfl,rfl,rfl,rfl⟩
theorem OwV.len (x:OwV V h s n xs):s.len=xs.length:=by
 rcases x with ⟨_,h1,_,rfl⟩ | ⟨A,cs,st,vs,_,_,_,_,_,h1,_⟩
 ·exact h1
 ·exact h1
theorem OwV.ge (x:OwV V h s n xs):∀ A,s.blk=some A→V A∧A<h.next:=by
 intro A hA;rcases x with ⟨h1,_⟩ | ⟨A',cs,st,vs,h1,_,h3,h4,_⟩
 ·simp [SL.blk,h1] at hA
 ·simp [SL.blk,h1] at hA;subst hA;exact ⟨h3,h4⟩
theorem OwV.sl (x:OwV V h s n xs):Sl h V s xs:=by
 rcases x with ⟨h1,h2,h3,rfl⟩ | ⟨A,cs,st,vs,h1,h2,h3,h4,h5,h6,h7,h8,h9,h10⟩
 ·exact ⟨h2,by omega,fun A hA=>by simp [SL.blk,h1] at hA,[],⟨by simp [h2],fun _=>h2,fun A off ha=>by rw [h1] at ha;cases ha⟩,by simp [De]⟩
 ·refine ⟨h6,h9,fun C hC=>?_,vs,⟨?_,fun ha=>(by rw [h1] at ha;cases ha),fun A' off ha=>?_⟩,?_⟩
  ·simp [SL.blk,h1] at hC;subst hC;exact h3
  ·rw [h8.length,h6,h2]
  ·rw [h1] at ha
   simp only [Option.some.injEq,Prod.mk.injEq] at ha;obtain ⟨rfl,rfl⟩:=ha;refine ⟨h4,cs,?_,by rw [List.drop_zero];exact h7⟩;rw [h5];rcases h10 with rfl | ⟨rfl,_⟩ <;> rfl
  ·rw [h2];exact De.weak (fun C hC _=>hC.1) h8
theorem OwV.chg (x:OwV V h s n xs) (c:Chg M h h') (hM:∀ A,V A→A<h.next→A ∉ M):OwV V h' s n xs:=by
 rcases x with h1 | ⟨A,cs,st,vs,h1,h2,h3,h4,h5,h6,h7,h8,h9⟩
 ·exact .inl h1
 ·refine .inr ⟨A,cs,st,vs,h1,h2,h3,Nat.lt_of_lt_of_le h4 c.next,by rw [c.g A h4 (hM A h3 h4)];exact h5,h6,h7,?_,h9⟩
  have h8':De h (fun C=>(V C∧C≠A)∧C<h.next) n xs vs:=De.weak (fun C hC hl=>⟨hC,hl⟩) h8;exact De.weak (fun C hC _=>hC.1) (De.chg c (fun C hC=>hM C hC.1.1 hC.2) h8')
theorem aI {st e:TypeId} {W:Nat} (ha:AppN E st e n W) (hn:0<n) (x:OwV V h s n xs) {d:D} {cs:List AV} (hd:Dt h (fun C=>V C∧s.blk≠some C) d cs) (hcs:cs.length=n) (hB:∀ A,h.next≤A→V A) (hl:(xs.length+1) * W≤1073741824) :
  ∃ s' h',fB E st st (.slice s.a s.len s.cap s.sz) (.slice (some (h.next,0)) 1 1 n) (h.push (.row cs .own))=some (.slice s'.a s'.len s'.cap s'.sz,h')∧OwV V h' s' n (xs++[d])∧Chg (s.blk.toList) h h'∧(∀ A,s'.blk=some A→s.blk=some A∨h.next≤A):=by
 obtain ⟨hu,⟨i,hi,hi1,hi2⟩,⟨z,hz,hz1⟩⟩:=ha;have hr:(h.push (.row cs .own)).read h.next 0 (1 * n)=some cs:=by
  have:(h.push (.row cs .own)).row h.next=some cs:=(Heap.is_push h cs).row
  simp only [Heap.read,this,List.drop_zero,Nat.one_mul];rw [uI _ _ (by omega),List.take_of_length_le (by omega)]
 have hlen:=x.len;have hroom:Nat.ble ((s.len+1) * (i.bytes+i.size+1)) fS=true:=by
  have h1:(s.len+1) * (i.bytes+i.size+1)≤(xs.length+1) * W:=Nat.mul_le_mul (by omega) (by omega);simp only [fS,Nat.ble_eq];omega
 have hsz:(Nat.beq s.sz i.size||s.a.isNone)=true:=by
  rcases x with ⟨h1,_⟩ | ⟨A,cs,st',vs,h1,h2,_⟩
  ·simp [h1]
  ·simp [hi1,h2]
 have hall:cs.all AV.single=true:=by rw [List.all_eq_true];exact hd.single
 have key:∀ K,rK (h.push (.row cs .own)) s.a s.len s.cap n 1 cs=K→fB E st st (.slice s.a s.len s.cap s.sz) (.slice (some (h.next,0)) 1 1 n) (h.push (.row cs .own))=K:=by
  intro K hK;have hz2:Nat.beq z.cells.length i.size=true:=by rw [hz1,hi1];exact Nat.beq_refl _
  have hnl:Nat.beq cs.length (1 * i.size)=true:=by rw [hi1,hcs,Nat.one_mul];exact Nat.beq_refl _
  simp only [fB,hu,wP,tA3,cond_false,hi,hz,wJ,fE];rw [hi1] at hroom hsz hz2 hnl ⊢;simp only [hr,show Nat.beq 1 0=false from rfl,cond_false,hroom,hsz,hz2,hnl,hall,Bool.and_self,cond_true];exact hK
 have hd0:Dt h (fun C=>(V C∧s.blk≠some C)∧C<h.next) d cs:=hd.weak fun C hC hl=>⟨hC,hl⟩;rcases x with ⟨h1,h2,h3,rfl⟩ | ⟨A,bs,st',vs,h1,h2,h3,h4,h5,h6,h7,h8,h9,h10⟩
 ·have c0:Chg [] h ((h.push (.row cs .own)).push (.row cs .grown)):=((Chg.refl [] h).push _).push _
  refine ⟨⟨some (h.next+1,0),1,1,n⟩,(h.push (.row cs .own)).push (.row cs .grown),key _ (by simp only [rK,h1,h2];rfl),.inr ⟨h.next+1,cs,.grown,cs,rfl,rfl,hB _ (by omega),by simp,aH _ rfl,rfl,by simp,?_,Nat.le_refl _,.inl rfl⟩,c0.mono (by simp),fun A hA=>.inr (by simp [SL.blk] at hA;omega)⟩;simp only [List.nil_append,De];exact ⟨cs,[],by simp,hcs,Dt.weak (fun C hC _=>⟨hC.1.1,by omega⟩) (Dt.chg c0 (by simp) hd0),rfl⟩
 ·have hvl:=h8.length
  have hbl:s.blk=some A:=by simp [SL.blk,h1]
  have hcl:vs.length≤bs.length:=by
   have:(bs.take vs.length).length=vs.length:=by rw [h7]
   rw [List.length_take] at this;omega
  have hg:(h.push (.row cs .own)).t.get A=some (.row bs st'):=by
   have:=pA0 (h:=h) (A:=A) (.row cs .own) (by omega)
   unfold Heap.g at this h5;rw [this,h5]
  have h8':De h (fun C=>(V C∧C≠A)∧C<h.next) n xs vs:=De.weak (fun C hC hl=>⟨hC,hl⟩) h8;have hd':Dt h (fun C=>(V C∧C≠A)∧C<h.next) d cs:=Dt.weak (fun C hC hl=>⟨⟨hC.1,fun e=>hC.2 (by rw [hbl,e])⟩,hl⟩) hd;have hall2:=h8'.snoc hd' hcs;have htk:takeN (s.len * n) bs=some vs:=by rw [uI _ _ (by rw [h6];omega),h6,← hvl,h7]
  -- a new block
  have fresh:∀ H:Heap,H.next=h.next+1→Chg [A] h H→OwV V (H.push (.row (vs++cs) .grown)) ⟨some (h.next+1,0),s.len+1,s.len+1,n⟩ n (xs++[d]):=by
   intro H hH cH;refine .inr ⟨h.next+1,vs++cs,.grown,vs++cs,rfl,rfl,hB _ (by omega),by simp [hH],aH _ hH.symm,by simp [h6],List.take_of_length_le (Nat.le_refl _),?_,Nat.le_refl _,.inl rfl⟩;exact De.weak (fun C hC _=>⟨hC.1.1,by omega⟩) (De.chg (cH.push _) (fun C hC=>by simp;exact hC.1.2) hall2)
  rcases h10 with rfl | ⟨rfl,h10⟩
  ·have cH:Chg [A] h ((h.push (.row cs .own)).put A (.row bs .dead)):=((Chg.refl [A] h).push _).put (.inl (by simp)) _
   refine ⟨⟨some (h.next+1,0),s.len+1,s.len+1,n⟩,((h.push (.row cs .own)).put A (.row bs .dead)).push (.row (vs++cs) .grown),key _ ?_,fresh _ rfl cH,(cH.push _).mono (by simp [hbl]),fun C hC=>.inr (by simp [SL.blk] at hC;omega)⟩;simp only [rK,h1,hg,List.drop_zero,htk];rfl
  ·by_cases hc:s.len+1≤s.cap
   ·have hb1:Nat.ble (s.len+1) s.cap=true:=by simpa using hc
    have hroom2:s.len * n+cs.length≤bs.length:=by
     rw [hcs,← Nat.succ_mul,← h10];exact Nat.mul_le_mul_right _ hc
    have hov:=uA0 bs cs (s.len * n) hroom2;have cH:Chg [A] h ((h.push (.row cs .own)).put A (.row (bs.take (s.len * n)++cs++bs.drop (s.len * n+cs.length)) .own)):=((Chg.refl [A] h).push _).put (.inl (by simp)) _;have e1:bs.take (s.len * n)=vs:=by rw [h6,← hvl,h7]
    refine ⟨⟨some (A,0),s.len+1,s.cap,n⟩,_,key _ ?_,.inr ⟨A,_,.own,vs++cs,rfl,rfl,h3,by simp;omega,gT _ rfl,by simp [h6],?_,?_,hc,.inr ⟨rfl,?_⟩⟩,cH.mono (by simp [hbl]),fun C hC=>.inl (by simp [SL.blk] at hC;rw [hbl,hC])⟩
    ·simp only [rK,h1,hg,List.drop_zero,htk,hb1,cond_true,Nat.zero_add,hov]
    ·rw [e1,List.append_assoc,← List.append_assoc,List.take_append_of_le_length (Nat.le_refl _),List.take_of_length_le (Nat.le_refl _)]
    ·exact De.weak (fun C hC _=>hC.1) (De.chg cH (fun C hC=>by simp;exact hC.1.2) hall2)
    ·show s.cap * n=_
     rw [h10];simp only [List.length_append,List.length_take,List.length_drop];omega
   ·have hb1:Nat.ble (s.len+1) s.cap=false:=by
     cases hx:Nat.ble (s.len+1) s.cap with
     | false=>rfl
     | true=>exact absurd (by simpa using hx) hc
    have cH:Chg [A] h (h.push (.row cs .own)):=(Chg.refl [A] h).push _;refine ⟨⟨some (h.next+1,0),s.len+1,s.len+1,n⟩,(h.push (.row cs .own)).push (.row (vs++cs) .grown),key _ ?_,fresh _ rfl cH,(cH.push _).mono (by simp [hbl]),fun C hC=>.inr (by simp [SL.blk] at hC;omega)⟩;simp only [rK,h1,hg,List.drop_zero,htk,hb1,cond_false];rfl
end
end Ai
namespace Qp
section
variable {T:List Tok} {P:Nat} {X:List Nat} {st:Int} {h0 h h' h6:Heap} {O Q n j:Nat} {row:SL→List AV} {xs:List D} {σ σ':St}
theorem CI.close2 {i:Nat} (f:CF P X h0 O Q n j row) (x:CI T P X st h0 O Q n row h xs (i,none)) {v:SL} (o1:h.own O (row v)) (w1:Ow h0.next h v n xs) {t e:TypeId} {W:Nat} (ha:AppN E t e n W) (hn:0<n) (hW:W≤10000000) (hl:xs.length≤64) (c:Chg [P] h h6) (y:PC T P (v.blk.toList++X) h6 σ' st) {d:D} {cs:List AV} (hd:Dt h6 (fun C=>h.next≤C) d cs) (hcs:cs.length=n) :
  ∃ v' h13,(∀ {β:Type} (K:SL→Heap→Option β),tD (.val zQ2) (fB E t t (.slice v.a v.len v.cap v.sz) (.slice (some (h6.next,0)) 1 1 n) (h6.push (.row cs .own))) K=K v' h13)∧h13.store (O,j) [.slice v'.a v'.len v'.cap v'.sz]=some (h13.put O (.row (row v') .own))∧CI T P X st h0 O Q n row (h13.put O (.row (row v') .own)) (xs++[d]) σ'∧h6.cell (O,j)=some (.slice v.a v.len v.cap v.sz)∧(h6.push (.row cs .own)).cell (O,j)=some (.slice v.a v.len v.cap v.sz)∧Chg v.blk.toList h6 h13∧(∀ A∈v.blk.toList,h0.next≤A):=by
 have hO:=f.o;have hQ:=f.q;have hlt:∀ A,v.blk=some A→h0.next≤A∧A<h.next:=w1.ge;have c06:Chg [P,O] h0 h6:=x.chg.trans (c.mono (by simp));have o6:h6.own O (row v):=o1.chg c (by simp;omega);have w6:Ow h0.next h6 v n xs:=w1.chg c (by intro A hA;rw [List.mem_singleton] at hA;omega);have hn0:=x.chg.next;have hd6:Dt h6 (fun C=>h0.next≤C∧v.blk≠some C) d cs:=hd.weak fun C hC _=>⟨by omega,fun e=>by have:=hlt C e;omega⟩;have hll:(xs.length+1) * W≤1073741824:=by
  have:(xs.length+1) * W≤65 * 10000000:=Nat.mul_le_mul (by omega) hW
  omega
 obtain ⟨v',h13,e',w',c',hb⟩:=oAr ha hn c06 w6 hd6 hcs hll;have hge:∀ A∈v.blk.toList,h0.next≤A∧A<h.next:=fun A hA=>hlt A (by simpa using hA);have o13:h13.own O (row v):=o6.chg c' (fun hm=>by have:=hge O hm;omega);have hjl:j<(row v).length:=(List.getElem?_eq_some_iff.1 (f.rj v)).1;have hst:h13.store (O,j) [SL.av v']=some (h13.put O (.row ((row v).set j (SL.av v')) .own)):=o13.store1 hjl _;rw [f.rs] at hst;have cp:=o13.put (row v');have y13:=y.chgM c' (fun A hA=>List.mem_append_left _ hA);have y':=y13.chg1 cp (List.mem_append_right _ f.x);have c013:Chg [P,O] h0 h13:=c06.step c' (fun A hA hlt'=>by have:=hge A hA;omega);refine ⟨v',h13,fun K=>e' K,hst,⟨y'.sub fun A hA=>List.mem_append_right _ hA,c013.trans (cp.mono (by simp)),((x.q.chg c (by simp;omega)).chg c' fun hm=>?_).chg cp (by simp;omega),v',yA o13 _,w'.chg cp (by intro A hA;rw [List.mem_singleton] at hA;omega)⟩,by rw [o6.cell j,f.rj v];rfl,by rw [(o6.chg (qA h6 _) (by simp)).cell j,f.rj v];rfl,c',fun A hA=>(hge A hA).1⟩
 have:=hge Q hm;omega
end
def bU (T:List Tok) (σ:St):List D×St:=
 let b:=kB T [41] (gD T [40] σ)
 if b.1=true then ([],b.2) else let l:=bE T (kF T) [44] b.2;(l.1,gD T [41] l.2)
def yX (T:List Tok) (σ:St):D×St:=
 let a:=iC T 1 σ
 let o:=kF T (gD T [58] a.2)
 (.t [.s a.1,o.1],o.2)
def cU (T:List Tok) (σ:St):List D×St:=
 let b:=kB T [125] (gD T [123] σ)
 if b.1=true then ([],b.2) else let l:=bE T (yX T) [44] b.2;(l.1,gD T [125] l.2)
def d1:D→D | .t (a::_)=>a | _=>.i 0
def d2:D→D | .t (_::b::_)=>b | _=>.i 0
theorem wAr:AppN E 102 101 4 1000:=AppN.of (by kernel_rfl)
structure CVI (T:List Tok) (P:Nat) (X:List Nat) (st:Int) (h0:Heap) (O Q V off n:Nat) (row:SL→List AV) (h:Heap) (xs:List D) (σ:St):Prop where
 ci:CI T P X st h0 O Q n row h xs σ
 v:h.own V [.ptr (some (O,off))]
section
variable {N:Nat} {T:List Tok} {P:Nat} {X:List Nat} {st:Int} {h:Heap} {σ:St}
theorem tQ (P:zO2) (sep:Bs) (V Q:zO2):∀ (M:Nat) (n:Int) (h:Heap),mM N M P sep (V,Q,()) n h=bN N P sep (fun h=>f235 N V Q h) M n h
 | 0,n,h=>rfl
 | M+1,n,h=>by
  rw [vX];unfold lM;simp only [bN];simp only [tQ P sep V Q M]
theorem uQ (P:zO2) (sep:Bs) (V Q:zO2):∀ (M:Nat) (n:Int) (h:Heap),kM N M P sep (V,Q,()) n h=bN N P sep (fun h=>f256 N V Q h) M n h
 | 0,n,h=>rfl
 | M+1,n,h=>by
  rw [uX];unfold jM;simp only [bN];simp only [uQ P sep V Q M]
theorem fB3 (hT:Toks T) (hN:100≤N) {h0:Heap} {O Q V off:Nat} {row:SL→List AV} (f:CF P X h0 O Q 4 (off+14) row) (hV:V≠P∧V≠O∧V<h0.next) {xs:List D} {i:Nat} (x:CVI T P X st h0 O Q V off 4 row h xs (i,none)) (hl:xs.length≤64):∃ h',f235 N (some (V,0)) (some (Q,0)) h=some ((),h')∧CVI T P X st h0 O Q V off 4 row h' (xs++[(kF T (i,none)).1]) (kF T (i,none)).2:=by
 unfold f235;obtain ⟨v,o1,w1,y,r1,r2⟩:=x.ci.open f;obtain ⟨r,h6,e6,x6,c6,d6⟩:=rR (N:=N) hT hN y;obtain ⟨v',h13,eA,eS,ci,g1,g2,cB,hge⟩:=x.ci.close2 f o1 w1 wAr (by decide) (by decide) hl c6 x6 d6 rfl;have vV6:=x.v.chg c6 (by simp;omega);have vV11:=vV6.chg (qA h6 (.row (opc r) .own)) (by simp);have vV13:=vV6.chg cB (fun hm=>by have:=hge V hm;omega);have k0:h.cell (V,0)=some (.ptr (some (O,off))):=x.v.cell 0;have k6:h6.cell (V,0)=some (.ptr (some (O,off))):=vV6.cell 0;have k11:(h6.push (.row [(.int .i64 r.1),(.int .i64 r.2.1),(.str r.2.2.1),(.slice r.2.2.2.1.a r.2.2.2.1.len r.2.2.2.1.cap r.2.2.2.1.sz)] .own)).cell (V,0)=some (.ptr (some (O,off))):=vV11.cell 0;have k13:h13.cell (V,0)=some (.ptr (some (O,off))):=vV13.cell 0;have g2':(h6.push (.row [(.int .i64 r.1),(.int .i64 r.2.1),(.str r.2.2.1),(.slice r.2.2.2.1.a r.2.2.2.1.len r.2.2.2.1.cap r.2.2.2.1.sz)] .own)).cell (O,off+14)=some (.slice v.a v.len v.cap v.sz):=g2;have eA':∀ {β:Type} (K:SL→Heap→Option β),tD (.val zQ2) (fB E 102 102 (.slice v.a v.len v.cap v.sz) (.slice (some (h6.next,0)) 1 1 4) (h6.push (.row [(.int .i64 r.1),(.int .i64 r.2.1),(.str r.2.2.1),(.slice r.2.2.2.1.a r.2.2.2.1.len r.2.2.2.1.cap r.2.2.2.1.sz)] .own))) K=K v' h13:=eA;simp only [dA,k0,r1,r2,fA,uA,uB];rw [e6,aA];rw [eA',eS,dA];simp only [rE,r2,g2',g1,r1,k0,k6,k11,k13,cD,cond_true,mC];exact ⟨_,rfl,ci,vV13.chg (by
  obtain ⟨_,o13,_⟩:=ci.ex;exact (Chg.refl [O] h13).put (.inl (by simp)) _) (by simp;omega)⟩
theorem yAr (hT:Toks T) (hN:100≤N) {h0:Heap} {O Q V off:Nat} {row:SL→List AV} (f:CF P X h0 O Q 4 (off+14) row) (hV:V≠P∧V≠O∧V<h0.next) (x:CVI T P X st h0 O Q V off 4 row h0 [] σ):∃ h',wY N (some (P,0)) [44] ((some (V,0)),(some (Q,0)),()) h0=some ((),h')∧CVI T P X st h0 O Q V off 4 row h' (bE T (kF T) [44] σ).1 (bE T (kF T) [44] σ).2:=by
 unfold wY;obtain ⟨o,h',e,y⟩:=qP (N:=N) hT hN (F:=fun h=>f235 N (some (V,0)) (some (Q,0)) h) (one:=kF T) (Inv:=CVI T P X st h0 O Q V off 4 row) (fun h xs σ c=>c.ci.pc) (fun h h' xs σ σ' c d z=>⟨c.ci.step f d z,c.v.chg d (by simp;omega)⟩) (fun h xs i c hl=>fB3 hT hN f hV c hl) (sep:=[44]) (by decide) x;simp only [tQ];rw [e];simp only [pB];cases uD o (.exit 0) <;> exact ⟨h',rfl,y⟩
theorem aAs (hT:Toks T) (hN:100≤N) (x:PC T P X h σ st) {O off:Nat} {row:SL→List AV} (hO:P<O) (hX:O∈X) (rj:∀ v,(row v)[off+14]? = some (SL.av v)) (rs:∀ v v',(row v).set (off+14) (SL.av v')=row v') (oO:h.own O (row sl0)):∃ v h',f223 N (some (P,0)) (some (O,off)) h=some ((),h')∧PC T P X h' (bU T σ).2 st∧Chg [P,O] h h'∧h'.own O (row v)∧Sl h' (fun C=>h.next≤C) v (bU T σ).1:=by
 unfold f223;have hP:=x.P_lt;have hOl:=oO.2;have oQ:=vA h [AV.ptr (some (P,0))];have cQ:=qA h (.row [AV.ptr (some (P,0))] .own);have nQ:(h.push (.row [AV.ptr (some (P,0))] .own)).next=h.next+1:=rfl;dsimp only;generalize h.push (.row [AV.ptr (some (P,0))] .own)=h1 at *;have oV:=vA h1 [AV.ptr (some (O,off))];have cV:=qA h1 (.row [AV.ptr (some (O,off))] .own);have nV:(h1.push (.row [AV.ptr (some (O,off))] .own)).next=h1.next+1:=rfl;have x2:=x.chg (cQ.trans cV);have oQ2:=oQ.chg cV (by simp);have oO2:=oO.chg (cQ.trans cV) (by simp);have c02:=cQ.trans cV;generalize h1.push (.row [AV.ptr (some (O,off))] .own)=h2 at *;have r2:h2.cell (h.next,0)=some (.ptr (some (P,0))):=oQ2.cell 0;simp only [r2,fA,uB];obtain ⟨h5,e5,c5,x5⟩:=tF (N:=N) hT x2 (w:=[40]) (by decide);rw [e5,aA];have oQ5:=oQ2.chg c5 (by simp;omega);have r5:h5.cell (h.next,0)=some (.ptr (some (P,0))):=oQ5.cell 0;simp only [r5,fA,uB];obtain ⟨h8,e8,c8,x8⟩:=pI (N:=N) hT x5 (w:=[41]) (by decide);rw [e8,aA];have c58:=c5.trans c8;have oQ8:=oQ5.chg c8 (by simp;omega);have oV8:=oV.chg c58 (by simp;omega);have oO8:=oO2.chg c58 (by simp;omega);have hn8:=c58.next;have c08:Chg [P] h h8:=(c02.mono (by simp)).trans c58;simp only [bU]
 cases hb:(kB T [41] (gD T [40] σ)).1 with
 | true=>
  simp only [Bool.not_true,cond_false,if_true];exact ⟨sl0,h8,rfl,x8,c08.mono (by simp),oO8,Sl.nil _ _ _⟩
 | false=>
  simp only [Bool.not_false,cond_true,Bool.false_eq_true,if_false];have r8:h8.cell (h.next,0)=some (.ptr (some (P,0))):=oQ8.cell 0;simp only [r8,fA,uB];have f:CF P X h8 O h.next 4 (off+14) row:=⟨by omega,by omega,hX,rj,rs⟩;obtain ⟨h12,e12,cv⟩:=yAr (N:=N) hT hN (V:=h1.next) (off:=off) f (by omega) ⟨⟨x8,Chg.refl _ _,oQ8,sl0,oO8,Ow.nil _ _ _ _⟩,oV8⟩;rw [e12,aA];obtain ⟨v,oO12,w12⟩:=cv.ci.ex;have r12:h12.cell (h.next,0)=some (.ptr (some (P,0))):=cv.ci.q.cell 0;simp only [r12,fA,uB];obtain ⟨h15,e15,c15,x15⟩:=tF (N:=N) hT cv.ci.pc (w:=[41]) (by decide);rw [e15,aA];have w15:=w12.chg c15 (by intro A hA;rw [List.mem_singleton] at hA;omega);exact ⟨v,h15,rfl,x15,((c08.mono (N:=[P,O]) (by simp)).trans cv.ci.chg).trans (c15.mono (by simp)),oO12.chg c15 (by simp;omega),w15.sl.weak (fun C hC _=>by omega)⟩
end
end Qp
namespace Qp
structure MF (P:Nat) (X:List Nat) (h0:Heap) (O Q V off:Nat) (row:SL→SL→List AV):Prop where
 o:P<O∧O<h0.next
 q:Q≠P∧Q≠O∧Q<h0.next
 v:V≠P∧V≠O∧V<h0.next
 x:O∈X
 rj:∀ v w,(row v w)[off+13]? = some (SL.av v)
 rk:∀ v w,(row v w)[off+14]? = some (SL.av w)
 rs:∀ v w v',(row v w).set (off+13) (SL.av v')=row v' w
 rt:∀ v w w',(row v w).set (off+14) (SL.av w')=row v w'
structure MI (T:List Tok) (P:Nat) (X:List Nat) (st:Int) (h0:Heap) (O Q V off:Nat) (row:SL→SL→List AV) (h:Heap) (zs:List D) (σ:St):Prop where
 pc:PC T P X h σ st
 chg:Chg [P,O] h0 h
 q:h.own Q [.ptr (some (P,0))]
 v:h.own V [.ptr (some (O,off))]
 ex:∃ v w,h.own O (row v w)∧OwV (fun C=>h0.next≤C∧w.blk≠some C) h v 1 (zs.map d1)∧OwV (fun C=>h0.next≤C∧v.blk≠some C) h w 4 (zs.map d2)
section
variable {N:Nat} {T:List Tok} {P:Nat} {X:List Nat} {st:Int} {h0 h h':Heap} {O Q V off:Nat} {row:SL→SL→List AV} {zs:List D} {σ σ':St}
theorem MI.step (f:MF P X h0 O Q V off row) (x:MI T P X st h0 O Q V off row h zs σ) (c:Chg [P] h h') (y:PC T P X h' σ' st):MI T P X st h0 O Q V off row h' zs σ':=by
 obtain ⟨v,w,o1,w1,w2⟩:=x.ex
 have:=f.o;have:=f.q;have:=f.v
 exact ⟨y,x.chg.trans (c.mono (by simp)),x.q.chg c (by simp;omega),x.v.chg c (by simp;omega),v,w,o1.chg c (by simp;omega),w1.chg c (by intro C hC _;simp;omega),w2.chg c (by intro C hC _;simp;omega)⟩
theorem gB3 (hT:Toks T) (hN:100≤N) (f:MF P X h0 O Q V off row) {i:Nat} (x:MI T P X st h0 O Q V off row h zs (i,none)) (hl:zs.length≤64):∃ h',f256 N (some (V,0)) (some (Q,0)) h=some ((),h')∧MI T P X st h0 O Q V off row h' (zs++[(yX T (i,none)).1]) (yX T (i,none)).2:=by
 unfold f256;have hO:=f.o;have hQ:=f.q;have hV:=f.v;obtain ⟨v,w,o1,w1,w2⟩:=x.ex;have hv:∀ A∈v.blk.toList,h0.next≤A∧A<h.next∧w.blk≠some A:=fun A hA=>by
  have:=w1.ge A (by simpa using hA);exact ⟨this.1.1,this.2,this.1.2⟩
 have hw:∀ A∈w.blk.toList,h0.next≤A∧A<h.next∧v.blk≠some A:=fun A hA=>by
  have:=w2.ge A (by simpa using hA);exact ⟨this.1.1,this.2,this.1.2⟩
 have y:PC T P (v.blk.toList++(w.blk.toList++X)) h (i,none) st:=x.pc.free fun A hA=>by
  rcases List.mem_append.1 hA with hA | hA
  ·have:=hv A hA;omega
  ·rcases List.mem_append.1 hA with hA | hA
   ·have:=hw A hA;omega
   ·exact x.pc.pa.xl A hA
 have hn0:=x.chg.next;have kV:h.cell (V,0)=some (.ptr (some (O,off))):=x.v.cell 0;have kQ:h.cell (Q,0)=some (.ptr (some (P,0))):=x.q.cell 0;have kv:h.cell (O,off+13)=some (.slice v.a v.len v.cap v.sz):=by rw [o1.cell,f.rj];rfl
 simp only [dA,kV,kQ,kv,fA,uA,uB];obtain ⟨h10,e10,c10,x10⟩:=aU (N:=N) hT y (k:=1) (by decide);rw [e10,aA];generalize hnm:(iC T 1 (i,none)).1=nm at *;generalize hτ:(iC T 1 (i,none)).2=τ at *;have o10:=o1.chg c10 (by simp;omega);have w1_10:=w1.chg c10 (by intro C hC _;simp;omega);have w2_10:=w2.chg c10 (by intro C hC _;simp;omega);have q10:=x.q.chg c10 (by simp;omega);have v10:=x.v.chg c10 (by simp;omega);have hn10:=c10.next;have hl1:((zs.map d1).length+1) * 100≤1073741824:=by rw [List.length_map];omega
 obtain ⟨v',h13,eA,w1_13,c13,hb13⟩:=aI (cs:=[AV.str nm]) fAl (by decide) w1_10 (qJ h10 _ nm) rfl (fun A hA=>⟨by omega,fun e=>by have:=hw A (by simpa using e);omega⟩) hl1;have hn13:=c13.next;have c11:=qA h10 (.row [AV.str nm] .own);have o11:=o10.chg c11 (by simp);have v11:=v10.chg c11 (by simp);have o13:=o10.chg c13 (fun hm=>by have:=hv O hm;omega);have q13:=q10.chg c13 (fun hm=>by have:=hv Q hm;omega);have v13:=v10.chg c13 (fun hm=>by have:=hv V hm;omega);have w2_13:OwV (fun C=>h0.next≤C∧v'.blk≠some C) h13 w 4 (zs.map d2):=by
  have a1:OwV (fun C=>(h0.next≤C∧v.blk≠some C)∧C<h10.next) h10 w 4 (zs.map d2):=w2_10.weak fun C hC hl=>⟨hC,hl⟩;have a2:=a1.chg c13 (by intro C hC _ hm;exact hC.1.2 (by simpa using hm));exact a2.weak fun C hC _=>⟨hC.1.1,fun e=>by rcases hb13 C e with e | e;exact hC.1.2 e;omega⟩
 rw [eA,wF,uA];have hjl:off+13<(row v w).length:=(List.getElem?_eq_some_iff.1 (f.rj v w)).1;have hst:h13.store (O,off+13) [.slice v'.a v'.len v'.cap v'.sz]=some (h13.put O (.row (row v' w) .own)):=by
  have:=o13.store1 hjl (SL.av v')
  rw [f.rs] at this;exact this
 simp only [dA,hst];have cp:=o13.put (row v' w);have o15:=yA o13 (row v' w);have x13:=x10.chgM c13 (fun A hA=>List.mem_append_left _ hA);have x15:=x13.chg1 cp (List.mem_append_right _ (List.mem_append_right _ f.x));have q15:=q13.chg cp (by simp;omega);have v15:=v13.chg cp (by simp;omega);have w1_15:=w1_13.chg cp (by intro C hC _;simp;omega);have w2_15:=w2_13.chg cp (by intro C hC _;simp;omega);have n15:(h13.put O (.row (row v' w) .own)).next=h13.next:=rfl;have c015:Chg [P,O] h0 (h13.put O (.row (row v' w) .own)):=((x.chg.trans (c10.mono (by simp))).step c13 (fun A hA hl=>by have:=hv A hA;omega)).trans (cp.mono (by simp));generalize h13.put O (.row (row v' w) .own)=h15 at *;have k10V:h10.cell (V,0)=some (.ptr (some (O,off))):=v10.cell 0;have k11V:(h10.push (.row [AV.str nm] .own)).cell (V,0)=some (.ptr (some (O,off))):=v11.cell 0;have k13V:h13.cell (V,0)=some (.ptr (some (O,off))):=v13.cell 0;have k10v:h10.cell (O,off+13)=some (.slice v.a v.len v.cap v.sz):=by rw [o10.cell,f.rj];rfl
 have k11v:(h10.push (.row [AV.str nm] .own)).cell (O,off+13)=some (.slice v.a v.len v.cap v.sz):=by rw [o11.cell,f.rj];rfl
 have k15Q:h15.cell (Q,0)=some (.ptr (some (P,0))):=q15.cell 0;simp only [rE,kQ,kV,kv,k10V,k11V,k13V,k10v,k11v,cD,cond_true,mC,k15Q,fA,uB];obtain ⟨h19,e19,c19,x19⟩:=tF (N:=N) hT x15 (w:=[58]) (by decide);rw [e19,aA];have o19:=o15.chg c19 (by simp;omega);have q19:=q15.chg c19 (by simp;omega);have v19:=v15.chg c19 (by simp;omega);have w1_19:=w1_15.chg c19 (by intro C hC _;simp;omega);have w2_19:=w2_15.chg c19 (by intro C hC _;simp;omega);have hn19:=c19.next;have k19V:h19.cell (V,0)=some (.ptr (some (O,off))):=v19.cell 0;have k19Q:h19.cell (Q,0)=some (.ptr (some (P,0))):=q19.cell 0;have k19w:h19.cell (O,off+14)=some (.slice w.a w.len w.cap w.sz):=by rw [o19.cell,f.rk];rfl
 simp only [dA,k19V,k19Q,k19w,fA,uA,uB];obtain ⟨r,h29,e29,x29,c29,d29⟩:=rR (N:=N) hT hN x19;rw [e29,aA];have o29:=o19.chg c29 (by simp;omega);have q29:=q19.chg c29 (by simp;omega);have v29:=v19.chg c29 (by simp;omega);have w1_29:=w1_19.chg c29 (by intro C hC _;simp;omega);have w2_29:=w2_19.chg c29 (by intro C hC _;simp;omega);have hn29:=c29.next;have hv':∀ A∈v'.blk.toList,A<h15.next:=fun A hA=>(w1_15.ge A (by simpa using hA)).2;have hl2:((zs.map d2).length+1) * 1000≤1073741824:=by rw [List.length_map];omega
 obtain ⟨w',h32,eB,w2_32,c32,hb32⟩:=aI (cs:=opc r) wAr (by decide) w2_29 (d29.weak fun C hC _=>⟨⟨by omega,fun e=>by have:=hv' C (by simpa using e);omega⟩,fun e=>by have:=hw C (by simpa using e);omega⟩) rfl (fun A hA=>⟨by omega,fun e=>by have:=hv' A (by simpa using e);omega⟩) hl2;have eB':fB E 102 102 (.slice w.a w.len w.cap w.sz) (.slice (some (h29.next,0)) 1 1 4) (h29.push (.row [(.int .i64 r.1),(.int .i64 r.2.1),(.str r.2.2.1),(.slice r.2.2.2.1.a r.2.2.2.1.len r.2.2.2.1.cap r.2.2.2.1.sz)] .own))=some (.slice w'.a w'.len w'.cap w'.sz,h32):=eB;rw [eB',wF,uA];have c30:=qA h29 (.row (opc r) .own);have o30:=o29.chg c30 (by simp);have v30:=v29.chg c30 (by simp);have o32:=o29.chg c32 (fun hm=>by have:=hw O hm;omega);have q32:=q29.chg c32 (fun hm=>by have:=hw Q hm;omega);have v32:=v29.chg c32 (fun hm=>by have:=hw V hm;omega);have w1_32:OwV (fun C=>h0.next≤C∧w'.blk≠some C) h32 v' 1 (zs.map d1++[.s nm]):=by
  have a1:OwV (fun C=>(h0.next≤C∧w.blk≠some C)∧C<h29.next) h29 v' 1 (zs.map d1++[.s nm]):=w1_29.weak fun C hC hl=>⟨hC,hl⟩;have a2:=a1.chg c32 (by intro C hC _ hm;exact hC.1.2 (by simpa using hm));exact a2.weak fun C hC _=>⟨hC.1.1,fun e=>by rcases hb32 C e with e | e;exact hC.1.2 e;omega⟩
 have hkl:off+14<(row v' w).length:=(List.getElem?_eq_some_iff.1 (f.rk v' w)).1;have hst2:h32.store (O,off+14) [.slice w'.a w'.len w'.cap w'.sz]=some (h32.put O (.row (row v' w') .own)):=by
  have:=o32.store1 hkl (SL.av w')
  rw [f.rt] at this;exact this
 simp only [hst2,dA];have k29V:h29.cell (V,0)=some (.ptr (some (O,off))):=v29.cell 0;have k30V:(h29.push (.row [(.int .i64 r.1),(.int .i64 r.2.1),(.str r.2.2.1),(.slice r.2.2.2.1.a r.2.2.2.1.len r.2.2.2.1.cap r.2.2.2.1.sz)] .own)).cell (V,0)=some (.ptr (some (O,off))):=v30.cell 0;have k32V:h32.cell (V,0)=some (.ptr (some (O,off))):=v32.cell 0;have k29w:h29.cell (O,off+14)=some (.slice w.a w.len w.cap w.sz):=by rw [o29.cell,f.rk];rfl
 have k30w:(h29.push (.row [(.int .i64 r.1),(.int .i64 r.2.1),(.str r.2.2.1),(.slice r.2.2.2.1.a r.2.2.2.1.len r.2.2.2.1.cap r.2.2.2.1.sz)] .own)).cell (O,off+14)=some (.slice w.a w.len w.cap w.sz):=by
  have:=o30.cell (off+14)
  rw [f.rk] at this;exact this
 simp only [k19V,k19Q,k19w,k29V,k30V,k32V,k29w,k30w,cD,cond_true,mC];have cp2:=o32.put (row v' w');have x32:=x29.chgM c32 (fun A hA=>List.mem_append_right _ (List.mem_append_left _ hA));have x34:=x32.chg1 cp2 (List.mem_append_right _ (List.mem_append_right _ f.x));have c034:Chg [P,O] h0 (h32.put O (.row (row v' w') .own)):=((c015.trans ((c19.trans c29).mono (by simp))).step c32 (fun A hA hl=>by have:=hw A hA;omega)).trans (cp2.mono (by simp));simp only [yX,hnm,hτ];refine ⟨_,rfl,x34.sub (fun A hA=>List.mem_append_right _ (List.mem_append_right _ hA)),c034,q32.chg cp2 (by simp;omega),v32.chg cp2 (by simp;omega),v',w',yA o32 _,?_,?_⟩
 ·rw [List.map_append]
  exact w1_32.chg cp2 (by intro C hC _;simp;omega)
 ·rw [List.map_append]
  exact w2_32.chg cp2 (by intro C hC _;simp;omega)
theorem bAs (hT:Toks T) (hN:100≤N) (f:MF P X h0 O Q V off row) (x:MI T P X st h0 O Q V off row h0 [] σ):∃ h',vY N (some (P,0)) [44] ((some (V,0)),(some (Q,0)),()) h0=some ((),h')∧MI T P X st h0 O Q V off row h' (bE T (yX T) [44] σ).1 (bE T (yX T) [44] σ).2:=by
 unfold vY;obtain ⟨o,h',e,y⟩:=qP (N:=N) hT hN (F:=fun h=>f256 N (some (V,0)) (some (Q,0)) h) (one:=yX T) (Inv:=MI T P X st h0 O Q V off row) (fun h xs σ c=>c.pc) (fun h h' xs σ σ' c d z=>c.step f d z) (fun h xs i c hl=>gB3 hT hN f c hl) (sep:=[44]) (by decide) x;simp only [uQ];rw [e];simp only [pB];cases uD o (.exit 0) <;> exact ⟨h',rfl,y⟩
theorem iB3 (hT:Toks T) (hN:100≤N) (x:PC T P X h σ st) (hO:P<O) (hX:O∈X) (rj:∀ v w,(row v w)[off+13]? = some (SL.av v)) (rk:∀ v w,(row v w)[off+14]? = some (SL.av w)) (rs:∀ v w v',(row v w).set (off+13) (SL.av v')=row v' w) (rt:∀ v w w',(row v w).set (off+14) (SL.av w')=row v w') (oO:h.own O (row sl0 sl0)):∃ v w h',f244 N (some (P,0)) (some (O,off)) h=some ((),h')∧PC T P X h' (cU T σ).2 st∧Chg [P,O] h h'∧h'.own O (row v w)∧Sl h' (fun C=>h.next≤C) v ((cU T σ).1.map d1)∧Sl h' (fun C=>h.next≤C) w ((cU T σ).1.map d2):=by
 unfold f244;have hP:=x.P_lt;have hOl:=oO.2;have oQ:=vA h [AV.ptr (some (P,0))];have cQ:=qA h (.row [AV.ptr (some (P,0))] .own);have nQ:(h.push (.row [AV.ptr (some (P,0))] .own)).next=h.next+1:=rfl;dsimp only;generalize h.push (.row [AV.ptr (some (P,0))] .own)=h1 at *;have oV:=vA h1 [AV.ptr (some (O,off))];have cV:=qA h1 (.row [AV.ptr (some (O,off))] .own);have nV:(h1.push (.row [AV.ptr (some (O,off))] .own)).next=h1.next+1:=rfl;have x2:=x.chg (cQ.trans cV);have oQ2:=oQ.chg cV (by simp);have oO2:=oO.chg (cQ.trans cV) (by simp);have c02:=cQ.trans cV;generalize h1.push (.row [AV.ptr (some (O,off))] .own)=h2 at *;have r2:h2.cell (h.next,0)=some (.ptr (some (P,0))):=oQ2.cell 0;simp only [r2,fA,uB];obtain ⟨h5,e5,c5,x5⟩:=tF (N:=N) hT x2 (w:=[123]) (by decide);rw [e5,aA];have oQ5:=oQ2.chg c5 (by simp;omega);have r5:h5.cell (h.next,0)=some (.ptr (some (P,0))):=oQ5.cell 0;simp only [r5,fA,uB];obtain ⟨h8,e8,c8,x8⟩:=pI (N:=N) hT x5 (w:=[125]) (by decide);rw [e8,aA];have c58:=c5.trans c8;have oQ8:=oQ5.chg c8 (by simp;omega);have oV8:=oV.chg c58 (by simp;omega);have oO8:=oO2.chg c58 (by simp;omega);have hn8:=c58.next;have c08:Chg [P] h h8:=(c02.mono (by simp)).trans c58;simp only [cU]
 cases hb:(kB T [125] (gD T [123] σ)).1 with
 | true=>
  simp only [Bool.not_true,cond_false,if_true];exact ⟨sl0,sl0,h8,rfl,x8,c08.mono (by simp),oO8,Sl.nil _ _ _,Sl.nil _ _ _⟩
 | false=>
  simp only [Bool.not_false,cond_true,Bool.false_eq_true,if_false];have r8:h8.cell (h.next,0)=some (.ptr (some (P,0))):=oQ8.cell 0;simp only [r8,fA,uB];have f:MF P X h8 O h.next h1.next off row:=⟨by omega,by omega,by omega,hX,rj,rk,rs,rt⟩;obtain ⟨h12,e12,mi⟩:=bAs (N:=N) hT hN f ⟨x8,Chg.refl _ _,oQ8,oV8,sl0,sl0,oO8,OwV.nil _ _ _ _,OwV.nil _ _ _ _⟩;rw [e12,aA];obtain ⟨v,w,oO12,w1_12,w2_12⟩:=mi.ex;have r12:h12.cell (h.next,0)=some (.ptr (some (P,0))):=mi.q.cell 0;simp only [r12,fA,uB];obtain ⟨h15,e15,c15,x15⟩:=tF (N:=N) hT mi.pc (w:=[125]) (by decide);rw [e15,aA];have w1_15:=w1_12.chg c15 (by intro C hC _;simp;omega);have w2_15:=w2_12.chg c15 (by intro C hC _;simp;omega);exact ⟨v,w,h15,rfl,x15,((c08.mono (N:=[P,O]) (by simp)).trans mi.chg).trans (c15.mono (by simp)),oO12.chg c15 (by simp;omega),w1_15.sl.weak (fun C hC _=>by have:=hC.1;omega),w2_15.sl.weak (fun C hC _=>by have:=hC.1;omega)⟩
end
end Qp
namespace Qp
abbrev VaV:=Int×Int×Int×zV2×SL×Int×Int×zV2×SL×Int×zV2×SL×zV2×SL×SL×Unit
def vac (x:VaV):List AV:=[.int .i64 x.1,.int .i64 x.2.1,.int .i64 x.2.2.1,.str x.2.2.2.1,.slice x.2.2.2.2.1.a x.2.2.2.2.1.len x.2.2.2.2.1.cap x.2.2.2.2.1.sz,.int .i64 x.2.2.2.2.2.1,.int .i64 x.2.2.2.2.2.2.1,.str x.2.2.2.2.2.2.2.1,.slice x.2.2.2.2.2.2.2.2.1.a x.2.2.2.2.2.2.2.2.1.len x.2.2.2.2.2.2.2.2.1.cap x.2.2.2.2.2.2.2.2.1.sz,.int .i64 x.2.2.2.2.2.2.2.2.2.1,.str x.2.2.2.2.2.2.2.2.2.2.1,.slice x.2.2.2.2.2.2.2.2.2.2.2.1.a x.2.2.2.2.2.2.2.2.2.2.2.1.len x.2.2.2.2.2.2.2.2.2.2.2.1.cap x.2.2.2.2.2.2.2.2.2.2.2.1.sz,.str x.2.2.2.2.2.2.2.2.2.2.2.2.1,.slice x.2.2.2.2.2.2.2.2.2.2.2.2.2.1.a x.2.2.2.2.2.2.2.2.2.2.2.2.2.1.len x.2.2.2.2.2.2.2.2.2.2.2.2.2.1.cap x.2.2.2.2.2.2.2.2.2.2.2.2.2.1.sz,.slice x.2.2.2.2.2.2.2.2.2.2.2.2.2.2.1.a x.2.2.2.2.2.2.2.2.2.2.2.2.2.2.1.len x.2.2.2.2.2.2.2.2.2.2.2.2.2.2.1.cap x.2.2.2.2.2.2.2.2.2.2.2.2.2.2.1.sz]
abbrev gE:OpV:=(0,0,[],sl0,())
def tE (k:Int) (a b:OpV) (op:Int) (pl:LfV) (nm:Bs) (ns ag:SL):VaV:=(k,a.1,a.2.1,a.2.2.1,a.2.2.2.1,b.1,b.2.1,b.2.2.1,b.2.2.2.1,op,pl.1,pl.2.1,nm,ns,ag,())
abbrev va0:VaV:=tE 0 gE gE 0 lf0 [] sl0 sl0
def vaD (k:Int) (a b:D) (op:Int) (pl:D) (nm:Bs) (ns ag:List D):D:=.t [.i k,a,b,.i op,pl,.s nm,.l ns,.l ag]
theorem jB3 {β:Type} (r:VaV) (K:VaV→Option β):iA (.val zB) (some (.agg (vac r))) K=K r:=by
 obtain ⟨x1,x2,x3,x4,x5,x6,x7,x8,x9,x10,x11,x12,x13,x14,x15,_⟩:=r;simp [vac]
theorem bX {H:Heap} {A:Nat} {r:VaV} (o:H.own A (vac r)) {β:Type} (K:VaV→Option β):iA (.val zB) (H.cells (A,0) 15) K=K r:=by
 have:H.cells (A,0) 15=some (.agg (vac r)):=o.cells (j:=0) (m:=15) (Nat.le_refl _)
 rw [this,jB3]
theorem iAz {H:Heap} {A:Nat} {r0:VaV} (o:H.own A (vac r0)) (r:VaV):H.store (A,0) [.int .i64 r.1,.int .i64 r.2.1,.int .i64 r.2.2.1,.str r.2.2.2.1,.slice r.2.2.2.2.1.a r.2.2.2.2.1.len r.2.2.2.2.1.cap r.2.2.2.2.1.sz,.int .i64 r.2.2.2.2.2.1,.int .i64 r.2.2.2.2.2.2.1,.str r.2.2.2.2.2.2.2.1,.slice r.2.2.2.2.2.2.2.2.1.a r.2.2.2.2.2.2.2.2.1.len r.2.2.2.2.2.2.2.2.1.cap r.2.2.2.2.2.2.2.2.1.sz,.int .i64 r.2.2.2.2.2.2.2.2.2.1,.str r.2.2.2.2.2.2.2.2.2.2.1,.slice r.2.2.2.2.2.2.2.2.2.2.2.1.a r.2.2.2.2.2.2.2.2.2.2.2.1.len r.2.2.2.2.2.2.2.2.2.2.2.1.cap r.2.2.2.2.2.2.2.2.2.2.2.1.sz,.str r.2.2.2.2.2.2.2.2.2.2.2.2.1,.slice r.2.2.2.2.2.2.2.2.2.2.2.2.2.1.a r.2.2.2.2.2.2.2.2.2.2.2.2.2.1.len r.2.2.2.2.2.2.2.2.2.2.2.2.2.1.cap r.2.2.2.2.2.2.2.2.2.2.2.2.2.1.sz,.slice r.2.2.2.2.2.2.2.2.2.2.2.2.2.2.1.a r.2.2.2.2.2.2.2.2.2.2.2.2.2.2.1.len r.2.2.2.2.2.2.2.2.2.2.2.2.2.2.1.cap r.2.2.2.2.2.2.2.2.2.2.2.2.2.2.1.sz]=some (H.put A (.row (vac r) .own)):=o.store rfl
theorem wBd {H:Heap} {A:Nat} {r0:VaV} (o:H.own A (vac r0)) (r:VaV) {β:Type} (K:VaV→Heap→Option β) :
  (rA (H.store (A,0) [.int .i64 r.1,.int .i64 r.2.1,.int .i64 r.2.2.1,.str r.2.2.2.1,.slice r.2.2.2.2.1.a r.2.2.2.2.1.len r.2.2.2.2.1.cap r.2.2.2.2.1.sz,.int .i64 r.2.2.2.2.2.1,.int .i64 r.2.2.2.2.2.2.1,.str r.2.2.2.2.2.2.2.1,.slice r.2.2.2.2.2.2.2.2.1.a r.2.2.2.2.2.2.2.2.1.len r.2.2.2.2.2.2.2.2.1.cap r.2.2.2.2.2.2.2.2.1.sz,.int .i64 r.2.2.2.2.2.2.2.2.2.1,.str r.2.2.2.2.2.2.2.2.2.2.1,.slice r.2.2.2.2.2.2.2.2.2.2.2.1.a r.2.2.2.2.2.2.2.2.2.2.2.1.len r.2.2.2.2.2.2.2.2.2.2.2.1.cap r.2.2.2.2.2.2.2.2.2.2.2.1.sz,.str r.2.2.2.2.2.2.2.2.2.2.2.2.1,.slice r.2.2.2.2.2.2.2.2.2.2.2.2.2.1.a r.2.2.2.2.2.2.2.2.2.2.2.2.2.1.len r.2.2.2.2.2.2.2.2.2.2.2.2.2.1.cap r.2.2.2.2.2.2.2.2.2.2.2.2.2.1.sz,.slice r.2.2.2.2.2.2.2.2.2.2.2.2.2.2.1.a r.2.2.2.2.2.2.2.2.2.2.2.2.2.2.1.len r.2.2.2.2.2.2.2.2.2.2.2.2.2.2.1.cap r.2.2.2.2.2.2.2.2.2.2.2.2.2.2.1.sz]) fun h7=>iA (.val zB) (h7.cells (A,0) 15) fun x8=>K x8 h7)=K r (H.put A (.row (vac r) .own)):=by
 rw [iAz o,dA,bX (yA o _)]
theorem vA1 {h:Heap} {V:Nat→Prop} {k op:Int} {a b pl:D} {nm:Bs} {ns ag:List D} {ra rb:OpV} {rp:LfV} {s1 s2:SL} (xa:Dt h V a (opc ra)) (xb:Dt h V b (opc rb)) (xp:Dt h V pl (lfc rp)) (x1:Sl h V s1 ns) (x2:Sl h V s2 ag):Dt h V (vaD k a b op pl nm ns ag) (vac (tE k ra rb op rp nm s1 s2)):=
 pAu (wC (a:=[_]) (wAi h V k) (wC (a:=opc ra) xa (wC (a:=opc rb) xb (wC (a:=[_]) (wAi h V op) (wC (a:=lfc rp) xp (wC (a:=[_]) (qJ h V nm) (wC (a:=[_]) (qL.2 x1) (wC (a:=[_]) (b:=[]) (qL.2 x2) (aX h V)))))))))
theorem gI (h:Heap) (V:Nat→Prop):Dt h V op0 (opc gE):=uAl (dL h V)
section
variable {k op:Int} {a b:OpV} {pl:LfV} {nm:Bs}
theorem pBi (v w:SL):(vac (tE k a b op pl nm v w))[0+13]? = some (SL.av v):=by simp [vac,tE,SL.av]
theorem yBh (v w:SL):(vac (tE k a b op pl nm v w))[0+14]? = some (SL.av w):=by simp [vac,tE,SL.av]
theorem qBi (v w v':SL):(vac (tE k a b op pl nm v w)).set (0+13) (SL.av v')=vac (tE k a b op pl nm v' w):=by simp [vac,tE,SL.av]
theorem aBi (v w w':SL):(vac (tE k a b op pl nm v w)).set (0+14) (SL.av w')=vac (tE k a b op pl nm v w'):=by simp [vac,tE,SL.av]
end
def vQ (T:List Tok) (σ:St):D×St:=
 let a:=lI T σ
 if (kB T [123] a.2).1=true then
  let l:=cU T a.2
  (vaD 7 op0 op0 0 pl0 a.1 (l.1.map d1) (l.1.map d2),l.2)
 else
  let l:=bU T a.2
  (vaD 6 op0 op0 0 pl0 a.1 [] l.1,l.2)
def opS (T:List Tok):List Bs→Int→St→Option (Int×D)×St
 | [],_,σ=>(none,σ)
 | s::r,k,σ=>let b:=kB T s σ;if b.1=true then (some (k,(kF T b.2).1),(kF T b.2).2) else opS T r (k+1) b.2
def iO:List Bs:=[[43],[45],[60],[61,61]]
def opV (o:D):Option (Int×D)→D
 | none=>vaD 1 o op0 0 pl0 [] [] []
 | some (k,b)=>vaD 5 o b k pl0 [] [] []
def iI (T:List Tok) (σ:St):D×St:=
 let a:=kB T [38] σ
 if a.1=true then
  let m:=kB T [109,117,116] a.2
  let p:=qG T m.2
  (vaD (if m.1=true then 3 else 2) op0 op0 0 p.1 [] [] [],p.2)
 else
  let b:=kB T [33] a.2
  if b.1=true then (vaD 4 (kF T b.2).1 op0 0 pl0 [] [] [],(kF T b.2).2)
  else if (yF T b.2||dF T [123] b.2)=true then vQ T b.2
  else
   let o:=kF T b.2
   let s:=opS T iO 1 o.2
   (opV o.1 s.1,s.2)
section
variable {N:Nat} {T:List Tok} {P:Nat} {X:List Nat} {st:Int} {h:Heap} {σ:St}
theorem mAf (hT:Toks T) (x:PC T P X h σ st) {w:Bs} (hw:isWord w=false):∃ h',f146 N (some (P,0)) 5 w h=some ((kB T w σ).1,h')∧Chg [] h h':=by
 obtain ⟨h',e,c⟩:=uAe (N:=N) x.pa 5 w;refine ⟨h',?_,c⟩;rw [e];obtain ⟨i,er⟩:=σ
 cases er with
 | some q=>rfl
 | none=>
  have:=lAi (T:=T) (i:=i) (vB8 hT x.lt) hw
  simp only [kB,Option.isNone_none,Bool.true_and,← this];cases isS T w i <;> rfl
theorem kB3 (hT:Toks T) (hN:100≤N) (x:PC T P X h σ st):∃ r h',f232 N (some (P,0)) h=some (r,h')∧PC T P X h' (vQ T σ).2 st∧Chg [P] h h'∧Dt h' (fun C=>h.next≤C) (vQ T σ).1 (vac r):=by
 unfold f232;have hP:=x.P_lt;have oR:=vA h (vac va0);have cR:=qA h (.row (vac va0) .own);have eR:h.push (.row [.int .i64 0,.int .i64 0,.int .i64 0,.str [],.slice none 0 0 0,.int .i64 0,.int .i64 0,.str [],.slice none 0 0 0,.int .i64 0,.str [],.slice none 0 0 0,.str [],.slice none 0 0 0,.slice none 0 0 0] .own)=h.push (.row (vac va0) .own):=rfl;have nR:(h.push (.row (vac va0) .own)).next=h.next+1:=rfl;have x1:=x.add cR (A:=h.next) (Nat.le_refl _) (Nat.lt_succ_self _);rw [eR];generalize h.push (.row (vac va0) .own)=h1 at *;dsimp only;obtain ⟨h3,e3,c3,x3⟩:=dAz (N:=N) hT x1;rw [e3,aA];have oR3:=oR.chg c3 (by simp;omega);have hn3:=c3.next;simp only [vQ];generalize (lI T σ).1=nm at *;generalize (lI T σ).2=τ at *;have oO0:=vA h3 (vac va0);have cO0:=qA h3 (.row (vac va0) .own);have eO:h3.push (.row [.int .i64 0,.int .i64 0,.int .i64 0,.str [],.slice none 0 0 0,.int .i64 0,.int .i64 0,.str [],.slice none 0 0 0,.int .i64 0,.str [],.slice none 0 0 0,.str [],.slice none 0 0 0,.slice none 0 0 0] .own)=h3.push (.row (vac va0) .own):=rfl;have hstO:(h3.push (.row (vac va0) .own)).store (h3.next,0) [(.int .i64 6),(.int .i64 0),(.int .i64 0),(.str []),(.slice none 0 0 0),(.int .i64 0),(.int .i64 0),(.str []),(.slice none 0 0 0),(.int .i64 0),(.str []),(.slice none 0 0 0),(.str nm),(.slice none 0 0 0),(.slice none 0 0 0)]=some ((h3.push (.row (vac va0) .own)).put h3.next (.row (vac (tE 6 gE gE 0 lf0 nm sl0 sl0)) .own)):=oO0.store rfl;rw [eO,hstO,dA];have oO:=yA oO0 (vac (tE 6 gE gE 0 lf0 nm sl0 sl0));have cO:Chg [] h3 ((h3.push (.row (vac va0) .own)).put h3.next (.row (vac (tE 6 gE gE 0 lf0 nm sl0 sl0)) .own)):=cO0.put (.inr (Nat.le_refl _)) _;have nO:((h3.push (.row (vac va0) .own)).put h3.next (.row (vac (tE 6 gE gE 0 lf0 nm sl0 sl0)) .own)).next=h3.next+1:=rfl;have x5:=x3.add cO (A:=h3.next) (Nat.le_refl _) (Nat.lt_succ_self _);have oR5:=oR3.chg cO (by simp);generalize (h3.push (.row (vac va0) .own)).put h3.next (.row (vac (tE 6 gE gE 0 lf0 nm sl0 sl0)) .own)=h5 at *;obtain ⟨h7,e7,c7⟩:=mAf (N:=N) hT x5 (w:=[123]) (by decide);rw [e7,aA];have x7:=x5.chg c7;have oO7:=oO.chg c7 (by simp);have oR7:=oR5.chg c7 (by simp);have hn7:=c7.next;have c07:Chg [P] h h7:=(((cR.mono (by simp)).trans c3).trans (cO.mono (by simp))).trans (c7.mono (by simp))
 cases hb:(kB T [123] τ).1 with
 | true=>
  simp only [cond_true,if_true,Nat.add_zero];have hst:h7.store (h3.next,0) [.int .i64 7]=some (h7.put h3.next (.row (vac (tE 7 gE gE 0 lf0 nm sl0 sl0)) .own)):=kD oO7 rfl;rw [hst,dA];have cp:=oO7.put (vac (tE 7 gE gE 0 lf0 nm sl0 sl0));have oO8:=yA oO7 (vac (tE 7 gE gE 0 lf0 nm sl0 sl0));have oR8:=oR7.chg cp (by simp;omega);have x8:=x7.chg1 cp (by simp);have n8:(h7.put h3.next (.row (vac (tE 7 gE gE 0 lf0 nm sl0 sl0)) .own)).next=h7.next:=rfl;have c08:Chg [P] h (h7.put h3.next (.row (vac (tE 7 gE gE 0 lf0 nm sl0 sl0)) .own)):=c07.step cp (fun A hA hl=>by rw [List.mem_singleton] at hA;omega);generalize h7.put h3.next (.row (vac (tE 7 gE gE 0 lf0 nm sl0 sl0)) .own)=h8 at *;obtain ⟨v,w,h10,e10,x10,c10,oO10,sv,sw⟩:=iB3 (N:=N) (off:=0) (row:=fun v w=>vac (tE 7 gE gE 0 lf0 nm v w)) hT hN x8 (O:=h3.next) (by omega) (by simp) (fun v w=>pBi v w) (fun v w=>yBh v w) (fun v w v'=>qBi v w v') (fun v w w'=>aBi v w w') oO8;rw [e10,aA];have hn10:=c10.next;have oR10:=oR8.chg c10 (by simp;omega);rw [bX oO10];have cZ:=oR10.put (vac (tE 7 gE gE 0 lf0 nm v w));have c010:Chg [P] h h10:=c08.step c10 (fun A hA hl=>by
   simp only [List.mem_cons,List.not_mem_nil,or_false] at hA ⊢;omega)
  refine ⟨tE 7 gE gE 0 lf0 nm v w,_,wBd oR10 (tE 7 gE gE 0 lf0 nm v w) (fun x h=>some (x,h)),(x10.chg1 cZ (by simp)).sub (by simp +contextual),c010.step cZ (fun A hA hl=>by rw [List.mem_singleton] at hA;omega),vA1 (gI _ _) (gI _ _) (dL _ _) ?_ ?_⟩
  ·exact (sv.chg cZ (fun C hC=>by simp;omega)).weak (fun C hC _=>by omega)
  ·exact (sw.chg cZ (fun C hC=>by simp;omega)).weak (fun C hC _=>by omega)
 | false=>
  simp only [cond_false,Bool.false_eq_true,if_false];obtain ⟨v,h15,e15,x15,c15,oO15,sv⟩:=aAs (N:=N) (off:=0) (row:=fun v=>vac (tE 6 gE gE 0 lf0 nm sl0 v)) hT hN x7 (O:=h3.next) (by omega) (by simp) (fun v=>yBh sl0 v) (fun v v'=>aBi sl0 v v') oO7;rw [e15,aA];have hn15:=c15.next;have oR15:=oR7.chg c15 (by simp;omega);rw [bX oO15];have cZ:=oR15.put (vac (tE 6 gE gE 0 lf0 nm sl0 v));have c015:Chg [P] h h15:=c07.step c15 (fun A hA hl=>by
   simp only [List.mem_cons,List.not_mem_nil,or_false] at hA ⊢;omega)
  refine ⟨tE 6 gE gE 0 lf0 nm sl0 v,_,wBd oR15 (tE 6 gE gE 0 lf0 nm sl0 v) (fun x h=>some (x,h)),(x15.chg1 cZ (by simp)).sub (by simp +contextual),c015.step cZ (fun A hA hl=>by rw [List.mem_singleton] at hA;omega),vA1 (gI _ _) (gI _ _) (dL _ _) (Sl.nil _ _ _) ?_⟩;exact (sv.chg cZ (fun C hC=>by simp;omega)).weak (fun C hC _=>by omega)
theorem jAw (hT:Toks T) (hN:100≤N) {h0:Heap} {O S:Nat} {R:zO2} {ra:OpV} (hO:P<O∧O<h0.next) (hX:O∈X) (hS:S≠P∧S≠O∧S<h0.next):∀ (l:List Bs) (p M:Nat) (h:Heap) (σ:St),l.length<M→p+l.length=4→iO.drop p=l→PC T P X h σ st→Chg [P,O] h0 h→h.own O (vac (tE 1 ra gE 0 lf0 [] sl0 sl0))→h.own S [.str [43],.str [45],.str [60],.str [61,61]]→
  ∃ h' k rb op,pA7 N M (some (P,0)) R (some (O,0)) ⟨some (S,0),4,4,1⟩ (Int.ofNat 4) (p:Int) h=some (.exit 1,(R,some (O,0),()),h')∧PC T P X h' (opS T l ((p:Int)+1) σ).2 st∧Chg [P,O] h0 h'∧h'.own O (vac (tE k ra rb op lf0 [] sl0 sl0))∧
   (((opS T l ((p:Int)+1) σ).1=none∧k=1∧rb=gE∧op=0)∨(∃ b,(opS T l ((p:Int)+1) σ).1=some (op,b)∧k=5∧Dt h' (fun C=>h0.next≤C) b (opc rb))):=by
 intro l
 induction l with
 | nil=>
  intro p M h σ hM hp hd x c oO oS;obtain ⟨M,rfl⟩:∃ m,M=m+1:=⟨M-1,by omega⟩;rw [yW];unfold wT;have hp4:p=4:=by simpa using hp
  subst hp4;simp only [show qB ((4:Nat):Int) (Int.ofNat 4)=false from rfl,cond_false,opS];exact ⟨h,1,gE,0,rfl,x,c,oO,.inl (by simp)⟩
 | cons s l ih=>
  intro p M h σ hM hp hd x c oO oS;simp only [List.length_cons] at hM hp;obtain ⟨M,rfl⟩:∃ m,M=m+1:=⟨M-1,by omega⟩;rw [yW];unfold wT;have hn0:=c.next;have hp4:p<4:=by omega
  have hlt:qB (p:Int) (Int.ofNat 4)=true:=by rw [ltI];exact decide_eq_true (by show (p:Int)<((4:Nat):Int);omega)
  have hsp:iO[p]? = some s:=by rw [← List.head?_drop,hd];rfl
  have hd':iO.drop (p+1)=l:=by rw [← List.drop_drop,hd];rfl
  have hcell:h.cell (SL.at ⟨some (S,0),4,4,1⟩ p 1)=some (.str s):=by
   show h.cell (S,0+p * 1)=_;rw [Nat.zero_add,Nat.mul_one,oS.cell p,show ([.str [43],.str [45],.str [60],.str [61,61]]:List AV)=iO.map AV.str from rfl,List.getElem?_map,hsp];rfl
  have hws:isWord s=false:=by
   have:s∈iO:=List.mem_of_getElem? hsp
   simp only [iO,List.mem_cons,List.not_mem_nil,or_false] at this;rcases this with rfl | rfl | rfl | rfl <;> decide
  rw [hlt];simp only [cond_true];rw [iQ (s:=⟨some (S,0),4,4,1⟩) rfl hp4,hcell];simp only [fA,rB];obtain ⟨h40,e40,c40,x40⟩:=pI (N:=N) hT x (w:=s) hws;rw [e40,aA];have o40:=oO.chg c40 (by simp;omega);have s40:=oS.chg c40 (by simp;omega);have c040:=c.trans (c40.mono (N:=[P,O]) (by simp));simp only [opS]
  cases hb:(kB T s σ).1 with
  | true=>
   simp only [cond_true,if_true];obtain ⟨r,h43,e43,x43,c43,d43⟩:=rR (N:=N) hT hN x40;rw [e43,aA];have o43:=o40.chg c43 (by simp;omega);have hn43:=c040.next;simp only [dA,Nat.zero_add,Nat.add_zero];have hw1:wA .i64 (1+(p:Int))=(p:Int)+1:=by rw [fD (by omega) (by omega)];omega
   rw [hw1];have st1:h43.store (O,0) [.int .i64 5]=some (h43.put O (.row (vac (tE 5 ra gE 0 lf0 [] sl0 sl0)) .own)):=kD o43 rfl;rw [st1,dA];have p1:=yA o43 (vac (tE 5 ra gE 0 lf0 [] sl0 sl0));have st2:(h43.put O (.row (vac (tE 5 ra gE 0 lf0 [] sl0 sl0)) .own)).store (O,9) [.int .i64 ((p:Int)+1)]=some ((h43.put O (.row (vac (tE 5 ra gE 0 lf0 [] sl0 sl0)) .own)).put O (.row (vac (tE 5 ra gE ((p:Int)+1) lf0 [] sl0 sl0)) .own)):=kD p1 rfl;rw [st2,dA];have p2:=yA p1 (vac (tE 5 ra gE ((p:Int)+1) lf0 [] sl0 sl0));have st3:((h43.put O (.row (vac (tE 5 ra gE 0 lf0 [] sl0 sl0)) .own)).put O (.row (vac (tE 5 ra gE ((p:Int)+1) lf0 [] sl0 sl0)) .own)).store (O,5) [.int .i64 r.1,.int .i64 r.2.1,.str r.2.2.1,.slice r.2.2.2.1.a r.2.2.2.1.len r.2.2.2.1.cap r.2.2.2.1.sz]=some (((h43.put O (.row (vac (tE 5 ra gE 0 lf0 [] sl0 sl0)) .own)).put O (.row (vac (tE 5 ra gE ((p:Int)+1) lf0 [] sl0 sl0)) .own)).put O (.row (vac (tE 5 ra r ((p:Int)+1) lf0 [] sl0 sl0)) .own)):=kD p2 rfl;rw [st3,dA];have p3:=yA p2 (vac (tE 5 ra r ((p:Int)+1) lf0 [] sl0 sl0));have cp:Chg [O] h43 (((h43.put O (.row (vac (tE 5 ra gE 0 lf0 [] sl0 sl0)) .own)).put O (.row (vac (tE 5 ra gE ((p:Int)+1) lf0 [] sl0 sl0)) .own)).put O (.row (vac (tE 5 ra r ((p:Int)+1) lf0 [] sl0 sl0)) .own)):=((o43.put _).trans (p1.put _)).trans (p2.put _);refine ⟨_,5,r,(p:Int)+1,rfl,x43.chg1 cp hX,(c040.trans (c43.mono (by simp))).trans (cp.mono (by simp)),p3,.inr ⟨_,rfl,rfl,(d43.chg cp (fun C hC=>by simp;omega)).weak fun C hC _=>by omega⟩⟩
  | false=>
   simp only [cond_false,Bool.false_eq_true,if_false];rw [iB (by omega)]
   have:=ih (p+1) M h40 _ (by omega) (by omega) hd' x40 c040 o40 s40
   rw [show (((p+1:Nat):Int))=(p:Int)+1 from by omega] at this;exact this
theorem nAf (hT:Toks T) (hN:100≤N) (x:PC T P X h σ st):∃ r h',f219 N (some (P,0)) h=some (r,h')∧PC T P X h' (iI T σ).2 st∧Chg [P] h h'∧Dt h' (fun C=>h.next≤C) (iI T σ).1 (vac r):=by
 unfold f219;have hP:=x.P_lt;have oR:=vA h (vac va0);have cR:=qA h (.row (vac va0) .own);have eR:h.push (.row [.int .i64 0,.int .i64 0,.int .i64 0,.str [],.slice none 0 0 0,.int .i64 0,.int .i64 0,.str [],.slice none 0 0 0,.int .i64 0,.str [],.slice none 0 0 0,.str [],.slice none 0 0 0,.slice none 0 0 0] .own)=h.push (.row (vac va0) .own):=rfl;have nR:(h.push (.row (vac va0) .own)).next=h.next+1:=rfl;have x1:=x.add cR (A:=h.next) (Nat.le_refl _) (Nat.lt_succ_self _);rw [eR];generalize h.push (.row (vac va0) .own)=h1 at *;dsimp only;obtain ⟨h3,e3,c3,x3⟩:=pI (N:=N) hT x1 (w:=[38]) (by decide);rw [e3,aA];have oR3:=oR.chg c3 (by simp;omega);have c03:Chg [P] h h3:=(cR.mono (by simp)).trans c3;have hn3:=c3.next;have fin:∀ {h':Heap} {σ':St} (c:Chg [P] h h') (y:PC T P (h.next::X) h' σ' st) (o:h'.own h.next (vac va0)) (hn:h.next+1≤h'.next) (r:VaV) {d:D} (_:Dt h' (fun C=>h.next+1≤C) d (vac r)),PC T P X (h'.put h.next (.row (vac r) .own)) σ' st∧Chg [P] h (h'.put h.next (.row (vac r) .own))∧Dt (h'.put h.next (.row (vac r) .own)) (fun C=>h.next≤C) d (vac r)∧(h'.put h.next (.row (vac r) .own)).own h.next (vac r):=fun c y o hn r d hd=>
  ⟨(y.chg1 (o.put (vac r)) (by simp)).sub (by simp +contextual),c.put (.inr (Nat.le_refl _)) _,(hd.chg (o.put (vac r)) (fun C hC=>by simp;omega)).weak (fun C hC _=>by omega),yA o _⟩
 simp only [iI]
 cases hb:(kB T [38] σ).1 with
 | true=>
  simp only [cond_true,if_true];obtain ⟨h5,e5,c5,x5⟩:=fI (N:=N) hT x3 (w:=[109,117,116]) (by decide);rw [e5,aA];have oR5:=oR3.chg c5 (by simp;omega);have c05:=c03.trans c5;have hn5:=c5.next
  cases hm:(kB T [109,117,116] (kB T [38] σ).2).1 with
  | true=>
   simp only [cond_true,if_true,aA];obtain ⟨rp,h9,e9,x9,c9,d9⟩:=uA1 (N:=N) hT hN x5;rw [e9,aA];have oR9:=oR5.chg c9 (by simp;omega);have hn9:=c9.next;obtain ⟨f1,f2,f3,f4⟩:=fin (c05.trans c9) x9 oR9 (by omega) (tE 3 gE gE 0 rp [] sl0 sl0) (vA1 (gI _ _) (gI _ _) (d9.weak fun C hC _=>by omega) (Sl.nil _ _ _) (Sl.nil _ _ _));have hst:h9.store (h.next,0) [(.int .i64 3),(.int .i64 0),(.int .i64 0),(.str []),(.slice none 0 0 0),(.int .i64 0),(.int .i64 0),(.str []),(.slice none 0 0 0),(.int .i64 0),(.str rp.1),(.slice rp.2.1.a rp.2.1.len rp.2.1.cap rp.2.1.sz),(.str []),(.slice none 0 0 0),(.slice none 0 0 0)]=some (h9.put h.next (.row (vac (tE 3 gE gE 0 rp [] sl0 sl0)) .own)):=oR9.store rfl;simp only [dA,hst,jC,fC];exact ⟨tE 3 gE gE 0 rp [] sl0 sl0,_,bX f4 (fun x=>some (x,_)),f1,f2,f3⟩
  | false=>
   simp only [cond_false,Bool.false_eq_true,if_false,aA];obtain ⟨rp,h9,e9,x9,c9,d9⟩:=uA1 (N:=N) hT hN x5;rw [e9,aA];have oR9:=oR5.chg c9 (by simp;omega);have hn9:=c9.next;obtain ⟨f1,f2,f3,f4⟩:=fin (c05.trans c9) x9 oR9 (by omega) (tE 2 gE gE 0 rp [] sl0 sl0) (vA1 (gI _ _) (gI _ _) (d9.weak fun C hC _=>by omega) (Sl.nil _ _ _) (Sl.nil _ _ _));have hst:h9.store (h.next,0) [(.int .i64 2),(.int .i64 0),(.int .i64 0),(.str []),(.slice none 0 0 0),(.int .i64 0),(.int .i64 0),(.str []),(.slice none 0 0 0),(.int .i64 0),(.str rp.1),(.slice rp.2.1.a rp.2.1.len rp.2.1.cap rp.2.1.sz),(.str []),(.slice none 0 0 0),(.slice none 0 0 0)]=some (h9.put h.next (.row (vac (tE 2 gE gE 0 rp [] sl0 sl0)) .own)):=oR9.store rfl;simp only [dA,hst,jC,fC];exact ⟨tE 2 gE gE 0 rp [] sl0 sl0,_,bX f4 (fun x=>some (x,_)),f1,f2,f3⟩
 | false=>
  simp only [cond_false,Bool.false_eq_true,if_false];obtain ⟨h13,e13,c13,x13⟩:=pI (N:=N) hT x3 (w:=[33]) (by decide);rw [e13,aA];have oR13:=oR3.chg c13 (by simp;omega);have c013:=c03.trans c13;have hn13:=c13.next
  cases hb2:(kB T [33] (kB T [38] σ).2).1 with
  | true=>
   simp only [cond_true,if_true];obtain ⟨ra,h15,e15,x15,c15,d15⟩:=rR (N:=N) hT hN x13;rw [e15,aA];have oR15:=oR13.chg c15 (by simp;omega);have hn15:=c15.next;obtain ⟨f1,f2,f3,f4⟩:=fin (c013.trans c15) x15 oR15 (by omega) (tE 4 ra gE 0 lf0 [] sl0 sl0) (vA1 (d15.weak fun C hC _=>by omega) (gI _ _) (dL _ _) (Sl.nil _ _ _) (Sl.nil _ _ _));have hst:h15.store (h.next,0) [(.int .i64 4),(.int .i64 ra.1),(.int .i64 ra.2.1),(.str ra.2.2.1),(.slice ra.2.2.2.1.a ra.2.2.2.1.len ra.2.2.2.1.cap ra.2.2.2.1.sz),(.int .i64 0),(.int .i64 0),(.str []),(.slice none 0 0 0),(.int .i64 0),(.str []),(.slice none 0 0 0),(.str []),(.slice none 0 0 0),(.slice none 0 0 0)]=some (h15.put h.next (.row (vac (tE 4 ra gE 0 lf0 [] sl0 sl0)) .own)):=oR15.store rfl;simp only [dA,hst,jC,fC];exact ⟨tE 4 ra gE 0 lf0 [] sl0 sl0,_,bX f4 (fun x=>some (x,_)),f1,f2,f3⟩
  | false=>
   simp only [cond_false,Bool.false_eq_true,if_false];generalize (kB T [33] (kB T [38] σ).2).2=τ at *;have hcall:∃ h22,(lA (f222 N (some (P,0)) h13) fun (x17:Bool) h18=>
     (bif x17 then
      some ((some (P,0),(some (h.next,0)),true,()),h18)
     else
      (lA (f231 N (some (P,0)) [123] h18) fun (x19:Bool) h20=>
      some ((some (P,0),(some (h.next,0)),x19,()),h20))))=some ((some (P,0),some (h.next,0),(yF T τ||dF T [123] τ),()),h22)∧Chg [] h13 h22:=by
    obtain ⟨h18,e18,c18⟩:=vAr (N:=N) hT x13;rw [e18,aA]
    cases hc:yF T τ with
    | true=>simp only [cond_true,Bool.true_or];exact ⟨_,rfl,c18⟩
    | false=>
     simp only [cond_false,Bool.false_or];obtain ⟨h20,e20,c20⟩:=lAf (N:=N) hT (x13.chg c18) [123];rw [e20,aA];exact ⟨_,rfl,c18.trans c20⟩
   obtain ⟨h22,e22,c22⟩:=hcall;rw [e22,aA];have x22:=x13.chg c22;have oR22:=oR13.chg c22 (by simp);have c022:=c013.trans (c22.mono (N:=[P]) (by simp));have hn22:=c22.next;dsimp only
   cases hc:(yF T τ||dF T [123] τ) with
   | true=>
    simp only [cond_true,if_true];obtain ⟨rv,h24,e24,x24,c24,d24⟩:=kB3 (N:=N) hT hN x22;rw [e24,aA];have oR24:=oR22.chg c24 (by simp;omega);have hn24:=c24.next;obtain ⟨f1,f2,f3,f4⟩:=fin (c022.trans c24) x24 oR24 (by omega) rv (d24.weak fun C hC _=>by omega);simp only [dA,iAz oR24,jC,fC];exact ⟨rv,_,bX f4 (fun x=>some (x,_)),f1,f2,f3⟩
   | false=>
    simp only [cond_false,Bool.false_eq_true,if_false,dA,fC];obtain ⟨ra,h32,e32,x32,c32,d32⟩:=rR (N:=N) hT hN x22;rw [e32,aA];have oR32:=oR22.chg c32 (by simp;omega);have d32:=d32.weak (W:=fun C=>h22.next≤C∧C<h32.next) (fun C hC hl=>⟨hC,hl⟩);have c032:=c022.trans c32;have hn32:=c32.next;have oO0:=vA h32 (vac va0);have cO0:=qA h32 (.row (vac va0) .own);have eO:h32.push (.row [.int .i64 0,.int .i64 0,.int .i64 0,.str [],.slice none 0 0 0,.int .i64 0,.int .i64 0,.str [],.slice none 0 0 0,.int .i64 0,.str [],.slice none 0 0 0,.str [],.slice none 0 0 0,.slice none 0 0 0] .own)=h32.push (.row (vac va0) .own):=rfl;have hstO:(h32.push (.row (vac va0) .own)).store (h32.next,0) [(.int .i64 1),(.int .i64 ra.1),(.int .i64 ra.2.1),(.str ra.2.2.1),(.slice ra.2.2.2.1.a ra.2.2.2.1.len ra.2.2.2.1.cap ra.2.2.2.1.sz),(.int .i64 0),(.int .i64 0),(.str []),(.slice none 0 0 0),(.int .i64 0),(.str []),(.slice none 0 0 0),(.str []),(.slice none 0 0 0),(.slice none 0 0 0)]=some ((h32.push (.row (vac va0) .own)).put h32.next (.row (vac (tE 1 ra gE 0 lf0 [] sl0 sl0)) .own)):=oO0.store rfl;rw [eO,hstO,dA];have oO:=yA oO0 (vac (tE 1 ra gE 0 lf0 [] sl0 sl0));have cO:Chg [] h32 ((h32.push (.row (vac va0) .own)).put h32.next (.row (vac (tE 1 ra gE 0 lf0 [] sl0 sl0)) .own)):=cO0.put (.inr (Nat.le_refl _)) _;have nO:((h32.push (.row (vac va0) .own)).put h32.next (.row (vac (tE 1 ra gE 0 lf0 [] sl0 sl0)) .own)).next=h32.next+1:=rfl;have x34:=x32.add cO (A:=h32.next) (Nat.le_refl _) (Nat.lt_succ_self _);have oR34:=oR32.chg cO (by simp);have d34:=d32.chg cO (by simp);have c034:=c032.trans (cO.mono (N:=[P]) (by simp));generalize (h32.push (.row (vac va0) .own)).put h32.next (.row (vac (tE 1 ra gE 0 lf0 [] sl0 sl0)) .own)=h34 at *;have oS:=vA h34 [.str [43],.str [45],.str [60],.str [61,61]];have cS:=qA h34 (.row [.str [43],.str [45],.str [60],.str [61,61]] .own);have nS:(h34.push (.row [.str [43],.str [45],.str [60],.str [61,61]] .own)).next=h34.next+1:=rfl;have x35:=x34.chg cS;have oR35:=oR34.chg cS (by simp);have oO35:=oO.chg cS (by simp);have d35:=d34.chg cS (by simp);have c035:=c034.trans (cS.mono (N:=[P]) (by simp));generalize h34.push (.row [.str [43],.str [45],.str [60],.str [61,61]] .own)=h35 at *;obtain ⟨h53,k,rb,op,e53,x53,c53,o53,hres⟩:=jAw (N:=N) hT hN (h0:=h35) (O:=h32.next) (S:=h34.next) (R:=some (h.next,0)) (ra:=ra) (by omega) (by simp) (by omega) iO 0 N h35 _ (by simp [iO];omega) rfl rfl x35 (Chg.refl _ _) oO35 oS;rw [show ((0:Nat):Int)=0 from rfl] at e53 x53 hres;rw [Int.zero_add] at x53 hres;rw [e53];simp only [pB,dA];have hn53:=c53.next;rw [bX o53];have oR53:=oR35.chg c53 (by simp;omega);have c053:Chg [P] h h53:=c035.step c53 (fun A hA hl=>by
     simp only [List.mem_cons,List.not_mem_nil,or_false] at hA ⊢;omega)
    have cZ:=oR53.put (vac (tE k ra rb op lf0 [] sl0 sl0));have x53':=x53.sub (X':=h.next::X) (by simp +contextual);have d53:=(d35.chg c53 (by intro C hC;simp;omega)).weak (W:=fun C=>h.next+1≤C) (fun C hC _=>by omega);rcases hres with ⟨e1,rfl,rfl,rfl⟩ | ⟨b,e1,rfl,db⟩
    ·obtain ⟨f1,f2,f3,f4⟩:=fin c053 x53' oR53 (by omega) (tE 1 ra gE 0 lf0 [] sl0 sl0) (vA1 d53 (gI _ _) (dL _ _) (Sl.nil _ _ _) (Sl.nil _ _ _))
     rw [e1];exact ⟨tE 1 ra gE 0 lf0 [] sl0 sl0,_,wBd oR53 (tE 1 ra gE 0 lf0 [] sl0 sl0) (fun x h=>some (x,h)),f1,f2,f3⟩
    ·obtain ⟨f1,f2,f3,f4⟩:=fin c053 x53' oR53 (by omega) (tE 5 ra rb op lf0 [] sl0 sl0) (vA1 d53 (db.weak fun C hC _=>by omega) (dL _ _) (Sl.nil _ _ _) (Sl.nil _ _ _))
     rw [e1];exact ⟨tE 5 ra rb op lf0 [] sl0 sl0,_,wBd oR53 (tE 5 ra rb op lf0 [] sl0 sl0) (fun x h=>some (x,h)),f1,f2,f3⟩
end
end Qp
namespace Qp
structure SmR where
 k:Int
 at_:Int
 m:Bool
 nm:Bs
 ty:TyV
 has:Bool
 pl:LfV
 va:VaV
 co:OpV
 th:SL
 el:SL
structure SmT where
 ty:D
 pl:D
 va:D
 co:D
 th:List D
 el:List D
abbrev SmV:=Int×Int×Bool×zV2×Int×zV2×SL×SL×Bool×zV2×SL×Int×Int×Int×zV2×SL×Int×Int×zV2×SL×Int×zV2×SL×zV2×SL×SL×Int×Int×zV2×SL×SL×SL×Unit
def smx (x:SmV):List AV:=[.int .i64 x.1,.int .i64 x.2.1,.bool x.2.2.1,.str x.2.2.2.1,.int .i64 x.2.2.2.2.1,.str x.2.2.2.2.2.1,.slice x.2.2.2.2.2.2.1.a x.2.2.2.2.2.2.1.len x.2.2.2.2.2.2.1.cap x.2.2.2.2.2.2.1.sz,.slice x.2.2.2.2.2.2.2.1.a x.2.2.2.2.2.2.2.1.len x.2.2.2.2.2.2.2.1.cap x.2.2.2.2.2.2.2.1.sz,.bool x.2.2.2.2.2.2.2.2.1,.str x.2.2.2.2.2.2.2.2.2.1,.slice x.2.2.2.2.2.2.2.2.2.2.1.a x.2.2.2.2.2.2.2.2.2.2.1.len x.2.2.2.2.2.2.2.2.2.2.1.cap x.2.2.2.2.2.2.2.2.2.2.1.sz,.int .i64 x.2.2.2.2.2.2.2.2.2.2.2.1,.int .i64 x.2.2.2.2.2.2.2.2.2.2.2.2.1,.int .i64 x.2.2.2.2.2.2.2.2.2.2.2.2.2.1,.str x.2.2.2.2.2.2.2.2.2.2.2.2.2.2.1,.slice x.2.2.2.2.2.2.2.2.2.2.2.2.2.2.2.1.a x.2.2.2.2.2.2.2.2.2.2.2.2.2.2.2.1.len x.2.2.2.2.2.2.2.2.2.2.2.2.2.2.2.1.cap x.2.2.2.2.2.2.2.2.2.2.2.2.2.2.2.1.sz,.int .i64 x.2.2.2.2.2.2.2.2.2.2.2.2.2.2.2.2.1,.int .i64 x.2.2.2.2.2.2.2.2.2.2.2.2.2.2.2.2.2.1,.str x.2.2.2.2.2.2.2.2.2.2.2.2.2.2.2.2.2.2.1,.slice x.2.2.2.2.2.2.2.2.2.2.2.2.2.2.2.2.2.2.2.1.a x.2.2.2.2.2.2.2.2.2.2.2.2.2.2.2.2.2.2.2.1.len x.2.2.2.2.2.2.2.2.2.2.2.2.2.2.2.2.2.2.2.1.cap x.2.2.2.2.2.2.2.2.2.2.2.2.2.2.2.2.2.2.2.1.sz,.int .i64 x.2.2.2.2.2.2.2.2.2.2.2.2.2.2.2.2.2.2.2.2.1,.str x.2.2.2.2.2.2.2.2.2.2.2.2.2.2.2.2.2.2.2.2.2.1,.slice x.2.2.2.2.2.2.2.2.2.2.2.2.2.2.2.2.2.2.2.2.2.2.1.a x.2.2.2.2.2.2.2.2.2.2.2.2.2.2.2.2.2.2.2.2.2.2.1.len x.2.2.2.2.2.2.2.2.2.2.2.2.2.2.2.2.2.2.2.2.2.2.1.cap x.2.2.2.2.2.2.2.2.2.2.2.2.2.2.2.2.2.2.2.2.2.2.1.sz,.str x.2.2.2.2.2.2.2.2.2.2.2.2.2.2.2.2.2.2.2.2.2.2.2.1,.slice x.2.2.2.2.2.2.2.2.2.2.2.2.2.2.2.2.2.2.2.2.2.2.2.2.1.a x.2.2.2.2.2.2.2.2.2.2.2.2.2.2.2.2.2.2.2.2.2.2.2.2.1.len x.2.2.2.2.2.2.2.2.2.2.2.2.2.2.2.2.2.2.2.2.2.2.2.2.1.cap x.2.2.2.2.2.2.2.2.2.2.2.2.2.2.2.2.2.2.2.2.2.2.2.2.1.sz,.slice x.2.2.2.2.2.2.2.2.2.2.2.2.2.2.2.2.2.2.2.2.2.2.2.2.2.1.a x.2.2.2.2.2.2.2.2.2.2.2.2.2.2.2.2.2.2.2.2.2.2.2.2.2.1.len x.2.2.2.2.2.2.2.2.2.2.2.2.2.2.2.2.2.2.2.2.2.2.2.2.2.1.cap x.2.2.2.2.2.2.2.2.2.2.2.2.2.2.2.2.2.2.2.2.2.2.2.2.2.1.sz,.int .i64 x.2.2.2.2.2.2.2.2.2.2.2.2.2.2.2.2.2.2.2.2.2.2.2.2.2.2.1,.int .i64 x.2.2.2.2.2.2.2.2.2.2.2.2.2.2.2.2.2.2.2.2.2.2.2.2.2.2.2.1,.str x.2.2.2.2.2.2.2.2.2.2.2.2.2.2.2.2.2.2.2.2.2.2.2.2.2.2.2.2.1,.slice x.2.2.2.2.2.2.2.2.2.2.2.2.2.2.2.2.2.2.2.2.2.2.2.2.2.2.2.2.2.1.a x.2.2.2.2.2.2.2.2.2.2.2.2.2.2.2.2.2.2.2.2.2.2.2.2.2.2.2.2.2.1.len x.2.2.2.2.2.2.2.2.2.2.2.2.2.2.2.2.2.2.2.2.2.2.2.2.2.2.2.2.2.1.cap x.2.2.2.2.2.2.2.2.2.2.2.2.2.2.2.2.2.2.2.2.2.2.2.2.2.2.2.2.2.1.sz,.slice x.2.2.2.2.2.2.2.2.2.2.2.2.2.2.2.2.2.2.2.2.2.2.2.2.2.2.2.2.2.2.1.a x.2.2.2.2.2.2.2.2.2.2.2.2.2.2.2.2.2.2.2.2.2.2.2.2.2.2.2.2.2.2.1.len x.2.2.2.2.2.2.2.2.2.2.2.2.2.2.2.2.2.2.2.2.2.2.2.2.2.2.2.2.2.2.1.cap x.2.2.2.2.2.2.2.2.2.2.2.2.2.2.2.2.2.2.2.2.2.2.2.2.2.2.2.2.2.2.1.sz,.slice x.2.2.2.2.2.2.2.2.2.2.2.2.2.2.2.2.2.2.2.2.2.2.2.2.2.2.2.2.2.2.2.1.a x.2.2.2.2.2.2.2.2.2.2.2.2.2.2.2.2.2.2.2.2.2.2.2.2.2.2.2.2.2.2.2.1.len x.2.2.2.2.2.2.2.2.2.2.2.2.2.2.2.2.2.2.2.2.2.2.2.2.2.2.2.2.2.2.2.1.cap x.2.2.2.2.2.2.2.2.2.2.2.2.2.2.2.2.2.2.2.2.2.2.2.2.2.2.2.2.2.2.2.1.sz]
def smv (r:SmR):SmV:=(r.k,r.at_,r.m,r.nm,r.ty.1,r.ty.2.1,r.ty.2.2.1,r.ty.2.2.2.1,r.has,r.pl.1,r.pl.2.1,r.va.1,r.va.2.1,r.va.2.2.1,r.va.2.2.2.1,r.va.2.2.2.2.1,r.va.2.2.2.2.2.1,r.va.2.2.2.2.2.2.1,r.va.2.2.2.2.2.2.2.1,r.va.2.2.2.2.2.2.2.2.1,r.va.2.2.2.2.2.2.2.2.2.1,r.va.2.2.2.2.2.2.2.2.2.2.1,r.va.2.2.2.2.2.2.2.2.2.2.2.1,r.va.2.2.2.2.2.2.2.2.2.2.2.2.1,r.va.2.2.2.2.2.2.2.2.2.2.2.2.2.1,r.va.2.2.2.2.2.2.2.2.2.2.2.2.2.2.1,r.co.1,r.co.2.1,r.co.2.2.1,r.co.2.2.2.1,r.th,r.el,())
def smc (r:SmR):List AV:=smx (smv r)
def smD (r:SmR) (d:SmT):D:=.t [.i r.k,.i r.at_,.b r.m,.s r.nm,d.ty,.b r.has,d.pl,d.va,d.co,.l d.th,.l d.el]
abbrev cBg:TyV:=(0,[],sl0,sl0,())
def aG (at_:Int):SmR:=⟨0,at_,false,[],cBg,false,lf0,va0,gE,sl0,sl0⟩
def va00:D:=vaD 0 op0 op0 0 pl0 [] [] []
def ty0D:D:=tyD 0 [] [] []
def dN:SmT:=⟨ty0D,pl0,va00,op0,[],[]⟩
theorem lBa (h:Heap) (V:Nat→Prop):Dt h V va00 (vac va0):=vA1 (gI _ _) (gI _ _) (dL _ _) (Sl.nil _ _ _) (Sl.nil _ _ _)
structure SI (T:List Tok) (P:Nat) (X:List Nat) (hb:Heap) (R O:Nat) (r:SmR) (d:SmT) (h:Heap) (σ:St) (st:Int):Prop where
 pc:PC T P (O::R::X) h σ st
 chg:Chg [P] hb h
 oR:h.own R (smc (aG 0))
 oO:h.own O (smc r)
 le:hb.next≤R∧R<O∧P<hb.next
 dty:Dt h (fun C=>O<C) d.ty (tyc r.ty)
 dpl:Dt h (fun C=>O<C) d.pl (lfc r.pl)
 dva:Dt h (fun C=>O<C) d.va (vac r.va)
 dco:Dt h (fun C=>O<C) d.co (opc r.co)
 dth:Sl h (fun C=>O<C) r.th d.th
 del:Sl h (fun C=>O<C) r.el d.el
section
variable {T:List Tok} {P:Nat} {X:List Nat} {st st':Int} {hb h h':Heap} {R O:Nat} {r r':SmR} {d d':SmT} {σ σ':St}
theorem SI.dt (x:SI T P X hb R O r d h σ st):Dt h (fun C=>O<C) (smD r d) (smc r):=
 pAu (wC (a:=[_]) (wAi h _ r.k) (wC (a:=[_]) (wAi h _ r.at_) (wC (a:=[_]) (fAz h _ r.m) (wC (a:=[_]) (qJ h _ r.nm) (wC (a:=tyc r.ty) x.dty (wC (a:=[_]) (fAz h _ r.has) (wC (a:=lfc r.pl) x.dpl (wC (a:=vac r.va) x.dva (wC (a:=opc r.co) x.dco (wC (a:=[_]) (qL.2 x.dth) (wC (a:=[_]) (b:=[]) (qL.2 x.del) (aX h _))))))))))))
theorem SI.step2 (x:SI T P X hb R O r d h σ st) (c:Chg [P,O] h h') (y:PC T P (O::R::X) h' σ' st') (o:h'.own O (smc r')) (e:r'.ty=r.ty∧r'.pl=r.pl∧r'.va=r.va∧r'.co=r.co∧r'.th=r.th∧r'.el=r.el):SI T P X hb R O r' d h' σ' st':=by
 obtain ⟨x1,x2,x3,x4,x5,x6,x7,x8,x9,x10,x11⟩:=x;obtain ⟨e1,e2,e3,e4,e5,e6⟩:=e;have hM:∀ A,O<A→A ∉ [P,O]:=fun C hC=>by simp;omega
 exact ⟨y,x2.step c (fun A hA hl=>by simp only [List.mem_cons,List.not_mem_nil,or_false] at hA ⊢;omega),x3.chg c (by simp;omega),o,x5,by rw [e1];exact x6.chg c hM,by rw [e2];exact x7.chg c hM,by rw [e3];exact x8.chg c hM,by rw [e4];exact x9.chg c hM,by rw [e5];exact x10.chg c hM,by rw [e6];exact x11.chg c hM⟩
theorem SI.step (x:SI T P X hb R O r d h σ st) (c:Chg [P] h h') (y:PC T P (O::R::X) h' σ' st'):SI T P X hb R O r d h' σ' st':=
 x.step2 (c.mono (by simp)) y (x.oO.chg c (by have:=x.le;simp;omega)) ⟨rfl,rfl,rfl,rfl,rfl,rfl⟩
theorem SI.step0 (x:SI T P X hb R O r d h σ st) (c:Chg [] h h'):SI T P X hb R O r d h' σ st:=x.step (c.mono (by simp)) (x.pc.chg c)
theorem SI.lt (x:SI T P X hb R O r d h σ st):O<h.next:=x.oO.2
theorem SI.put' (x:SI T P X hb R O r d h σ st) (r':SmR):Chg [O] h (h.put O (.row (smc r') .own))∧PC T P (O::R::X) (h.put O (.row (smc r') .own)) σ st∧Chg [P] hb (h.put O (.row (smc r') .own))∧(h.put O (.row (smc r') .own)).own R (smc (aG 0))∧(h.put O (.row (smc r') .own)).own O (smc r'):=by
 have c:=x.oO.put (smc r')
 have:=x.le
 exact ⟨c,x.pc.chg1 c (by simp),x.chg.step c (fun A hA hl=>by rw [List.mem_singleton] at hA;omega),x.oR.chg c (by simp;omega),yA x.oO _⟩
theorem SI.setK (x0:SI T P X hb R O r d h σ st) (v:Int):∃ h',h.store (O,0) [.int .i64 v]=some h'∧SI T P X hb R O { r with k:=v } d h' σ st∧Chg [O] h h':=by
 obtain ⟨c,y,cb,oR,oO⟩:=x0.put' { r with k:=v };have hM:∀ A,O<A→A ∉ [O]:=fun C hC=>by simp;omega
 exact ⟨_,kD x0.oO (by simp only [smc,smx,smv,lE,kE,mF,Option.map_some]),⟨y,cb,oR,oO,x0.le,x0.dty.chg c hM,x0.dpl.chg c hM,x0.dva.chg c hM,x0.dco.chg c hM,x0.dth.chg c hM,x0.del.chg c hM⟩,c⟩
theorem SI.setM (x0:SI T P X hb R O r d h σ st) (v:Bool):∃ h',h.store (O,2) [.bool v]=some h'∧SI T P X hb R O { r with m:=v } d h' σ st∧Chg [O] h h':=by
 obtain ⟨c,y,cb,oR,oO⟩:=x0.put' { r with m:=v };have hM:∀ A,O<A→A ∉ [O]:=fun C hC=>by simp;omega
 exact ⟨_,kD x0.oO (by simp only [smc,smx,smv,lE,kE,mF,Option.map_some]),⟨y,cb,oR,oO,x0.le,x0.dty.chg c hM,x0.dpl.chg c hM,x0.dva.chg c hM,x0.dco.chg c hM,x0.dth.chg c hM,x0.del.chg c hM⟩,c⟩
theorem SI.setN (x0:SI T P X hb R O r d h σ st) (v:Bs):∃ h',h.store (O,3) [.str v]=some h'∧SI T P X hb R O { r with nm:=v } d h' σ st∧Chg [O] h h':=by
 obtain ⟨c,y,cb,oR,oO⟩:=x0.put' { r with nm:=v };have hM:∀ A,O<A→A ∉ [O]:=fun C hC=>by simp;omega
 exact ⟨_,kD x0.oO (by simp only [smc,smx,smv,lE,kE,mF,Option.map_some]),⟨y,cb,oR,oO,x0.le,x0.dty.chg c hM,x0.dpl.chg c hM,x0.dva.chg c hM,x0.dco.chg c hM,x0.dth.chg c hM,x0.del.chg c hM⟩,c⟩
theorem SI.setT (x0:SI T P X hb R O r d h σ st) (v:TyV) {x:D} (hd:Dt h (fun C=>O<C) x (tyc v)):∃ h',h.store (O,4) [.int .i64 v.1,.str v.2.1,.slice v.2.2.1.a v.2.2.1.len v.2.2.1.cap v.2.2.1.sz,.slice v.2.2.2.1.a v.2.2.2.1.len v.2.2.2.1.cap v.2.2.2.1.sz]=some h'∧SI T P X hb R O { r with ty:=v } { d with ty:=x } h' σ st∧Chg [O] h h':=by
 obtain ⟨c,y,cb,oR,oO⟩:=x0.put' { r with ty:=v };have hM:∀ A,O<A→A ∉ [O]:=fun C hC=>by simp;omega
 exact ⟨_,kD x0.oO (by simp only [smc,smx,smv,lE,kE,mF,Option.map_some]),⟨y,cb,oR,oO,x0.le,hd.chg c hM,x0.dpl.chg c hM,x0.dva.chg c hM,x0.dco.chg c hM,x0.dth.chg c hM,x0.del.chg c hM⟩,c⟩
theorem SI.setH (x0:SI T P X hb R O r d h σ st) (v:Bool):∃ h',h.store (O,8) [.bool v]=some h'∧SI T P X hb R O { r with has:=v } d h' σ st∧Chg [O] h h':=by
 obtain ⟨c,y,cb,oR,oO⟩:=x0.put' { r with has:=v };have hM:∀ A,O<A→A ∉ [O]:=fun C hC=>by simp;omega
 exact ⟨_,kD x0.oO (by simp only [smc,smx,smv,lE,kE,mF,Option.map_some]),⟨y,cb,oR,oO,x0.le,x0.dty.chg c hM,x0.dpl.chg c hM,x0.dva.chg c hM,x0.dco.chg c hM,x0.dth.chg c hM,x0.del.chg c hM⟩,c⟩
theorem SI.setP (x0:SI T P X hb R O r d h σ st) (v:LfV) {x:D} (hd:Dt h (fun C=>O<C) x (lfc v)):∃ h',h.store (O,9) [.str v.1,.slice v.2.1.a v.2.1.len v.2.1.cap v.2.1.sz]=some h'∧SI T P X hb R O { r with pl:=v } { d with pl:=x } h' σ st∧Chg [O] h h':=by
 obtain ⟨c,y,cb,oR,oO⟩:=x0.put' { r with pl:=v };have hM:∀ A,O<A→A ∉ [O]:=fun C hC=>by simp;omega
 exact ⟨_,kD x0.oO (by simp only [smc,smx,smv,lE,kE,mF,Option.map_some]),⟨y,cb,oR,oO,x0.le,x0.dty.chg c hM,hd.chg c hM,x0.dva.chg c hM,x0.dco.chg c hM,x0.dth.chg c hM,x0.del.chg c hM⟩,c⟩
theorem SI.setV (x0:SI T P X hb R O r d h σ st) (v:VaV) {x:D} (hd:Dt h (fun C=>O<C) x (vac v)):∃ h',h.store (O,11) [.int .i64 v.1,.int .i64 v.2.1,.int .i64 v.2.2.1,.str v.2.2.2.1,.slice v.2.2.2.2.1.a v.2.2.2.2.1.len v.2.2.2.2.1.cap v.2.2.2.2.1.sz,.int .i64 v.2.2.2.2.2.1,.int .i64 v.2.2.2.2.2.2.1,.str v.2.2.2.2.2.2.2.1,.slice v.2.2.2.2.2.2.2.2.1.a v.2.2.2.2.2.2.2.2.1.len v.2.2.2.2.2.2.2.2.1.cap v.2.2.2.2.2.2.2.2.1.sz,.int .i64 v.2.2.2.2.2.2.2.2.2.1,.str v.2.2.2.2.2.2.2.2.2.2.1,.slice v.2.2.2.2.2.2.2.2.2.2.2.1.a v.2.2.2.2.2.2.2.2.2.2.2.1.len v.2.2.2.2.2.2.2.2.2.2.2.1.cap v.2.2.2.2.2.2.2.2.2.2.2.1.sz,.str v.2.2.2.2.2.2.2.2.2.2.2.2.1,.slice v.2.2.2.2.2.2.2.2.2.2.2.2.2.1.a v.2.2.2.2.2.2.2.2.2.2.2.2.2.1.len v.2.2.2.2.2.2.2.2.2.2.2.2.2.1.cap v.2.2.2.2.2.2.2.2.2.2.2.2.2.1.sz,.slice v.2.2.2.2.2.2.2.2.2.2.2.2.2.2.1.a v.2.2.2.2.2.2.2.2.2.2.2.2.2.2.1.len v.2.2.2.2.2.2.2.2.2.2.2.2.2.2.1.cap v.2.2.2.2.2.2.2.2.2.2.2.2.2.2.1.sz]=some h'∧SI T P X hb R O { r with va:=v } { d with va:=x } h' σ st∧Chg [O] h h':=by
 obtain ⟨c,y,cb,oR,oO⟩:=x0.put' { r with va:=v };have hM:∀ A,O<A→A ∉ [O]:=fun C hC=>by simp;omega
 exact ⟨_,kD x0.oO (by simp only [smc,smx,smv,lE,kE,mF,Option.map_some]),⟨y,cb,oR,oO,x0.le,x0.dty.chg c hM,x0.dpl.chg c hM,hd.chg c hM,x0.dco.chg c hM,x0.dth.chg c hM,x0.del.chg c hM⟩,c⟩
theorem SI.setC (x0:SI T P X hb R O r d h σ st) (v:OpV) {x:D} (hd:Dt h (fun C=>O<C) x (opc v)):∃ h',h.store (O,26) [.int .i64 v.1,.int .i64 v.2.1,.str v.2.2.1,.slice v.2.2.2.1.a v.2.2.2.1.len v.2.2.2.1.cap v.2.2.2.1.sz]=some h'∧SI T P X hb R O { r with co:=v } { d with co:=x } h' σ st∧Chg [O] h h':=by
 obtain ⟨c,y,cb,oR,oO⟩:=x0.put' { r with co:=v };have hM:∀ A,O<A→A ∉ [O]:=fun C hC=>by simp;omega
 exact ⟨_,kD x0.oO (by simp only [smc,smx,smv,lE,kE,mF,Option.map_some]),⟨y,cb,oR,oO,x0.le,x0.dty.chg c hM,x0.dpl.chg c hM,x0.dva.chg c hM,hd.chg c hM,x0.dth.chg c hM,x0.del.chg c hM⟩,c⟩
theorem SI.setTh (x0:SI T P X hb R O r d h σ st) (v:SL) {x:List D} (hd:Sl h (fun C=>O<C) v x):∃ h',h.store (O,30) [.slice v.a v.len v.cap v.sz]=some h'∧SI T P X hb R O { r with th:=v } { d with th:=x } h' σ st∧Chg [O] h h':=by
 obtain ⟨c,y,cb,oR,oO⟩:=x0.put' { r with th:=v };have hM:∀ A,O<A→A ∉ [O]:=fun C hC=>by simp;omega
 exact ⟨_,kD x0.oO (by simp only [smc,smx,smv,lE,kE,mF,Option.map_some]),⟨y,cb,oR,oO,x0.le,x0.dty.chg c hM,x0.dpl.chg c hM,x0.dva.chg c hM,x0.dco.chg c hM,hd.chg c hM,x0.del.chg c hM⟩,c⟩
theorem SI.setEl (x0:SI T P X hb R O r d h σ st) (v:SL) {x:List D} (hd:Sl h (fun C=>O<C) v x):∃ h',h.store (O,31) [.slice v.a v.len v.cap v.sz]=some h'∧SI T P X hb R O { r with el:=v } { d with el:=x } h' σ st∧Chg [O] h h':=by
 obtain ⟨c,y,cb,oR,oO⟩:=x0.put' { r with el:=v };have hM:∀ A,O<A→A ∉ [O]:=fun C hC=>by simp;omega
 exact ⟨_,kD x0.oO (by simp only [smc,smx,smv,lE,kE,mF,Option.map_some]),⟨y,cb,oR,oO,x0.le,x0.dty.chg c hM,x0.dpl.chg c hM,x0.dva.chg c hM,x0.dco.chg c hM,x0.dth.chg c hM,hd.chg c hM⟩,c⟩
end
def eAn (T:List Tok) (at_:Int) (σ:St):D×St:=
 let m:=kB T [109,117,116] σ
 let n:=iC T 1 m.2
 let t:=yL T 64 (gD T [58] n.2)
 let b:=kB T [61] t.2
 if b.1=true then
  let v:=iI T b.2
  (smD { aG at_ with k:=1,m:=m.1,nm:=n.1,has:=true } { dN with ty:=t.1,va:=v.1 },gD T [59] v.2)
 else (smD { aG at_ with k:=1,m:=m.1,nm:=n.1 } { dN with ty:=t.1 },gD T [59] b.2)
section
variable {N:Nat} {T:List Tok} {P:Nat} {X:List Nat} {st:Int} {hb h:Heap} {R O:Nat} {σ:St}
def dBg (T:List Tok) (P:Nat) (X:List Nat) (hb:Heap) (R O:Nat) (st:Int) (h:Heap) (x:D×St):Prop:=∃ r d,SI T P X hb R O r d h x.2 st∧x.1=smD r d
theorem fK {r r':SmR} {d:SmT} (e:r.k=r'.k∧r.at_=r'.at_∧r.m=r'.m∧r.nm=r'.nm∧r.has=r'.has):smD r d=smD r' d:=by
 obtain ⟨e1,e2,e3,e4,e5⟩:=e;simp only [smD,e1,e2,e3,e4,e5]
theorem lB3 (hT:Toks T) (hN:100≤N) {at_:Int} (x:SI T P X hb R O (aG at_) dN h σ st):∃ h',f207 N (some (P,0)) (some (O,0)) h=some ((),h')∧dBg T P X hb R O st h' (eAn T at_ σ):=by
 unfold f207;have hO:=x.le;obtain ⟨h2,e2,c2,y2⟩:=fI (N:=N) hT x.pc (w:=[109,117,116]) (by decide);rw [e2,aA];have x2:=x.step c2 y2;simp only [eAn];generalize (kB T [109,117,116] σ).1=m at *;generalize (kB T [109,117,116] σ).2=τ at *;simp only [dA,Nat.zero_add];obtain ⟨h4,e4,x4,c4⟩:=x2.setK 1;rw [e4,dA];obtain ⟨h6,e6,x6,c6⟩:=x4.setM m;rw [e6,dA];obtain ⟨f,h8,e8,y8,c8,d8,nm,t,hf,hfd,dt⟩:=iAf (N:=N) hT hN x6.pc;have hnm:nm=(iC T 1 τ).1:=by
  simp only [pG,fdD,D.t.injEq,List.cons.injEq,D.s.injEq,true_and,and_true] at hfd;exact hfd.symm
 rw [e8,aA];have x8:=x6.step c8 y8;have hlt6:=x6.lt;have hn8:=c8.next;have oA0:=vA h8 (fdc fd0);have cA0:=qA h8 (.row (fdc fd0) .own);have eA:h8.push (.row [(.bool false),(.str []),(.int .i64 0),(.str []),(.slice none 0 0 0),(.slice none 0 0 0)] .own)=h8.push (.row (fdc fd0) .own):=rfl;rw [eA,qAr oA0 f,dA];have oA1:=yA oA0 (fdc f);have cA1:Chg [] h8 ((h8.push (.row (fdc fd0) .own)).put h8.next (.row (fdc f) .own)):=cA0.put (.inr (Nat.le_refl _)) _;have n1:((h8.push (.row (fdc fd0) .own)).put h8.next (.row (fdc f) .own)).next=h8.next+1:=rfl;generalize (h8.push (.row (fdc fd0) .own)).put h8.next (.row (fdc f) .own)=h10 at *;have x10:=x8.step0 cA1;have dt10:Dt h10 (fun C=>O<C) (yL T 64 (gD T [58] (iC T 1 τ).2)).1 (tyc t):=(dt.chg cA1 (by simp)).weak fun C hC _=>by omega
 subst hf;have k1:∀ {H:Heap},H.own h8.next (fdc (qR false nm t))→H.cell (h8.next,0+1)=some (.str nm):=fun o=>o.cell 1;have k2:∀ {H:Heap},H.own h8.next (fdc (qR false nm t))→H.cells (h8.next,0+2) 4=some (.agg (tyc t)):=fun o=>o.cells (j:=2) (m:=4) (by show 2+4≤6;omega);rw [k1 oA1,fA,rB,k2 oA1,iAl];have htyc:tyc t=[(.int .i64 t.1),(.str t.2.1),(.slice t.2.2.1.a t.2.2.1.len t.2.2.1.cap t.2.2.1.sz),(.slice t.2.2.2.1.a t.2.2.2.1.len t.2.2.2.1.cap t.2.2.2.1.sz)]:=rfl;obtain ⟨h14,e14,x14,c14⟩:=x10.setN nm
 try simp only [Nat.zero_add]
 rw [e14,dA];have dt14:=dt10.chg c14 (fun C hC=>by simp;omega);obtain ⟨h16,e16,x16,c16⟩:=x14.setT t dt14;rw [e16,dA];have hOA:h8.next ∉ [O]:=by simp;omega
 have oA14:=oA1.chg c14 hOA;have q1:h10.cell (h8.next,1)=some (.str nm):=oA1.cell 1;have q2:h10.cells (h8.next,2) 4=some (.agg [(.int .i64 t.1),(.str t.2.1),(.slice t.2.2.1.a t.2.2.1.len t.2.2.1.cap t.2.2.1.sz),(.slice t.2.2.2.1.a t.2.2.2.1.len t.2.2.2.1.cap t.2.2.2.1.sz)]):=k2 oA1;have q3:h14.cells (h8.next,2) 4=some (.agg [(.int .i64 t.1),(.str t.2.1),(.slice t.2.2.1.a t.2.2.1.len t.2.2.1.cap t.2.2.1.sz),(.slice t.2.2.2.1.a t.2.2.2.1.len t.2.2.2.1.cap t.2.2.2.1.sz)]):=k2 oA14;simp only [q1,q2,q3,htyc,cD,cond_true,mC];have hσ:(pG T τ).2=(yL T 64 (gD T [58] (iC T 1 τ).2)).2:=rfl;rw [hσ] at x16;subst hnm;generalize (yL T 64 (gD T [58] (iC T 1 τ).2))=tt at *;obtain ⟨h18,e18,c18,y18⟩:=pI (N:=N) hT x16.pc (w:=[61]) (by decide);rw [e18,aA];have x18:=x16.step c18 y18;obtain ⟨h20,e20,x20,c20⟩:=x18.setH (kB T [61] tt.2).1;rw [e20,dA];have r20:h20.cell (O,8)=some (.bool (kB T [61] tt.2).1):=x20.oO.cell 8;simp only [r20,fA,wB]
 cases hbb:(kB T [61] tt.2).1 with
 | true=>
  simp only [cond_true,if_true];obtain ⟨v,h24,e24,y24,c24,d24⟩:=nAf (N:=N) hT hN x20.pc;rw [e24,aA];have x24:=x20.step c24 y24;have hlt:=x20.lt;obtain ⟨h26,e26,x26,c26⟩:=x24.setV v (d24.weak fun C hC _=>by omega);rw [e26,dA];obtain ⟨h28,e28,c28,y28⟩:=tF (N:=N) hT x26.pc (w:=[59]) (by decide);rw [e28,aA];exact ⟨_,rfl,_,_,x26.step c28 y28,fK ⟨rfl,rfl,rfl,rfl,by simp only [hbb]⟩⟩
 | false=>
  simp only [cond_false,Bool.false_eq_true,if_false];obtain ⟨h28,e28,c28,y28⟩:=tF (N:=N) hT x20.pc (w:=[59]) (by decide);rw [e28,aA];exact ⟨_,rfl,_,_,x20.step c28 y28,fK ⟨rfl,rfl,rfl,rfl,by simp only [hbb];rfl⟩⟩
end
end Qp
namespace Qp
def fH (T:List Tok) (at_:Int) (σ:St):D×St:=
 let a:=kB T [98,114,101,97,107] σ
 if a.1=true then (smD { aG at_ with k:=8 } dN,a.2) else
 let b:=kB T [99,111,110,116,105,110,117,101] a.2
 if b.1=true then (smD { aG at_ with k:=9 } dN,b.2) else
 let c:=kB T [114,101,116,117,114,110] b.2
 if c.1=true then
  if (kB T [59] c.2).1=true then (smD { aG at_ with k:=10 } dN,c.2)
  else (smD { aG at_ with k:=10,has:=true } { dN with va:=(iI T c.2).1 },(iI T c.2).2)
 else
 let d:=kB T [100,114,111,112] c.2
 if d.1=true then (smD { aG at_ with k:=11 } { dN with pl:=(qG T d.2).1 },(qG T d.2).2) else
 if yF T d.2=true then
  let n:=lI T d.2
  let l:=bU T n.2
  (smD { aG at_ with k:=3 } { dN with va:=vaD 6 op0 op0 0 pl0 n.1 [] l.1 },l.2)
 else
  let p:=qG T d.2
  let v:=iI T (gD T [61] p.2)
  (smD { aG at_ with k:=2 } { dN with pl:=p.1,va:=v.1 },v.2)
section
variable {T:List Tok} {P:Nat} {X:List Nat} {st st':Int} {hb h h':Heap} {R O:Nat} {r r':SmR} {d d':SmT} {σ σ':St}
theorem SI.stepV (x:SI T P X hb R O r d h σ st) (c:Chg [P,O] h h') (y:PC T P (O::R::X) h' σ' st') {v:VaV} (o:h'.own O (smc { r with va:=v })) {w:D} (hd:Dt h' (fun C=>O<C) w (vac v)):SI T P X hb R O { r with va:=v } { d with va:=w } h' σ' st':=by
 obtain ⟨x1,x2,x3,x4,x5,x6,x7,x8,x9,x10,x11⟩:=x;have hM:∀ A,O<A→A ∉ [P,O]:=fun C hC=>by simp;omega
 exact ⟨y,x2.step c (fun A hA hl=>by simp only [List.mem_cons,List.not_mem_nil,or_false] at hA ⊢;omega),x3.chg c (by simp;omega),o,x5,x6.chg c hM,x7.chg c hM,hd,x9.chg c hM,x10.chg c hM,x11.chg c hM⟩
end
theorem rBi (r:SmR) (k op:Int) (a b:OpV) (pl:LfV) (nm:Bs) (v w:SL):(smc { r with va:=tE k a b op pl nm v w })[11+14]? = some (SL.av w):=by simp [smc,smx,smv,tE,SL.av]
theorem tBi (r:SmR) (k op:Int) (a b:OpV) (pl:LfV) (nm:Bs) (v w w':SL):(smc { r with va:=tE k a b op pl nm v w }).set (11+14) (SL.av w')=smc { r with va:=tE k a b op pl nm v w' }:=by simp [smc,smx,smv,tE,SL.av]
section
variable {N:Nat} {T:List Tok} {P:Nat} {X:List Nat} {st:Int} {hb h:Heap} {R O:Nat} {σ:St}
theorem mB3 (hT:Toks T) (hN:100≤N) {at_:Int} (x:SI T P X hb R O (aG at_) dN h σ st):∃ h',f209 N (some (P,0)) (some (O,0)) h=some ((),h')∧dBg T P X hb R O st h' (fH T at_ σ):=by
 unfold f209;have hO:=x.le;obtain ⟨h2,e2,c2,y2⟩:=fI (N:=N) hT x.pc (w:=[98,114,101,97,107]) (by decide);rw [e2,aA];have x2:=x.step c2 y2;simp only [fH]
 cases hb1:(kB T [98,114,101,97,107] σ).1 with
 | true=>
  simp only [cond_true,if_true,dA,Nat.zero_add];obtain ⟨h4,e4,x4,c4⟩:=x2.setK 8;rw [e4,dA];exact ⟨_,rfl,_,_,x4,fK ⟨rfl,rfl,rfl,rfl,rfl⟩⟩
 | false=>
 simp only [cond_false,Bool.false_eq_true,if_false];generalize (kB T [98,114,101,97,107] σ).2=σ2 at *;obtain ⟨h6,e6,c6,y6⟩:=fI (N:=N) hT x2.pc (w:=[99,111,110,116,105,110,117,101]) (by decide);rw [e6,aA];have x6:=x2.step c6 y6
 cases hb2:(kB T [99,111,110,116,105,110,117,101] σ2).1 with
 | true=>
  simp only [cond_true,if_true,dA,Nat.zero_add];obtain ⟨h8,e8,x8,c8⟩:=x6.setK 9;rw [e8,dA];exact ⟨_,rfl,_,_,x8,fK ⟨rfl,rfl,rfl,rfl,rfl⟩⟩
 | false=>
 simp only [cond_false,Bool.false_eq_true,if_false];generalize (kB T [99,111,110,116,105,110,117,101] σ2).2=σ3 at *;obtain ⟨h10,e10,c10,y10⟩:=fI (N:=N) hT x6.pc (w:=[114,101,116,117,114,110]) (by decide);rw [e10,aA];have x10:=x6.step c10 y10
 cases hb3:(kB T [114,101,116,117,114,110] σ3).1 with
 | true=>
  simp only [cond_true,if_true,dA,Nat.zero_add];obtain ⟨h12,e12,x12,c12⟩:=x10.setK 10;rw [e12,dA];obtain ⟨h14,e14,c14⟩:=mAf (N:=N) hT x12.pc (w:=[59]) (by decide);rw [e14,aA];have x14:=x12.step0 c14;generalize (kB T [114,101,116,117,114,110] σ3).2=σ4 at *;obtain ⟨h17,e17,x17,c17⟩:=x14.setH (!(kB T [59] σ4).1);rw [e17,dA];have r17:h17.cell (O,8)=some (.bool (!(kB T [59] σ4).1)):=x17.oO.cell 8;simp only [r17,fA,wB]
  cases hb4:(kB T [59] σ4).1 with
  | true=>
   rw [hb4] at x17;simp only [Bool.not_true,cond_false,if_true];exact ⟨_,rfl,_,_,x17,fK ⟨rfl,rfl,rfl,rfl,rfl⟩⟩
  | false=>
   rw [hb4] at x17;simp only [Bool.not_false,cond_true,Bool.false_eq_true,if_false];obtain ⟨v,h24,e24,y24,c24,d24⟩:=nAf (N:=N) hT hN x17.pc;rw [e24,aA];have x24:=x17.step c24 y24;have hlt:=x17.lt;obtain ⟨h26,e26,x26,c26⟩:=x24.setV v (d24.weak fun C hC _=>by omega);rw [e26,dA];exact ⟨_,rfl,_,_,x26,fK ⟨rfl,rfl,rfl,rfl,rfl⟩⟩
 | false=>
 simp only [cond_false,Bool.false_eq_true,if_false];generalize (kB T [114,101,116,117,114,110] σ3).2=σ4 at *;obtain ⟨h25,e25,c25,y25⟩:=fI (N:=N) hT x10.pc (w:=[100,114,111,112]) (by decide);rw [e25,aA];have x25:=x10.step c25 y25
 cases hb4:(kB T [100,114,111,112] σ4).1 with
 | true=>
  simp only [cond_true,if_true,dA,Nat.zero_add];obtain ⟨p,h27,e27,y27,c27,d27⟩:=uA1 (N:=N) hT hN x25.pc;rw [e27,aA];have x27:=x25.step c27 y27;have hlt:=x25.lt;obtain ⟨h29,e29,x29,c29⟩:=x27.setK 11;rw [e29,dA];obtain ⟨h31,e31,x31,c31⟩:=x29.setP p ((d27.weak (W:=fun C=>O<C) fun C hC _=>by omega).chg c29 (fun C hC=>by simp;omega));rw [e31,dA];exact ⟨_,rfl,_,_,x31,fK ⟨rfl,rfl,rfl,rfl,rfl⟩⟩
 | false=>
 simp only [cond_false,Bool.false_eq_true,if_false];generalize (kB T [100,114,111,112] σ4).2=σ5 at *;obtain ⟨h33,e33,c33⟩:=vAr (N:=N) hT x25.pc;rw [e33,aA];have x33:=x25.step0 c33
 cases hb5:yF T σ5 with
 | true=>
  simp only [cond_true,if_true,dA,Nat.zero_add];obtain ⟨h35,e35,c35,y35⟩:=dAz (N:=N) hT x33.pc;rw [e35,aA];have x35:=x33.step c35 y35;obtain ⟨h37,e37,x37,c37⟩:=x35.setK 3;rw [e37,dA];generalize (lI T σ5).1=nm at *;generalize (lI T σ5).2=σ6 at *;obtain ⟨h39,e39,x39,c39⟩:=x37.setV (tE 6 gE gE 0 lf0 nm sl0 sl0) (vA1 (gI _ _) (gI _ _) (dL _ _) (Sl.nil _ _ _) (Sl.nil _ _ _):Dt h37 _ (vaD 6 op0 op0 0 pl0 nm [] []) _);have e39':h37.store (O,11) [(.int .i64 6),(.int .i64 0),(.int .i64 0),(.str []),(.slice none 0 0 0),(.int .i64 0),(.int .i64 0),(.str []),(.slice none 0 0 0),(.int .i64 0),(.str []),(.slice none 0 0 0),(.str nm),(.slice none 0 0 0),(.slice none 0 0 0)]=some h39:=e39;rw [e39',dA];obtain ⟨v,h42,e42,y42,c42,o42,s42⟩:=aAs (N:=N) (off:=11) (row:=fun v=>smc { aG at_ with k:=3,va:=tE 6 gE gE 0 lf0 nm sl0 v }) hT hN x39.pc (O:=O) (by omega) (by simp) (fun v=>rBi { aG at_ with k:=3 } 6 0 gE gE lf0 nm sl0 v) (fun v v'=>tBi { aG at_ with k:=3 } 6 0 gE gE lf0 nm sl0 v v') x39.oO;rw [e42,aA];have hlt:=x39.lt;exact ⟨_,rfl,_,_,x39.stepV c42 y42 (v:=tE 6 gE gE 0 lf0 nm sl0 v) o42 (w:=vaD 6 op0 op0 0 pl0 nm [] (bU T σ6).1) (vA1 (gI _ _) (gI _ _) (dL _ _) (Sl.nil _ _ _) (s42.weak fun C hC _=>by omega)),fK ⟨rfl,rfl,rfl,rfl,rfl⟩⟩
 | false=>
  simp only [cond_false,Bool.false_eq_true,if_false,dA,Nat.zero_add];obtain ⟨p,h44,e44,y44,c44,d44⟩:=uA1 (N:=N) hT hN x33.pc;rw [e44,aA];have x44:=x33.step c44 y44;have hlt:=x33.lt;obtain ⟨h46,e46,x46,c46⟩:=x44.setK 2;rw [e46,dA];obtain ⟨h48,e48,x48,c48⟩:=x46.setP p ((d44.weak (W:=fun C=>O<C) fun C hC _=>by omega).chg c46 (fun C hC=>by simp;omega));rw [e48,dA];obtain ⟨h50,e50,c50,y50⟩:=tF (N:=N) hT x48.pc (w:=[61]) (by decide);rw [e50,aA];have x50:=x48.step c50 y50;obtain ⟨v,h52,e52,y52,c52,d52⟩:=nAf (N:=N) hT hN x50.pc;rw [e52,aA];have x52:=x50.step c52 y52;have hlt5:=x50.lt;obtain ⟨h54,e54,x54,c54⟩:=x52.setV v (d52.weak fun C hC _=>by omega);rw [e54,dA];exact ⟨_,rfl,_,_,x54,fK ⟨rfl,rfl,rfl,rfl,rfl⟩⟩
end
end Qp
namespace Qp
section
variable (T:List Tok) (i:Nat) (e:Int×Int)
theorem gK (w:Bs):kB T w (i,some e)=(false,(i,some e)):=by simp [kB]
theorem tAb (k:Int):iC T k (i,some e)=([],(i,some e)):=rfl
theorem uAb (k:Int):iF T k (i,some e)=(i,some e):=rfl
theorem gH (w:Bs):gD T w (i,some e)=(i,some e):=by simp [gD,gK,uAb]
theorem aAj (g:Nat):yL T g (i,some e)=(ty0D,(i,some e)):=by cases g <;> rfl
theorem vAb (g:Nat):lK T g (i,some e)=([],(i,some e)):=by cases g <;> simp [lK,gK]
theorem aA5:qG T (i,some e)=(pl0,(i,some e)):=by simp [qG,tAb,vAb,pl0]
theorem cAs:(kF T (i,some e)).2=(i,some e):=by
 simp only [kF,gK,Bool.false_eq_true,if_false]
 by_cases h:(tk T i).1=4
 ·rw [if_pos h];simp [tAb]
 ·rw [if_neg h];simp [aA5]
theorem dAs:∀ (l:List Bs) (k:Int),opS T l k (i,some e)=(none,(i,some e))
 | [],_=>rfl
 | s::r,k=>by simp only [opS,gK,Bool.false_eq_true,if_false];exact dAs r _
theorem bA5:yF T (i,some e)=false:=by simp [yF,dF]
theorem oAf (w:Bs):dF T w (i,some e)=false:=by simp [dF]
theorem dA5:(iI T (i,some e)).2=(i,some e):=by
 simp only [iI,gK,Bool.false_eq_true,if_false,bA5,oAf,Bool.or_false,cAs,dAs]
theorem eA5 (a:Int):(fH T a (i,some e)).2=(i,some e):=by
 simp only [fH,gK,Bool.false_eq_true,if_false,bA5,aA5,gH,dA5]
end
theorem rP {σ:St} (h:σ.2.isSome=true):∃ i e,σ=(i,some e):=by
 obtain ⟨i,e⟩:=σ
 cases e with
 | none=>cases h
 | some q=>exact ⟨i,q,rfl⟩
theorem bAj {T:List Tok} {i:Nat} (h:(tk T i).1=0) (w:Bs):kB T w (i,none)=(false,(i,none)):=by
 have:isS T w i=false:=by simp [isS,h]
 simp [kB,this]
abbrev SC:=St×Nat
def KS (s:SC):Prop:=s.2≤2000∨s.1.2.isSome=true
def KE (T:List Tok) (s:SC):Prop:=KS s∨(s.2≤2001∧(tk T s.1.1).1=0)
theorem KS.err {σ:St} {c:Nat} (h:KS (σ,c)) {τ:St} (hs:∀ i e,σ=(i,some e)→τ=(i,some e)):KS (τ,c):=by
 rcases h with h | h
 ·exact .inl h
 ·obtain ⟨i,e,rfl⟩:=rP h
  rw [hs i e rfl];exact .inr rfl
def nM (T:List Tok) (blk:SC→List D×SC) (s:SC):D×SC:=
 let at_:Int:=((tk T s.1.1).2.2:Int)
 let a:=kB T [108,101,116] s.1
 if a.1=true then ((eAn T at_ a.2).1,((eAn T at_ a.2).2,s.2)) else
 let b:=kB T [105,102] a.2
 if b.1=true then
  let o:=kF T b.2
  let t:=blk (o.2,s.2)
  let e:=kB T [101,108,115,101] t.2.1
  if e.1=true then
   let f:=blk (e.2,t.2.2)
   (smD { aG at_ with k:=4,has:=true } { dN with co:=o.1,th:=t.1,el:=f.1 },f.2)
  else (smD { aG at_ with k:=4 } { dN with co:=o.1,th:=t.1 },(e.2,t.2.2))
 else
 let c:=kB T [119,104,105,108,101] b.2
 if c.1=true then
  let o:=kF T c.2
  let t:=blk (o.2,s.2)
  (smD { aG at_ with k:=5 } { dN with co:=o.1,th:=t.1 },t.2)
 else
 let d:=kB T [108,111,111,112] c.2
 if d.1=true then
  let t:=blk (d.2,s.2)
  (smD { aG at_ with k:=6 } { dN with th:=t.1 },t.2)
 else
 if (kB T [123] d.2).1=true then
  let t:=blk (d.2,s.2)
  (smD { aG at_ with k:=7 } { dN with th:=t.1 },t.2)
 else
  let x:=fH T at_ d.2
  (x.1,(gD T [59] x.2,s.2))
def mBa (N:Nat) (T:List Tok) (P:Nat) (F:zO2→Int→Heap→Option (SL×Heap)) (blk:SC→List D×SC) (deep:Int):Prop:=∀ (X:List Nat) (h:Heap) (σ:St) (c:Nat),PC T P X h σ (c:Int)→KS (σ,c)→∃ v h',F (some (P,0)) deep h=some (v,h')∧PC T P X h' (blk (σ,c)).2.1 ((blk (σ,c)).2.2:Int)∧Chg [P] h h'∧Sl h' (fun C=>h.next≤C) v (blk (σ,c)).1
theorem eBg {β:Type} (r:SmV) (K:SmV→Option β):iA (.val zA) (some (.agg (smx r))) K=K r:=by
 obtain ⟨x1,x2,x3,x4,x5,x6,x7,x8,x9,x10,x11,x12,x13,x14,x15,x16,x17,x18,x19,x20,x21,x22,x23,x24,x25,x26,x27,x28,x29,x30,x31,x32,_⟩:=r;simp [smx]
theorem eAs {H:Heap} {A:Nat} {r:SmV} (o:H.own A (smx r)) {β:Type} (K:SmV→Option β):iA (.val zA) (H.cells (A,0) 32) K=K r:=by
 have:H.cells (A,0) 32=some (.agg (smx r)):=o.cells (j:=0) (m:=32) (Nat.le_refl _)
 rw [this,eBg]
theorem uBi {H:Heap} {A:Nat} {r0:SmV} (o:H.own A (smx r0)) (r:SmV) {β:Type} (K:SmV→Heap→Option β) :
  (rA (H.store (A,0) [.int .i64 r.1,.int .i64 r.2.1,.bool r.2.2.1,.str r.2.2.2.1,.int .i64 r.2.2.2.2.1,.str r.2.2.2.2.2.1,.slice r.2.2.2.2.2.2.1.a r.2.2.2.2.2.2.1.len r.2.2.2.2.2.2.1.cap r.2.2.2.2.2.2.1.sz,.slice r.2.2.2.2.2.2.2.1.a r.2.2.2.2.2.2.2.1.len r.2.2.2.2.2.2.2.1.cap r.2.2.2.2.2.2.2.1.sz,.bool r.2.2.2.2.2.2.2.2.1,.str r.2.2.2.2.2.2.2.2.2.1,.slice r.2.2.2.2.2.2.2.2.2.2.1.a r.2.2.2.2.2.2.2.2.2.2.1.len r.2.2.2.2.2.2.2.2.2.2.1.cap r.2.2.2.2.2.2.2.2.2.2.1.sz,.int .i64 r.2.2.2.2.2.2.2.2.2.2.2.1,.int .i64 r.2.2.2.2.2.2.2.2.2.2.2.2.1,.int .i64 r.2.2.2.2.2.2.2.2.2.2.2.2.2.1,.str r.2.2.2.2.2.2.2.2.2.2.2.2.2.2.1,.slice r.2.2.2.2.2.2.2.2.2.2.2.2.2.2.2.1.a r.2.2.2.2.2.2.2.2.2.2.2.2.2.2.2.1.len r.2.2.2.2.2.2.2.2.2.2.2.2.2.2.2.1.cap r.2.2.2.2.2.2.2.2.2.2.2.2.2.2.2.1.sz,.int .i64 r.2.2.2.2.2.2.2.2.2.2.2.2.2.2.2.2.1,.int .i64 r.2.2.2.2.2.2.2.2.2.2.2.2.2.2.2.2.2.1,.str r.2.2.2.2.2.2.2.2.2.2.2.2.2.2.2.2.2.2.1,.slice r.2.2.2.2.2.2.2.2.2.2.2.2.2.2.2.2.2.2.2.1.a r.2.2.2.2.2.2.2.2.2.2.2.2.2.2.2.2.2.2.2.1.len r.2.2.2.2.2.2.2.2.2.2.2.2.2.2.2.2.2.2.2.1.cap r.2.2.2.2.2.2.2.2.2.2.2.2.2.2.2.2.2.2.2.1.sz,.int .i64 r.2.2.2.2.2.2.2.2.2.2.2.2.2.2.2.2.2.2.2.2.1,.str r.2.2.2.2.2.2.2.2.2.2.2.2.2.2.2.2.2.2.2.2.2.1,.slice r.2.2.2.2.2.2.2.2.2.2.2.2.2.2.2.2.2.2.2.2.2.2.1.a r.2.2.2.2.2.2.2.2.2.2.2.2.2.2.2.2.2.2.2.2.2.2.1.len r.2.2.2.2.2.2.2.2.2.2.2.2.2.2.2.2.2.2.2.2.2.2.1.cap r.2.2.2.2.2.2.2.2.2.2.2.2.2.2.2.2.2.2.2.2.2.2.1.sz,.str r.2.2.2.2.2.2.2.2.2.2.2.2.2.2.2.2.2.2.2.2.2.2.2.1,.slice r.2.2.2.2.2.2.2.2.2.2.2.2.2.2.2.2.2.2.2.2.2.2.2.2.1.a r.2.2.2.2.2.2.2.2.2.2.2.2.2.2.2.2.2.2.2.2.2.2.2.2.1.len r.2.2.2.2.2.2.2.2.2.2.2.2.2.2.2.2.2.2.2.2.2.2.2.2.1.cap r.2.2.2.2.2.2.2.2.2.2.2.2.2.2.2.2.2.2.2.2.2.2.2.2.1.sz,.slice r.2.2.2.2.2.2.2.2.2.2.2.2.2.2.2.2.2.2.2.2.2.2.2.2.2.1.a r.2.2.2.2.2.2.2.2.2.2.2.2.2.2.2.2.2.2.2.2.2.2.2.2.2.1.len r.2.2.2.2.2.2.2.2.2.2.2.2.2.2.2.2.2.2.2.2.2.2.2.2.2.1.cap r.2.2.2.2.2.2.2.2.2.2.2.2.2.2.2.2.2.2.2.2.2.2.2.2.2.1.sz,.int .i64 r.2.2.2.2.2.2.2.2.2.2.2.2.2.2.2.2.2.2.2.2.2.2.2.2.2.2.1,.int .i64 r.2.2.2.2.2.2.2.2.2.2.2.2.2.2.2.2.2.2.2.2.2.2.2.2.2.2.2.1,.str r.2.2.2.2.2.2.2.2.2.2.2.2.2.2.2.2.2.2.2.2.2.2.2.2.2.2.2.2.1,.slice r.2.2.2.2.2.2.2.2.2.2.2.2.2.2.2.2.2.2.2.2.2.2.2.2.2.2.2.2.2.1.a r.2.2.2.2.2.2.2.2.2.2.2.2.2.2.2.2.2.2.2.2.2.2.2.2.2.2.2.2.2.1.len r.2.2.2.2.2.2.2.2.2.2.2.2.2.2.2.2.2.2.2.2.2.2.2.2.2.2.2.2.2.1.cap r.2.2.2.2.2.2.2.2.2.2.2.2.2.2.2.2.2.2.2.2.2.2.2.2.2.2.2.2.2.1.sz,.slice r.2.2.2.2.2.2.2.2.2.2.2.2.2.2.2.2.2.2.2.2.2.2.2.2.2.2.2.2.2.2.1.a r.2.2.2.2.2.2.2.2.2.2.2.2.2.2.2.2.2.2.2.2.2.2.2.2.2.2.2.2.2.2.1.len r.2.2.2.2.2.2.2.2.2.2.2.2.2.2.2.2.2.2.2.2.2.2.2.2.2.2.2.2.2.2.1.cap r.2.2.2.2.2.2.2.2.2.2.2.2.2.2.2.2.2.2.2.2.2.2.2.2.2.2.2.2.2.2.1.sz,.slice r.2.2.2.2.2.2.2.2.2.2.2.2.2.2.2.2.2.2.2.2.2.2.2.2.2.2.2.2.2.2.2.1.a r.2.2.2.2.2.2.2.2.2.2.2.2.2.2.2.2.2.2.2.2.2.2.2.2.2.2.2.2.2.2.2.1.len r.2.2.2.2.2.2.2.2.2.2.2.2.2.2.2.2.2.2.2.2.2.2.2.2.2.2.2.2.2.2.2.1.cap r.2.2.2.2.2.2.2.2.2.2.2.2.2.2.2.2.2.2.2.2.2.2.2.2.2.2.2.2.2.2.2.1.sz]) fun h7=>iA (.val zA) (h7.cells (A,0) 32) fun x8=>K x8 h7)=K r (H.put A (.row (smx r) .own)):=by
 have:H.store (A,0) [.int .i64 r.1,.int .i64 r.2.1,.bool r.2.2.1,.str r.2.2.2.1,.int .i64 r.2.2.2.2.1,.str r.2.2.2.2.2.1,.slice r.2.2.2.2.2.2.1.a r.2.2.2.2.2.2.1.len r.2.2.2.2.2.2.1.cap r.2.2.2.2.2.2.1.sz,.slice r.2.2.2.2.2.2.2.1.a r.2.2.2.2.2.2.2.1.len r.2.2.2.2.2.2.2.1.cap r.2.2.2.2.2.2.2.1.sz,.bool r.2.2.2.2.2.2.2.2.1,.str r.2.2.2.2.2.2.2.2.2.1,.slice r.2.2.2.2.2.2.2.2.2.2.1.a r.2.2.2.2.2.2.2.2.2.2.1.len r.2.2.2.2.2.2.2.2.2.2.1.cap r.2.2.2.2.2.2.2.2.2.2.1.sz,.int .i64 r.2.2.2.2.2.2.2.2.2.2.2.1,.int .i64 r.2.2.2.2.2.2.2.2.2.2.2.2.1,.int .i64 r.2.2.2.2.2.2.2.2.2.2.2.2.2.1,.str r.2.2.2.2.2.2.2.2.2.2.2.2.2.2.1,.slice r.2.2.2.2.2.2.2.2.2.2.2.2.2.2.2.1.a r.2.2.2.2.2.2.2.2.2.2.2.2.2.2.2.1.len r.2.2.2.2.2.2.2.2.2.2.2.2.2.2.2.1.cap r.2.2.2.2.2.2.2.2.2.2.2.2.2.2.2.1.sz,.int .i64 r.2.2.2.2.2.2.2.2.2.2.2.2.2.2.2.2.1,.int .i64 r.2.2.2.2.2.2.2.2.2.2.2.2.2.2.2.2.2.1,.str r.2.2.2.2.2.2.2.2.2.2.2.2.2.2.2.2.2.2.1,.slice r.2.2.2.2.2.2.2.2.2.2.2.2.2.2.2.2.2.2.2.1.a r.2.2.2.2.2.2.2.2.2.2.2.2.2.2.2.2.2.2.2.1.len r.2.2.2.2.2.2.2.2.2.2.2.2.2.2.2.2.2.2.2.1.cap r.2.2.2.2.2.2.2.2.2.2.2.2.2.2.2.2.2.2.2.1.sz,.int .i64 r.2.2.2.2.2.2.2.2.2.2.2.2.2.2.2.2.2.2.2.2.1,.str r.2.2.2.2.2.2.2.2.2.2.2.2.2.2.2.2.2.2.2.2.2.1,.slice r.2.2.2.2.2.2.2.2.2.2.2.2.2.2.2.2.2.2.2.2.2.2.1.a r.2.2.2.2.2.2.2.2.2.2.2.2.2.2.2.2.2.2.2.2.2.2.1.len r.2.2.2.2.2.2.2.2.2.2.2.2.2.2.2.2.2.2.2.2.2.2.1.cap r.2.2.2.2.2.2.2.2.2.2.2.2.2.2.2.2.2.2.2.2.2.2.1.sz,.str r.2.2.2.2.2.2.2.2.2.2.2.2.2.2.2.2.2.2.2.2.2.2.2.1,.slice r.2.2.2.2.2.2.2.2.2.2.2.2.2.2.2.2.2.2.2.2.2.2.2.2.1.a r.2.2.2.2.2.2.2.2.2.2.2.2.2.2.2.2.2.2.2.2.2.2.2.2.1.len r.2.2.2.2.2.2.2.2.2.2.2.2.2.2.2.2.2.2.2.2.2.2.2.2.1.cap r.2.2.2.2.2.2.2.2.2.2.2.2.2.2.2.2.2.2.2.2.2.2.2.2.1.sz,.slice r.2.2.2.2.2.2.2.2.2.2.2.2.2.2.2.2.2.2.2.2.2.2.2.2.2.1.a r.2.2.2.2.2.2.2.2.2.2.2.2.2.2.2.2.2.2.2.2.2.2.2.2.2.1.len r.2.2.2.2.2.2.2.2.2.2.2.2.2.2.2.2.2.2.2.2.2.2.2.2.2.1.cap r.2.2.2.2.2.2.2.2.2.2.2.2.2.2.2.2.2.2.2.2.2.2.2.2.2.1.sz,.int .i64 r.2.2.2.2.2.2.2.2.2.2.2.2.2.2.2.2.2.2.2.2.2.2.2.2.2.2.1,.int .i64 r.2.2.2.2.2.2.2.2.2.2.2.2.2.2.2.2.2.2.2.2.2.2.2.2.2.2.2.1,.str r.2.2.2.2.2.2.2.2.2.2.2.2.2.2.2.2.2.2.2.2.2.2.2.2.2.2.2.2.1,.slice r.2.2.2.2.2.2.2.2.2.2.2.2.2.2.2.2.2.2.2.2.2.2.2.2.2.2.2.2.2.1.a r.2.2.2.2.2.2.2.2.2.2.2.2.2.2.2.2.2.2.2.2.2.2.2.2.2.2.2.2.2.1.len r.2.2.2.2.2.2.2.2.2.2.2.2.2.2.2.2.2.2.2.2.2.2.2.2.2.2.2.2.2.1.cap r.2.2.2.2.2.2.2.2.2.2.2.2.2.2.2.2.2.2.2.2.2.2.2.2.2.2.2.2.2.1.sz,.slice r.2.2.2.2.2.2.2.2.2.2.2.2.2.2.2.2.2.2.2.2.2.2.2.2.2.2.2.2.2.2.1.a r.2.2.2.2.2.2.2.2.2.2.2.2.2.2.2.2.2.2.2.2.2.2.2.2.2.2.2.2.2.2.1.len r.2.2.2.2.2.2.2.2.2.2.2.2.2.2.2.2.2.2.2.2.2.2.2.2.2.2.2.2.2.2.1.cap r.2.2.2.2.2.2.2.2.2.2.2.2.2.2.2.2.2.2.2.2.2.2.2.2.2.2.2.2.2.2.1.sz,.slice r.2.2.2.2.2.2.2.2.2.2.2.2.2.2.2.2.2.2.2.2.2.2.2.2.2.2.2.2.2.2.2.1.a r.2.2.2.2.2.2.2.2.2.2.2.2.2.2.2.2.2.2.2.2.2.2.2.2.2.2.2.2.2.2.2.1.len r.2.2.2.2.2.2.2.2.2.2.2.2.2.2.2.2.2.2.2.2.2.2.2.2.2.2.2.2.2.2.2.1.cap r.2.2.2.2.2.2.2.2.2.2.2.2.2.2.2.2.2.2.2.2.2.2.2.2.2.2.2.2.2.2.2.1.sz]=some (H.put A (.row (smx r) .own)):=o.store rfl
 rw [this,dA,eAs (yA o _)]
section
variable {N:Nat} {T:List Tok} {P:Nat} {X:List Nat} {h:Heap} {σ:St}
theorem KE.opt {c:Nat} (hk:KE T (σ,c)) {w:Bs} (h:(kB T w σ).1=true):c≤2000:=by
 have hn:=(eH h).2;rcases hk with (hk | hk) | ⟨_,hk⟩
 ·exact hk
 ·rw [hn] at hk;cases hk
 ·obtain ⟨i,e⟩:=σ
  simp only at hn;subst hn;rw [bAj hk] at h;cases h
theorem KS.le {s:SC} (h:s.2≤2000):KS s:=.inl h
theorem nB3 (hT:Toks T) (hN:100≤N) {F:zO2→Int→Heap→Option (SL×Heap)} {G} {blk:SC→List D×SC} {deep:Nat} (hd:deep≤100) (hB:mBa N T P F blk ((deep+1:Nat):Int)) (hK:∀ s,KS s→KS (blk s).2) {c:Nat} (x:PC T P X h σ (c:Int)) (hk:KE T (σ,c)) :
  ∃ r h',rAi N F G (some (P,0)) (deep:Int) h=some (r,h')∧PC T P X h' (nM T blk (σ,c)).2.1 ((nM T blk (σ,c)).2.2:Int)∧Chg [P] h h'∧Dt h' (fun C=>h.next≤C) (nM T blk (σ,c)).1 (smx r):=by
 unfold rAi;have hP:=x.P_lt;have oR:=vA h (smc (aG 0));have cR:=qA h (.row (smc (aG 0)) .own);have eR:h.push (.row [.int .i64 0,.int .i64 0,.bool false,.str [],.int .i64 0,.str [],.slice none 0 0 0,.slice none 0 0 0,.bool false,.str [],.slice none 0 0 0,.int .i64 0,.int .i64 0,.int .i64 0,.str [],.slice none 0 0 0,.int .i64 0,.int .i64 0,.str [],.slice none 0 0 0,.int .i64 0,.str [],.slice none 0 0 0,.str [],.slice none 0 0 0,.slice none 0 0 0,.int .i64 0,.int .i64 0,.str [],.slice none 0 0 0,.slice none 0 0 0,.slice none 0 0 0] .own)=h.push (.row (smc (aG 0)) .own):=rfl;have nR:(h.push (.row (smc (aG 0)) .own)).next=h.next+1:=rfl;have x1:=x.add cR (A:=h.next) (Nat.le_refl _) (Nat.lt_succ_self _);rw [eR];generalize h.push (.row (smc (aG 0)) .own)=h1 at *;dsimp only;obtain ⟨h3,e3,c3⟩:=wM (N:=N) x1.pa;rw [e3,aA];obtain ⟨h5,e5,c5,o5⟩:=mAi h3 (tk T σ.1);rw [e5,dA];have k5:h5.cell (h3.next,0+2)=some (.int .i64 ((tk T σ.1).2.2:Int)):=o5.cell 2;rw [k5];simp only [fA,yC];have c15:=c3.trans c5;have x5:=x1.chg c15;have oR5:=oR.chg c15 (by simp);have hn5:=c15.next;simp only [nM];generalize ((tk T σ.1).2.2:Int)=at_ at *;have oO0:=vA h5 (smc (aG 0));have cO0:=qA h5 (.row (smc (aG 0)) .own);have eO:h5.push (.row [.int .i64 0,.int .i64 0,.bool false,.str [],.int .i64 0,.str [],.slice none 0 0 0,.slice none 0 0 0,.bool false,.str [],.slice none 0 0 0,.int .i64 0,.int .i64 0,.int .i64 0,.str [],.slice none 0 0 0,.int .i64 0,.int .i64 0,.str [],.slice none 0 0 0,.int .i64 0,.str [],.slice none 0 0 0,.str [],.slice none 0 0 0,.slice none 0 0 0,.int .i64 0,.int .i64 0,.str [],.slice none 0 0 0,.slice none 0 0 0,.slice none 0 0 0] .own)=h5.push (.row (smc (aG 0)) .own):=rfl;have hstO:(h5.push (.row (smc (aG 0)) .own)).store (h5.next,0) (smc (aG at_))=some ((h5.push (.row (smc (aG 0)) .own)).put h5.next (.row (smc (aG at_)) .own)):=oO0.store rfl;have hstO':(h5.push (.row (smc (aG 0)) .own)).store (h5.next,0) (.int .i64 0::.int .i64 at_::([.int .i64 0,.int .i64 0,.bool false,.str [],.int .i64 0,.str [],.slice none 0 0 0,.slice none 0 0 0,.bool false,.str [],.slice none 0 0 0,.int .i64 0,.int .i64 0,.int .i64 0,.str [],.slice none 0 0 0,.int .i64 0,.int .i64 0,.str [],.slice none 0 0 0,.int .i64 0,.str [],.slice none 0 0 0,.str [],.slice none 0 0 0,.slice none 0 0 0,.int .i64 0,.int .i64 0,.str [],.slice none 0 0 0,.slice none 0 0 0,.slice none 0 0 0]).drop 2)=some ((h5.push (.row (smc (aG 0)) .own)).put h5.next (.row (smc (aG at_)) .own)):=hstO;simp only [List.drop_succ_cons,List.drop_zero] at hstO';rw [eO,hstO',dA];have oO:=yA oO0 (smc (aG at_));have cO:Chg [] h5 ((h5.push (.row (smc (aG 0)) .own)).put h5.next (.row (smc (aG at_)) .own)):=cO0.put (.inr (Nat.le_refl _)) _;have nO:((h5.push (.row (smc (aG 0)) .own)).put h5.next (.row (smc (aG at_)) .own)).next=h5.next+1:=rfl;have x8:=x5.add cO (A:=h5.next) (Nat.le_refl _) (Nat.lt_succ_self _);have oR8:=oR5.chg cO (by simp);have c08:Chg [P] h ((h5.push (.row (smc (aG 0)) .own)).put h5.next (.row (smc (aG at_)) .own)):=((cR.mono (by simp)).trans (c15.mono (by simp))).trans (cO.mono (by simp));generalize (h5.push (.row (smc (aG 0)) .own)).put h5.next (.row (smc (aG at_)) .own)=h8 at *;have s8:SI T P X h h.next h5.next (aG at_) dN h8 σ (c:Int):=⟨x8,c08,oR8,oO,⟨Nat.le_refl _,by omega,hP⟩,uW _ _ _ _,dL _ _,lBa _ _,gI _ _,Sl.nil _ _ _,Sl.nil _ _ _⟩;have hR:h.next<h5.next:=by omega
 generalize h5.next=O at *;generalize h.next=R at *
 -- what stands at the end
 have fin:∀ {h60:Heap} {z:D×SC},dBg T P X h R O ((z.2.2:Int)) h60 (z.1,z.2.1)→∃ r h',
   (iA (.val zA) (h60.cells (O,0) 32) fun x62=>rA (h60.store (R,0) [.int .i64 x62.1,.int .i64 x62.2.1,.bool x62.2.2.1,.str x62.2.2.2.1,.int .i64 x62.2.2.2.2.1,.str x62.2.2.2.2.2.1,.slice x62.2.2.2.2.2.2.1.a x62.2.2.2.2.2.2.1.len x62.2.2.2.2.2.2.1.cap x62.2.2.2.2.2.2.1.sz,.slice x62.2.2.2.2.2.2.2.1.a x62.2.2.2.2.2.2.2.1.len x62.2.2.2.2.2.2.2.1.cap x62.2.2.2.2.2.2.2.1.sz,.bool x62.2.2.2.2.2.2.2.2.1,.str x62.2.2.2.2.2.2.2.2.2.1,.slice x62.2.2.2.2.2.2.2.2.2.2.1.a x62.2.2.2.2.2.2.2.2.2.2.1.len x62.2.2.2.2.2.2.2.2.2.2.1.cap x62.2.2.2.2.2.2.2.2.2.2.1.sz,.int .i64 x62.2.2.2.2.2.2.2.2.2.2.2.1,.int .i64 x62.2.2.2.2.2.2.2.2.2.2.2.2.1,.int .i64 x62.2.2.2.2.2.2.2.2.2.2.2.2.2.1,.str x62.2.2.2.2.2.2.2.2.2.2.2.2.2.2.1,.slice x62.2.2.2.2.2.2.2.2.2.2.2.2.2.2.2.1.a x62.2.2.2.2.2.2.2.2.2.2.2.2.2.2.2.1.len x62.2.2.2.2.2.2.2.2.2.2.2.2.2.2.2.1.cap x62.2.2.2.2.2.2.2.2.2.2.2.2.2.2.2.1.sz,.int .i64 x62.2.2.2.2.2.2.2.2.2.2.2.2.2.2.2.2.1,.int .i64 x62.2.2.2.2.2.2.2.2.2.2.2.2.2.2.2.2.2.1,.str x62.2.2.2.2.2.2.2.2.2.2.2.2.2.2.2.2.2.2.1,.slice x62.2.2.2.2.2.2.2.2.2.2.2.2.2.2.2.2.2.2.2.1.a x62.2.2.2.2.2.2.2.2.2.2.2.2.2.2.2.2.2.2.2.1.len x62.2.2.2.2.2.2.2.2.2.2.2.2.2.2.2.2.2.2.2.1.cap x62.2.2.2.2.2.2.2.2.2.2.2.2.2.2.2.2.2.2.2.1.sz,.int .i64 x62.2.2.2.2.2.2.2.2.2.2.2.2.2.2.2.2.2.2.2.2.1,.str x62.2.2.2.2.2.2.2.2.2.2.2.2.2.2.2.2.2.2.2.2.2.1,.slice x62.2.2.2.2.2.2.2.2.2.2.2.2.2.2.2.2.2.2.2.2.2.2.1.a x62.2.2.2.2.2.2.2.2.2.2.2.2.2.2.2.2.2.2.2.2.2.2.1.len x62.2.2.2.2.2.2.2.2.2.2.2.2.2.2.2.2.2.2.2.2.2.2.1.cap x62.2.2.2.2.2.2.2.2.2.2.2.2.2.2.2.2.2.2.2.2.2.2.1.sz,.str x62.2.2.2.2.2.2.2.2.2.2.2.2.2.2.2.2.2.2.2.2.2.2.2.1,.slice x62.2.2.2.2.2.2.2.2.2.2.2.2.2.2.2.2.2.2.2.2.2.2.2.2.1.a x62.2.2.2.2.2.2.2.2.2.2.2.2.2.2.2.2.2.2.2.2.2.2.2.2.1.len x62.2.2.2.2.2.2.2.2.2.2.2.2.2.2.2.2.2.2.2.2.2.2.2.2.1.cap x62.2.2.2.2.2.2.2.2.2.2.2.2.2.2.2.2.2.2.2.2.2.2.2.2.1.sz,.slice x62.2.2.2.2.2.2.2.2.2.2.2.2.2.2.2.2.2.2.2.2.2.2.2.2.2.1.a x62.2.2.2.2.2.2.2.2.2.2.2.2.2.2.2.2.2.2.2.2.2.2.2.2.2.1.len x62.2.2.2.2.2.2.2.2.2.2.2.2.2.2.2.2.2.2.2.2.2.2.2.2.2.1.cap x62.2.2.2.2.2.2.2.2.2.2.2.2.2.2.2.2.2.2.2.2.2.2.2.2.2.1.sz,.int .i64 x62.2.2.2.2.2.2.2.2.2.2.2.2.2.2.2.2.2.2.2.2.2.2.2.2.2.2.1,.int .i64 x62.2.2.2.2.2.2.2.2.2.2.2.2.2.2.2.2.2.2.2.2.2.2.2.2.2.2.2.1,.str x62.2.2.2.2.2.2.2.2.2.2.2.2.2.2.2.2.2.2.2.2.2.2.2.2.2.2.2.2.1,.slice x62.2.2.2.2.2.2.2.2.2.2.2.2.2.2.2.2.2.2.2.2.2.2.2.2.2.2.2.2.2.1.a x62.2.2.2.2.2.2.2.2.2.2.2.2.2.2.2.2.2.2.2.2.2.2.2.2.2.2.2.2.2.1.len x62.2.2.2.2.2.2.2.2.2.2.2.2.2.2.2.2.2.2.2.2.2.2.2.2.2.2.2.2.2.1.cap x62.2.2.2.2.2.2.2.2.2.2.2.2.2.2.2.2.2.2.2.2.2.2.2.2.2.2.2.2.2.1.sz,.slice x62.2.2.2.2.2.2.2.2.2.2.2.2.2.2.2.2.2.2.2.2.2.2.2.2.2.2.2.2.2.2.1.a x62.2.2.2.2.2.2.2.2.2.2.2.2.2.2.2.2.2.2.2.2.2.2.2.2.2.2.2.2.2.2.1.len x62.2.2.2.2.2.2.2.2.2.2.2.2.2.2.2.2.2.2.2.2.2.2.2.2.2.2.2.2.2.2.1.cap x62.2.2.2.2.2.2.2.2.2.2.2.2.2.2.2.2.2.2.2.2.2.2.2.2.2.2.2.2.2.2.1.sz,.slice x62.2.2.2.2.2.2.2.2.2.2.2.2.2.2.2.2.2.2.2.2.2.2.2.2.2.2.2.2.2.2.2.1.a x62.2.2.2.2.2.2.2.2.2.2.2.2.2.2.2.2.2.2.2.2.2.2.2.2.2.2.2.2.2.2.2.1.len x62.2.2.2.2.2.2.2.2.2.2.2.2.2.2.2.2.2.2.2.2.2.2.2.2.2.2.2.2.2.2.2.1.cap x62.2.2.2.2.2.2.2.2.2.2.2.2.2.2.2.2.2.2.2.2.2.2.2.2.2.2.2.2.2.2.2.1.sz]) fun h63=>iA (.val zA) (h63.cells (R,0) 32) fun x66=>some (x66,h63))=some (r,h')∧PC T P X h' z.2.1 (z.2.2:Int)∧Chg [P] h h'∧Dt h' (fun C=>R≤C) z.1 (smx r):=by
  rintro h60 z ⟨r,d,s,e⟩;have hle:=s.le;refine ⟨smv r,h60.put R (.row (smx (smv r)) .own),?_,?_,?_,?_⟩
  ·rw [eAs (r:=smv r) s.oO]
   exact uBi s.oR (smv r) (fun x h=>some (x,h))
  ·exact (s.pc.chg1 (s.oR.put _) (by simp)).sub (by simp +contextual)
  ·exact s.chg.step (s.oR.put _) (fun A hA hl=>by rw [List.mem_singleton] at hA;omega)
  ·show Dt _ _ z.1 _
   rw [show z.1=smD r d from e];exact (s.dt.chg (s.oR.put _) (fun C hC=>by simp;omega)).weak fun C hC _=>by omega
 obtain ⟨h10,e10,c10,y10⟩:=fI (N:=N) hT s8.pc (w:=[108,101,116]) (by decide);rw [e10,aA];have s10:=s8.step c10 y10
 cases hb1:(kB T [108,101,116] σ).1 with
 | true=>
  simp only [cond_true,if_true];obtain ⟨h12,e12,sm⟩:=lB3 (N:=N) hT hN s10;rw [e12,aA];simp only [aA,dA];exact fin (z:=((eAn T at_ (kB T [108,101,116] σ).2).1,((eAn T at_ (kB T [108,101,116] σ).2).2,c))) sm
 | false=>
 rw [wD hb1] at s10 ⊢;simp only [cond_false,Bool.false_eq_true,if_false];obtain ⟨h14,e14,c14,y14⟩:=fI (N:=N) hT s10.pc (w:=[105,102]) (by decide);rw [e14,aA];have s14:=s10.step c14 y14
 cases hb2:(kB T [105,102] σ).1 with
 | true=>
  have hc:=hk.opt hb2;simp only [cond_true,if_true];obtain ⟨co,h16,e16,y16,c16,d16⟩:=rR (N:=N) hT hN s14.pc;rw [e16,aA];have s16:=s14.step c16 y16;have hlt:=s14.lt;generalize (kF T (kB T [105,102] σ).2)=o at *;simp only [Nat.zero_add];obtain ⟨h17,e17,s17,c17⟩:=s16.setK 4;rw [e17,dA];obtain ⟨h18,e18,s18,c18⟩:=s17.setC co ((d16.weak (W:=fun C=>O<C) fun C hC _=>by omega).chg c17 (fun C hC=>by simp;omega));rw [e18,dA,iB (by omega)];obtain ⟨v,h21,e21,y21,c21,d21⟩:=hB _ h18 _ c s18.pc (KS.le hc);rw [e21,aA];have s21:=s18.step c21 y21;have hlt2:=s18.lt;have hk2:=hK (o.2,c) (KS.le hc);generalize blk (o.2,c)=t at *;obtain ⟨h22,e22,s22,c22⟩:=s21.setTh v (d21.weak fun C hC _=>by omega);rw [e22,dA];obtain ⟨h24,e24,c24,y24⟩:=fI (N:=N) hT s22.pc (w:=[101,108,115,101]) (by decide);rw [e24,aA];have s24:=s22.step c24 y24;obtain ⟨h25,e25,s25,c25⟩:=s24.setH (kB T [101,108,115,101] t.2.1).1;rw [e25,dA];have r25:h25.cell (O,8)=some (.bool (kB T [101,108,115,101] t.2.1).1):=s25.oO.cell 8;simp only [r25,fA,wB]
  cases hb3:(kB T [101,108,115,101] t.2.1).1 with
  | true=>
   rw [hb3] at s25;simp only [cond_true,if_true];have hk3:KS ((kB T [101,108,115,101] t.2.1).2,t.2.2):=KS.err (σ:=t.2.1) hk2 (fun i e h=>by rw [h];rfl);obtain ⟨v2,h29,e29,y29,c29,d29⟩:=hB _ h25 _ t.2.2 s25.pc hk3;rw [e29,aA];have s29:=s25.step c29 y29;have hlt3:=s25.lt;obtain ⟨h30,e30,s30,c30⟩:=s29.setEl v2 (d29.weak fun C hC _=>by omega);rw [e30,dA];simp only [aA,dA];exact fin (z:=(smD { aG at_ with k:=4,has:=true } { dN with co:=o.1,th:=t.1,el:=(blk ((kB T [101,108,115,101] t.2.1).2,t.2.2)).1 },(blk ((kB T [101,108,115,101] t.2.1).2,t.2.2)).2)) ⟨_,_,s30,fK ⟨rfl,rfl,rfl,rfl,rfl⟩⟩
  | false=>
   rw [hb3] at s25;simp only [cond_false,Bool.false_eq_true,if_false];simp only [aA,dA];exact fin (z:=(smD { aG at_ with k:=4 } { dN with co:=o.1,th:=t.1 },((kB T [101,108,115,101] t.2.1).2,t.2.2))) ⟨_,_,s25,fK ⟨rfl,rfl,rfl,rfl,rfl⟩⟩
 | false=>
 rw [wD hb2] at s14 ⊢;simp only [cond_false,Bool.false_eq_true,if_false];obtain ⟨h32,e32,c32,y32⟩:=fI (N:=N) hT s14.pc (w:=[119,104,105,108,101]) (by decide);rw [e32,aA];have s32:=s14.step c32 y32
 cases hb3:(kB T [119,104,105,108,101] σ).1 with
 | true=>
  have hc:=hk.opt hb3;simp only [cond_true,if_true];obtain ⟨co,h34,e34,y34,c34,d34⟩:=rR (N:=N) hT hN s32.pc;rw [e34,aA];have s34:=s32.step c34 y34;have hlt:=s32.lt;generalize (kF T (kB T [119,104,105,108,101] σ).2)=o at *;simp only [Nat.zero_add];obtain ⟨h35,e35,s35,c35⟩:=s34.setK 5;rw [e35,dA];obtain ⟨h36,e36,s36,c36⟩:=s35.setC co ((d34.weak (W:=fun C=>O<C) fun C hC _=>by omega).chg c35 (fun C hC=>by simp;omega));rw [e36,dA,iB (by omega)];obtain ⟨v,h39,e39,y39,c39,d39⟩:=hB _ h36 _ c s36.pc (KS.le hc);rw [e39,aA];have s39:=s36.step c39 y39;have hlt2:=s36.lt;obtain ⟨h40,e40,s40,c40⟩:=s39.setTh v (d39.weak fun C hC _=>by omega);rw [e40,dA];simp only [aA,dA];exact fin (z:=(smD { aG at_ with k:=5 } { dN with co:=o.1,th:=(blk (o.2,c)).1 },(blk (o.2,c)).2)) ⟨_,_,s40,fK ⟨rfl,rfl,rfl,rfl,rfl⟩⟩
 | false=>
 rw [wD hb3] at s32 ⊢;simp only [cond_false,Bool.false_eq_true,if_false];obtain ⟨h42,e42,c42,y42⟩:=fI (N:=N) hT s32.pc (w:=[108,111,111,112]) (by decide);rw [e42,aA];have s42:=s32.step c42 y42
 cases hb4:(kB T [108,111,111,112] σ).1 with
 | true=>
  have hc:=hk.opt hb4;simp only [cond_true,if_true,Nat.zero_add];rw [iB (by omega)];obtain ⟨v,h45,e45,y45,c45,d45⟩:=hB _ h42 _ c s42.pc (KS.le hc);rw [e45,aA];have s45:=s42.step c45 y45;have hlt2:=s42.lt;obtain ⟨h46,e46,s46,c46⟩:=s45.setK 6;rw [e46,dA];obtain ⟨h47,e47,s47,c47⟩:=s46.setTh v ((d45.weak (W:=fun C=>O<C) fun C hC _=>by omega).chg c46 (fun C hC=>by simp;omega));rw [e47,dA];simp only [aA,dA];exact fin (z:=(smD { aG at_ with k:=6 } { dN with th:=(blk ((kB T [108,111,111,112] σ).2,c)).1 },(blk ((kB T [108,111,111,112] σ).2,c)).2)) ⟨_,_,s47,fK ⟨rfl,rfl,rfl,rfl,rfl⟩⟩
 | false=>
 rw [wD hb4] at s42 ⊢;simp only [cond_false,Bool.false_eq_true,if_false];obtain ⟨h49,e49,c49⟩:=mAf (N:=N) hT s42.pc (w:=[123]) (by decide);rw [e49,aA];have s49:=s42.step0 c49
 cases hb5:(kB T [123] σ).1 with
 | true=>
  have hc:=hk.opt hb5;simp only [cond_true,if_true,Nat.zero_add];rw [iB (by omega)];obtain ⟨v,h45,e45,y45,c45,d45⟩:=hB _ h49 _ c s49.pc (KS.le hc);rw [e45,aA];have s45:=s49.step c45 y45;have hlt2:=s49.lt;obtain ⟨h46,e46,s46,c46⟩:=s45.setK 7;rw [e46,dA];obtain ⟨h47,e47,s47,c47⟩:=s46.setTh v ((d45.weak (W:=fun C=>O<C) fun C hC _=>by omega).chg c46 (fun C hC=>by simp;omega));rw [e47,dA];simp only [aA,dA];exact fin (z:=(smD { aG at_ with k:=7 } { dN with th:=(blk (σ,c)).1 },(blk (σ,c)).2)) ⟨_,_,s47,fK ⟨rfl,rfl,rfl,rfl,rfl⟩⟩
 | false=>
  simp only [cond_false,Bool.false_eq_true,if_false];obtain ⟨h56,e56,r,d,s56,hs⟩:=mB3 (N:=N) hT hN s49;rw [e56,aA];obtain ⟨h58,e58,c58,y58⟩:=tF (N:=N) hT s56.pc (w:=[59]) (by decide);rw [e58,aA];simp only [aA,dA];exact fin (z:=((fH T at_ σ).1,(gD T [59] (fH T at_ σ).2,c))) ⟨r,d,s56.step c58 y58,hs⟩
end
end Qp
namespace Qp
def iE (T:List Tok) (one:SC→D×SC):Nat→SC→(List D×Bool)×SC
 | 0,s=>(([],false),s)
 | f+1,s=>
  if s.1.2.isSome=true then (([],false),s) else
  let b:=kB T [125] s.1
  if b.1=true then (([],false),(b.2,s.2)) else
  if s.2=2000∧(tk T s.1.1).1≠0 then (([],true),(iF T 5 s.1,s.2)) else
  let x:=one (s.1,s.2+1)
  ((x.1::(iE T one f x.2).1.1,(iE T one f x.2).1.2),(iE T one f x.2).2)
def yE (T:List Tok):Nat→SC→List D×SC
 | 0,s=>([],(iF T 6 s.1,s.2))
 | g+1,s=>
  let r:=iE T (nM T (yE T g)) 2001 (gD T [123] s.1,s.2)
  (if r.1.2=true then [] else r.1.1,r.2)
section
variable {T:List Tok}
theorem vAl {i:Nat} (h:(tk T i).1=0) (a:Int):(fH T a (i,none)).2.2.isSome=true:=by
 have hc:yF T (i,none)=false:=by simp [yF,dF,h]
 have ht:iC T 1 (i,none)=([],(i,some (21,((tk T i).2.2:Int)))):=by simp [iC,iF,h]
 simp only [fH,bAj h,Bool.false_eq_true,if_false,hc,qG,ht,vAb,gH,dA5,Option.isSome_some]
theorem wAl {σ τ:St} (h:σ.2.isSome=true) (hs:∀ i e,σ=(i,some e)→τ=(i,some e)):τ.2.isSome=true:=by
 obtain ⟨i,e,rfl⟩:=rP h;rw [hs i e rfl];rfl
theorem fAs {blk:SC→List D×SC} (hK:∀ s,KS s→KS (blk s).2∧s.2≤(blk s).2.2) {σ:St} {c:Nat} (hk:KE T (σ,c)):KS (nM T blk (σ,c)).2∧c≤(nM T blk (σ,c)).2.2:=by
 simp only [nM]
 cases hb1:(kB T [108,101,116] σ).1 with
 | true=>
  simp only [if_true];exact ⟨.inl (hk.opt hb1),Nat.le_refl _⟩
 | false=>
 rw [wD hb1];simp only [Bool.false_eq_true,if_false]
 cases hb2:(kB T [105,102] σ).1 with
 | true=>
  have hc:=hk.opt hb2;simp only [if_true];have k1:=hK ((kF T (kB T [105,102] σ).2).2,c) (.inl hc);generalize blk ((kF T (kB T [105,102] σ).2).2,c)=t at *
  cases hb3:(kB T [101,108,115,101] t.2.1).1 with
  | true=>
   simp only [if_true];have k2:=hK ((kB T [101,108,115,101] t.2.1).2,t.2.2) (KS.err (σ:=t.2.1) k1.1 (fun i e h=>by rw [h,gK]));exact ⟨k2.1,Nat.le_trans k1.2 k2.2⟩
  | false=>
   simp only [Bool.false_eq_true,if_false];exact ⟨KS.err (σ:=t.2.1) k1.1 (fun i e h=>by rw [h,gK]),k1.2⟩
 | false=>
 rw [wD hb2];simp only [Bool.false_eq_true,if_false]
 cases hb3:(kB T [119,104,105,108,101] σ).1 with
 | true=>
  simp only [if_true];exact hK _ (.inl (hk.opt hb3))
 | false=>
 rw [wD hb3];simp only [Bool.false_eq_true,if_false]
 cases hb4:(kB T [108,111,111,112] σ).1 with
 | true=>
  simp only [if_true];exact hK _ (.inl (hk.opt hb4))
 | false=>
 rw [wD hb4];simp only [Bool.false_eq_true,if_false]
 cases hb5:(kB T [123] σ).1 with
 | true=>
  simp only [if_true];exact hK _ (.inl (hk.opt hb5))
 | false=>
  simp only [Bool.false_eq_true,if_false];refine ⟨?_,Nat.le_refl _⟩;rcases hk with (hk | hk) | ⟨hk,he⟩
  ·exact .inl hk
  ·obtain ⟨i,e,rfl⟩:=rP hk
   refine .inr ?_;show (gD T [59] (fH T _ (i,some e)).2).2.isSome=true;rw [eA5,gH];rfl
  ·obtain ⟨i,e⟩:=σ
   refine .inr ?_;show (gD T [59] (fH T _ (i,e)).2).2.isSome=true
   have:(fH T ((tk T i).2.2:Int) (i,e)).2.2.isSome=true:=by
    cases e with
    | some e=>rw [eA5];rfl
    | none=>exact vAl he _
   exact wAl this (fun j f h=>by
    show gD T [59] (fH T ((tk T i).2.2:Int) (i,e)).2=_;rw [h,gH])
theorem cAj {one:SC→D×SC} (hO:∀ s,KE T s→KS (one s).2∧s.2≤(one s).2.2):∀ (f:Nat) (s:SC),KS s→KS (iE T one f s).2∧s.2≤(iE T one f s).2.2
 | 0,s,hk=>⟨hk,Nat.le_refl _⟩
 | f+1,(σ,c),hk=>by
  simp only [iE]
  cases hn:σ.2.isSome with
  | true=>simp only [if_true];exact ⟨hk,Nat.le_refl _⟩
  | false=>
  simp only [Bool.false_eq_true,if_false];have hc:c≤2000:=by
   rcases hk with hk | hk
   ·exact hk
   ·rw [hn] at hk;cases hk
  cases hb:(kB T [125] σ).1 with
  | true=>simp only [if_true];exact ⟨.inl hc,Nat.le_refl _⟩
  | false=>
  simp only [Bool.false_eq_true,if_false]
  by_cases q:c=2000∧(tk T σ.1).1≠0
  ·rw [if_pos q];exact ⟨.inl hc,Nat.le_refl _⟩
  ·rw [if_neg q]
   have h1:=hO (σ,c+1) (by
    by_cases q1:c=2000
    ·refine .inr ⟨by show c+1≤2001;omega,?_⟩
     by_cases q2:(tk T σ.1).1=0
     ·exact q2
     ·exact absurd ⟨q1,q2⟩ q
    ·exact .inl (.inl (by show c+1≤2000;omega)))
   have h2:=cAj hO f (one (σ,c+1)).2 h1.1;exact ⟨h2.1,Nat.le_trans (Nat.le_of_succ_le h1.2) h2.2⟩
theorem rA7:∀ (g:Nat) (s:SC),KS s→KS (yE T g s).2∧s.2≤(yE T g s).2.2
 | 0,(σ,c),hk=>⟨KS.err hk (fun i e h=>by
   show iF T 6 σ=_;rw [h,uAb]),Nat.le_refl _⟩
 | g+1,(σ,c),hk=>by
  simp only [yE]
  have:=cAj (T:=T) (one:=nM T (yE T g)) (fun s hs=>fAs (rA7 g) (σ:=s.1) (c:=s.2) hs) 2001 (gD T [123] σ,c) (KS.err hk (fun i e h=>by rw [h,gH]))
  exact this
end
theorem nBa:AppN E 42 106 32 10000:=AppN.of (by kernel_rfl)
section
variable {N:Nat} {T:List Tok} {P:Nat} {X:List Nat} {h:Heap} {σ:St} {st:Int}
theorem PC.setSt (x:PC T P X h σ st) (st':Int):∃ h',h.store (P,2) [.int .i64 st']=some h'∧Chg [P] h h'∧PC T P X h' σ st':=by
 obtain ⟨⟨⟨s,v,h1,h2,h3,h4⟩,h5,h6⟩,hp,p4⟩:=x;have c:=h1.put [SL.av s,.int .i64 (σ.1:Int),.int .i64 st',v];have hl:=h1.2;refine ⟨_,h1.store1 (j:=2) (by show 2<4;omega) _,c,⟨⟨s,v,yA h1 _,h2.chg c (fun A hA=>by simp;omega),h3,h4.chg c (fun A hA=>.inl (by simpa using hA))⟩,h5,fun A hA=>h6 A hA⟩,rJ c (by simp;omega) (by omega) hp,p4⟩
theorem PC.readSt (x:PC T P X h σ st):h.cell (P,2)=some (.int .i64 st):=by
 obtain ⟨⟨⟨s,v,h1,_⟩,_⟩,_⟩:=x;exact h1.cell 2
def oBa (T:List Tok) (P:Nat) (G:zO2→Int→Heap→Option (SmV×Heap)) (one:SC→D×SC) (deep:Int):Prop:=∀ (X:List Nat) (h:Heap) (σ:St) (c:Nat),PC T P X h σ (c:Int)→KE T (σ,c)→∃ r h',G (some (P,0)) deep h=some (r,h')∧PC T P X h' (one (σ,c)).2.1 ((one (σ,c)).2.2:Int)∧Chg [P] h h'∧Dt h' (fun C=>h.next≤C) (one (σ,c)).1 (smx r)
theorem yAl (hT:Toks T) {F} {G:zO2→Int→Heap→Option (SmV×Heap)} {one:SC→D×SC} {deep:Int} (hG:oBa T P G one deep) (hO:∀ s,KE T s→KS (one s).2∧s.2≤(one s).2.2) {h0:Heap} {v4:SL} (hP0:P<h0.next):∀ (f M:Nat) (h:Heap) (σ:St) (c:Nat) (v:SL) (xs:List D),f<M→2001≤c+f→xs.length≤c→KS (σ,c)→PC T P X h σ (c:Int)→Chg [P] h0 h→Ow h0.next h v 32 xs→
  ∃ o r h',pA1 N F G M (some (P,0)) deep ⟨none,0,0,0⟩ v h=some (o,r,h')∧PC T P X h' (iE T one f (σ,c)).2.1 ((iE T one f (σ,c)).2.2:Int)∧Chg [P] h0 h'∧
   (((iE T one f (σ,c)).1.2=false∧o=.exit 0∧Ow h0.next h' r.2.1 32 (xs++(iE T one f (σ,c)).1.1))∨((iE T one f (σ,c)).1.2=true∧o=.ret∧r.1=⟨none,0,0,0⟩)):=by
 intro f
 induction f with
 | zero=>
  intro M h σ c v xs hM hc hx hk x ch w;obtain ⟨M,rfl⟩:∃ m,M=m+1:=⟨M-1,by omega⟩;rw [fO];unfold bO;obtain ⟨e,k3,hv⟩:=x.pa.readE;have hs:σ.2.isSome=true:=by
   rcases hk with hk | hk
   ·have hk:c≤2000:=hk;omega
   ·exact hk
  have hs':σ.2.isNone=false:=by cases hh:σ.2 <;> simp_all
  simp only [dA,Nat.zero_add,k3,fA,aE,hv.eq 15,wB,hs',cond_false,iE];exact ⟨_,_,h,rfl,x,ch,.inl ⟨trivial,rfl,by rw [List.append_nil];exact w⟩⟩
 | succ f ih=>
  intro M h σ c v xs hM hc hx hk x ch w;obtain ⟨M,rfl⟩:∃ m,M=m+1:=⟨M-1,by omega⟩;rw [fO];unfold bO;obtain ⟨e,k3,hv⟩:=x.pa.readE;simp only [dA,Nat.zero_add,k3,fA,aE,hv.eq 15,wB,iE]
  cases hn:σ.2 with
  | some q=>
   simp only [Option.isNone_some,cond_false,Option.isSome_some,if_true];exact ⟨_,_,h,rfl,x,ch,.inl ⟨trivial,rfl,by rw [List.append_nil];exact w⟩⟩
  | none=>
  simp only [Option.isNone_none,cond_true,Option.isSome_none,Bool.false_eq_true,if_false];have hc2:c≤2000:=by
   rcases hk with hk | hk
   ·exact hk
   ·simp [hn] at hk
  obtain ⟨h12,e12,c12,x12⟩:=pI (N:=N) hT x (w:=[125]) (by decide);rw [e12,aA];have w12:=w.chg c12 (by intro A hA;rw [List.mem_singleton] at hA;omega);have ch12:=ch.trans c12
  cases hb:(kB T [125] σ).1 with
  | true=>
   simp only [Bool.not_true,cond_false,if_true];exact ⟨_,_,h12,rfl,x12,ch12,.inl ⟨trivial,rfl,by rw [List.append_nil];exact w12⟩⟩
  | false=>
  rw [wD hb] at x12;simp only [Bool.not_false,cond_true,Bool.false_eq_true,if_false,x12.readSt,fA,yC,eqI]
  -- is it too long?
  have hlong:∃ h21,(bif decide ((c:Int)=2000) then
    (lA (f56 N (some (P,0)) h12) fun (x17:zP) h18=>
    let x19:Bool:=!decide (x17.1=0)
    some ((some (P,0),deep,(⟨none,0,0,0⟩:SL),v,x19,()),h18))
    else
    some ((some (P,0),deep,(⟨none,0,0,0⟩:SL),v,false,()),h12))=some ((some (P,0),deep,(⟨none,0,0,0⟩:SL),v,decide (c=2000∧(tk T σ.1).1≠0),()),h21)∧Chg [] h12 h21:=by
   by_cases q:c=2000
   ·obtain ⟨h18,e18,c18⟩:=wM (N:=N) x12.pa
    have q':((c:Int)=2000):=by omega
    simp only [q',decide_true,cond_true];rw [e18,aA];refine ⟨h18,?_,c18⟩;simp only [kAi,q,true_and]
    by_cases q2:(tk T σ.1).1=0
    ·simp [q2]
    ·simp [q2]
   ·have q':¬ ((c:Int)=2000):=by omega
    simp only [q',decide_false,cond_false,q,false_and];exact ⟨h12,rfl,Chg.refl _ _⟩
  obtain ⟨h21,e21,c21⟩:=hlong;rw [e21,aA];have x21:=x12.chg c21;have w21:=w12.chg c21 (by simp);have ch21:=ch12.trans (c21.mono (N:=[P]) (by simp))
  by_cases q:c=2000∧(tk T σ.1).1≠0
  ·simp only [q,decide_true,cond_true,if_true,ne_eq,not_false_eq_true,and_self]
   obtain ⟨h23,e23,c23,x23⟩:=uAi (N:=N) x21 (c:=5) (by decide);rw [e23,aA];have q1:=q.1;subst q1;exact ⟨_,_,h23,rfl,x23,ch21.trans c23,.inr ⟨trivial,rfl,rfl⟩⟩
  ·rw [if_neg q]
   simp only [q,decide_false,cond_false,dA,Nat.zero_add,x21.readSt,fA,yC];rw [iB (by omega)];obtain ⟨h28,e28,c28,x28⟩:=x21.setSt ((c+1:Nat):Int);rw [e28,dA];have w28:=w21.chg c28 (by intro A hA;rw [List.mem_singleton] at hA;omega);have ch28:=ch21.trans c28;have hge:∀ A∈v.blk.toList,h0.next≤A∧A<h28.next:=fun A hA=>w28.ge A (by simpa using hA);obtain ⟨i,er⟩:=σ;simp only at hn;subst hn;have hke:KE T ((i,none),c+1):=by
    by_cases q1:c=2000
    ·refine .inr ⟨by show c+1≤2001;omega,?_⟩
     by_cases q2:(tk T i).1=0
     ·exact q2
     ·exact absurd ⟨q1,q2⟩ q
    ·exact .inl (.inl (by show c+1≤2000;omega))
   obtain ⟨r,h30,e30,x30,c30,d30⟩:=hG (v.blk.toList++X) h28 (i,none) (c+1) (x28.free fun A hA=>by
    rcases List.mem_append.1 hA with hA | hA
    ·have:=hge A hA;omega
    ·exact x28.pa.xl A hA) hke
   rw [e30,aA];have hk1:=hO ((i,none),c+1) hke;have w30:=w28.chg c30 (by intro A hA;rw [List.mem_singleton] at hA;omega);have ch30:=ch28.trans c30;have hn28:=ch28.next;obtain ⟨v',h33,eK,w33,c33,hb33⟩:=oAr nBa (by decide) ch30 w30 (d30.weak (W:=fun C=>h0.next≤C∧v.blk≠some C) fun C hC _=>⟨by omega,fun e=>by have:=hge C (by simpa using e);omega⟩) rfl (by
    have:(xs.length+1) * 10000≤2001 * 10000:=Nat.mul_le_mul_right _ (by omega)
    omega)
   have x33:=(x30.chgM c33 (fun A hA=>List.mem_append_left _ hA)).sub (X':=X) (fun A hA=>List.mem_append_right _ hA);have ch33:=ch30.step c33 (fun A hA hl=>by have:=hge A hA;omega);generalize one ((i,none),c+1)=z at *
   have:=ih M h33 z.2.1 z.2.2 v' (xs++[z.1]) (by omega) (by have:c+1≤z.2.2:=hk1.2;omega) (by simp;have:c+1≤z.2.2:=hk1.2;omega) hk1.1 x33 ch33 w33
   rw [List.append_assoc] at this;obtain ⟨o,rr,h',e',x',c',hres⟩:=this;exact ⟨o,rr,h',(eK _).trans e',x',c',hres⟩
end
end Qp
namespace Qp
theorem jO (T:List Tok) (k:Int) (σ:St):(iF T k σ).2.isSome=true:=by
 obtain ⟨i,e⟩:=σ;cases e <;> rfl
theorem kAw {T:List Tok} {w:Bs} {σ:St} (h:σ.2.isSome=true):gD T w σ=σ:=by
 obtain ⟨i,e,rfl⟩:=rP h;exact gH T i e w
section
variable {N:Nat} {T:List Tok} {P:Nat} {X:List Nat} {h:Heap} {σ:St} {st:Int}
theorem lAw (hT:Toks T) (hN:3000≤N):∀ (g M:Nat),g≤64→2 * g+1≤M→mBa N T P (f158 N M) (yE T g) ((65-g:Nat):Int):=by
 intro g
 induction g with
 | zero=>
  intro M hg hM X h σ c x hk;obtain ⟨M,rfl⟩:∃ m,M=m+1:=⟨M-1,by omega⟩;rw [qAb];unfold qAi;simp only [show qB 64 ((65-0:Nat):Int)=true from rfl,cond_true];obtain ⟨h3,e3,c3,x3⟩:=uAi (N:=N) x (c:=6) (by decide);rw [e3,aA,aA];dsimp only;obtain ⟨h7,e7,c7,x7⟩:=tF (N:=N) hT x3 (w:=[123]) (by decide);rw [e7,aA];have hs:=jO T 6 σ;rw [kAw hs] at x7;obtain ⟨n,hn⟩:∃ n,N=n+1:=⟨N-1,by omega⟩;have hl:∀ (F G) (M:Nat),pA1 N F G (M+1) (some (P,0)) ((65-0:Nat):Int) ⟨none,0,0,0⟩ ⟨none,0,0,0⟩ h7=some (.exit 0,(⟨none,0,0,0⟩,⟨none,0,0,0⟩,()),h7):=by
   intro F G M;rw [fO];unfold bO;obtain ⟨e,k3,hv⟩:=x7.pa.readE;have hs':(iF T 6 σ).2.isNone=false:=by cases hh:(iF T 6 σ).2 <;> simp_all
   simp only [dA,Nat.zero_add,k3,fA,aE,hv.eq 15,wB,hs',cond_false]
  have hl':=hl (f158 N M) (f190 N M) n;rw [← hn] at hl';rw [hl'];simp only [pB];exact ⟨sl0,h7,rfl,x7,c3.trans c7,Sl.nil _ _ _⟩
 | succ g ih=>
  intro M hg hM X h σ c x hk;obtain ⟨M,rfl⟩:∃ m,M=m+2:=⟨M-2,by omega⟩;rw [qAb];unfold qAi;have hlt:qB 64 ((65-(g+1):Nat):Int)=false:=by rw [ltI];exact decide_eq_false (by omega)
  simp only [hlt,cond_false,aA];obtain ⟨h7,e7,c7,x7⟩:=tF (N:=N) hT x (w:=[123]) (by decide);rw [e7,aA];have hB:=ih M (by omega) (by omega);have hd:65-g=(65-(g+1))+1:=by omega
  rw [hd] at hB;have hone:oBa T P (f190 N (M+1)) (nM T (yE T g)) ((65-(g+1):Nat):Int):=by
   intro X h σ c x hk;rw [mAr];exact nB3 hT (by omega) (by omega) hB (fun s hs=>(rA7 g s hs).1) x hk
  have hk7:KS (gD T [123] σ,c):=hk.err (fun i e h=>by rw [h,gH]);obtain ⟨o,r,h',e',x',c',hres⟩:=yAl (N:=N) hT (F:=f158 N (M+1)) hone (fun s hs=>fAs (rA7 g) (σ:=s.1) (c:=s.2) hs) (h0:=h7) (v4:=sl0) x7.P_lt 2001 N h7 _ c sl0 [] (by omega) (by omega) (by simp) hk7 x7 (Chg.refl _ _) (Ow.nil _ _ _ _);rw [e'];simp only [pB,yE];have hn7:=c7.next;rcases hres with ⟨e1,rfl,w⟩ | ⟨e1,rfl,e2⟩
  ·rw [e1]
   rw [List.nil_append] at w;exact ⟨_,h',rfl,x',c7.trans c',w.sl.weak fun C hC _=>by omega⟩
  ·rw [e1]
   exact ⟨_,h',rfl,x',c7.trans c',by rw [e2];exact Sl.nil _ _ _⟩
end
structure FuR where
 pub:Bool
 nm:Bs
 lv:SL
 ps:SL
 ty:TyV
 bd:SL
 at_:Int
structure FuT where
 lv:List D
 ps:List D
 ty:D
 bd:List D
abbrev FuV:=Bool×zV2×SL×SL×Int×zV2×SL×SL×SL×Int×Unit
def fux (x:FuV):List AV:=[.bool x.1,.str x.2.1,.slice x.2.2.1.a x.2.2.1.len x.2.2.1.cap x.2.2.1.sz,.slice x.2.2.2.1.a x.2.2.2.1.len x.2.2.2.1.cap x.2.2.2.1.sz,.int .i64 x.2.2.2.2.1,.str x.2.2.2.2.2.1,.slice x.2.2.2.2.2.2.1.a x.2.2.2.2.2.2.1.len x.2.2.2.2.2.2.1.cap x.2.2.2.2.2.2.1.sz,.slice x.2.2.2.2.2.2.2.1.a x.2.2.2.2.2.2.2.1.len x.2.2.2.2.2.2.2.1.cap x.2.2.2.2.2.2.2.1.sz,.slice x.2.2.2.2.2.2.2.2.1.a x.2.2.2.2.2.2.2.2.1.len x.2.2.2.2.2.2.2.2.1.cap x.2.2.2.2.2.2.2.2.1.sz,.int .i64 x.2.2.2.2.2.2.2.2.2.1]
def fuv (r:FuR):FuV:=(r.pub,r.nm,r.lv,r.ps,r.ty.1,r.ty.2.1,r.ty.2.2.1,r.ty.2.2.2.1,r.bd,r.at_,())
def fuc (r:FuR):List AV:=fux (fuv r)
def fuD (r:FuR) (d:FuT):D:=.t [.b r.pub,.s r.nm,.l d.lv,.l d.ps,d.ty,.l d.bd,.i r.at_]
def fJ (pub:Bool) (nm:Bs) (at_:Int):FuR:=⟨pub,nm,sl0,sl0,cBg,sl0,at_⟩
def eB6:FuT:=⟨[],[],ty0D,[]⟩
theorem fBg {β:Type} (r:FuV) (K:FuV→Option β):iA (.val zD) (some (.agg (fux r))) K=K r:=by
 obtain ⟨x1,x2,x3,x4,x5,x6,x7,x8,x9,x10,_⟩:=r;simp [fux]
theorem dAj {H:Heap} {A:Nat} {r:FuV} (o:H.own A (fux r)) {β:Type} (K:FuV→Option β):iA (.val zD) (H.cells (A,0) 10) K=K r:=by
 have:H.cells (A,0) 10=some (.agg (fux r)):=o.cells (j:=0) (m:=10) (Nat.le_refl _)
 rw [this,fBg]
theorem vBi {H:Heap} {A:Nat} {r0:FuV} (o:H.own A (fux r0)) (x:FuV) {β:Type} (K:FuV→Heap→Option β) :
  (rA (H.store (A,0) [.bool x.1,.str x.2.1,.slice x.2.2.1.a x.2.2.1.len x.2.2.1.cap x.2.2.1.sz,.slice x.2.2.2.1.a x.2.2.2.1.len x.2.2.2.1.cap x.2.2.2.1.sz,.int .i64 x.2.2.2.2.1,.str x.2.2.2.2.2.1,.slice x.2.2.2.2.2.2.1.a x.2.2.2.2.2.2.1.len x.2.2.2.2.2.2.1.cap x.2.2.2.2.2.2.1.sz,.slice x.2.2.2.2.2.2.2.1.a x.2.2.2.2.2.2.2.1.len x.2.2.2.2.2.2.2.1.cap x.2.2.2.2.2.2.2.1.sz,.slice x.2.2.2.2.2.2.2.2.1.a x.2.2.2.2.2.2.2.2.1.len x.2.2.2.2.2.2.2.2.1.cap x.2.2.2.2.2.2.2.2.1.sz,.int .i64 x.2.2.2.2.2.2.2.2.2.1]) fun h7=>iA (.val zD) (h7.cells (A,0) 10) fun x8=>K x8 h7)=K x (H.put A (.row (fux x) .own)):=by
 have:H.store (A,0) (fux x)=some (H.put A (.row (fux x) .own)):=o.store rfl
 show (rA (H.store (A,0) (fux x)) _)=_;rw [this,dA,dAj (yA o _)]
structure FI (T:List Tok) (P:Nat) (X:List Nat) (hb:Heap) (Q R O:Nat) (r:FuR) (d:FuT) (h:Heap) (σ:St) (st:Int):Prop where
 pc:PC T P (O::R::X) h σ st
 chg:Chg [P] hb h
 oQ:h.own Q [.ptr (some (P,0))]
 oR:h.own R (fuc (fJ false [] 0))
 oO:h.own O (fuc r)
 le:hb.next≤Q∧Q<R∧R<O∧P<hb.next
 dlv:Sl h (fun C=>O<C) r.lv d.lv
 dps:Sl h (fun C=>O<C) r.ps d.ps
 dty:Dt h (fun C=>O<C) d.ty (tyc r.ty)
 dbd:Sl h (fun C=>O<C) r.bd d.bd
section
variable {T:List Tok} {P:Nat} {X:List Nat} {st st':Int} {hb h h':Heap} {Q R O:Nat} {r r':FuR} {d d':FuT} {σ σ':St}
theorem FI.dt (x:FI T P X hb Q R O r d h σ st):Dt h (fun C=>O<C) (fuD r d) (fuc r):=
 pAu (wC (a:=[_]) (fAz h _ r.pub) (wC (a:=[_]) (qJ h _ r.nm) (wC (a:=[_]) (qL.2 x.dlv) (wC (a:=[_]) (qL.2 x.dps) (wC (a:=tyc r.ty) x.dty (wC (a:=[_]) (qL.2 x.dbd) (wC (a:=[_]) (b:=[]) (wAi h _ r.at_) (aX h _))))))))
theorem FI.old (x:FI T P X hb Q R O r d h σ st) (c:Chg [P,O] h h'):Chg [P] hb h'∧h'.own Q [.ptr (some (P,0))]∧h'.own R (fuc (fJ false [] 0))∧Sl h' (fun C=>O<C) r.lv d.lv∧Sl h' (fun C=>O<C) r.ps d.ps∧Dt h' (fun C=>O<C) d.ty (tyc r.ty)∧Sl h' (fun C=>O<C) r.bd d.bd:=by
 obtain ⟨x1,x2,x3,x4,x5,x6,x7,x8,x9,x10⟩:=x;have hM:∀ A,O<A→A ∉ [P,O]:=fun C hC=>by simp;omega
 exact ⟨x2.step c (fun A hA hl=>by simp only [List.mem_cons,List.not_mem_nil,or_false] at hA ⊢;omega),x3.chg c (by simp;omega),x4.chg c (by simp;omega),x7.chg c hM,x8.chg c hM,x9.chg c hM,x10.chg c hM⟩
theorem FI.step (x:FI T P X hb Q R O r d h σ st) (c:Chg [P] h h') (y:PC T P (O::R::X) h' σ' st'):FI T P X hb Q R O r d h' σ' st':=by
 have hle:=x.le;obtain ⟨g1,g2,g3,g4,g5,g6,g7⟩:=x.old (c.mono (by simp));exact ⟨y,g1,g2,g3,x.oO.chg c (by simp;omega),x.le,g4,g5,g6,g7⟩
theorem FI.lt (x:FI T P X hb Q R O r d h σ st):O<h.next:=x.oO.2
end
def wI (T:List Tok) (pub:Bool) (at_:Int) (σ:St):D×SC:=
 let n:=iC T 1 σ
 let a:=kB T [60] n.2
 let l:=if a.1=true then ((bE T (wX T) [44] a.2).1,gD T [62] (bE T (wX T) [44] a.2).2) else ([],a.2)
 let b:=kB T [41] (gD T [40] l.2)
 let p:=if b.1=true then ([],b.2) else ((bE T (uF T) [44] b.2).1,gD T [41] (bE T (uF T) [44] b.2).2)
 let c:=kB T [45,62] p.2
 let t:=if c.1=true then yL T 64 c.2 else (ty0D,c.2)
 let k:=yE T 64 (t.2,0)
 (fuD (fJ pub n.1 at_) ⟨l.1,p.1,t.1,k.1⟩,k.2)
theorem fu2 (r:FuR) (v:SL):(fuc { r with lv:=v })[2]? = some (SL.av v):=by simp [fuc,fux,fuv,SL.av]
theorem fs2 (r:FuR) (v v':SL):(fuc { r with lv:=v }).set 2 (SL.av v')=fuc { r with lv:=v' }:=by simp [fuc,fux,fuv,SL.av]
theorem fu3 (r:FuR) (v:SL):(fuc { r with ps:=v })[3]? = some (SL.av v):=by simp [fuc,fux,fuv,SL.av]
theorem fs3 (r:FuR) (v v':SL):(fuc { r with ps:=v }).set 3 (SL.av v')=fuc { r with ps:=v' }:=by simp [fuc,fux,fuv,SL.av]
end Qp
end Go.Proofs.YtkcjphhjmlienaaGreatDoor
