import Derived.Test.YtkcjphhjmlienaaGreatDoorXQp1
import Derived.Test.YtkcjphhjmlienaaGreatDoorProg
import Derived.Test.YtkcjphhjmlienaaGreatDoorAi3
/- Functions of the program as plain functions, and what they come to; part 2. -/
set_option linter.unusedVariables false
set_option linter.unusedSimpArgs false
set_option maxRecDepth 100000
set_option linter.unusedVariables false
open Go Go.Proofs.YtkcjphhjmlienaaGreatDoor.Ai Go.Proofs
namespace Go.Proofs.YtkcjphhjmlienaaGreatDoor.Qp
noncomputable def f154 (N:Nat) (a0:Option (Nat×Nat)) (h:Heap):Option ((Bool×List UInt8×Int×List UInt8×SL×SL×Unit)×Heap):=
 let h1:Heap:=h.push (.row [(.bool false),(.str []),(.int .i64 0),(.str []),(.slice none 0 0 0),(.slice none 0 0 0)] .own)
 (bind2 (f94 N a0 1 h1) fun (x2:List UInt8) h3=>
 let h4:Heap:=h3.push (.row [(.bool false),(.str []),(.int .i64 0),(.str []),(.slice none 0 0 0),(.slice none 0 0 0)] .own)
 (need (h4.store (h3.next,0) [(.bool false),(.str x2),(.int .i64 0),(.str []),(.slice none 0 0 0),(.slice none 0 0 0)]) fun h5=>
 (bind2 (f149 N a0 [58] h5) fun (x6:(Unit)) h7=>
 (bind2 (f55 N N a0 1 h7) fun (x8:(Int×List UInt8×SL×SL×Unit)) h9=>
 (need (h9.store ((h3.next,0).1,(h3.next,0).2+2) [(.int .i64 x8.1),(.str x8.2.1),(.slice x8.2.2.1.a x8.2.2.1.len x8.2.2.1.cap x8.2.2.1.sz),(.slice x8.2.2.2.1.a x8.2.2.2.1.len x8.2.2.2.1.cap x8.2.2.2.1.sz)]) fun h10=>
 (bindV (.val (.agg [.bool,.str,(.int .i64),.str,.slice,.slice])) (h10.cells (h3.next,0) 6) fun (x11:(Bool×List UInt8×Int×List UInt8×SL×SL×Unit))=>
 (need (h10.store (h.next,0) [(.bool x11.1),(.str x11.2.1),(.int .i64 x11.2.2.1),(.str x11.2.2.2.1),(.slice x11.2.2.2.2.1.a x11.2.2.2.2.1.len x11.2.2.2.2.1.cap x11.2.2.2.2.1.sz),(.slice x11.2.2.2.2.2.1.a x11.2.2.2.2.2.1.len x11.2.2.2.2.2.1.cap x11.2.2.2.2.2.1.sz)]) fun h12=>
 (bindV (.val (.agg [.bool,.str,(.int .i64),.str,.slice,.slice])) (h12.cells (h.next,0) 6) fun (x13:(Bool×List UInt8×Int×List UInt8×SL×SL×Unit))=>
 some ((x13.1,x13.2.1,x13.2.2.1,x13.2.2.2.1,x13.2.2.2.2.1,x13.2.2.2.2.2.1,()),h12)))))))))
noncomputable def ann154:Ann:=.n
theorem f154_ok (N:Nat):FnOK Tryz.prog 154 [(.one .ptr)] (.val (.agg [.bool,.str,(.int .i64),.str,.slice,.slice])) (fun x h=>f154 N x.1 h):=
 runK_ok envOK hmix (addCall_ok (f94_ok N) (addCall_ok (f55_ok N) (addCall_ok (f149_ok N) noCalls_ok))) (N:=N) (x:=ann154) (fn:=Tryz.f154) (c:=Tryz.f154.body.getD .skip) (by kernel_rfl) (by kernel_rfl) (by kernel_rfl) (by kernel_rfl) (fun _ _=>by kernel_rfl)
noncomputable def f153 (N:Nat) (a0:Option (Nat×Nat)) (a1:Option (Nat×Nat)) (h:Heap):Option ((Unit)×Heap):=
 (need a0 fun q1=>
 (bindV (.val (.one .slice)) (h.cell (q1.1,q1.2+3)) fun (x2:SL)=>
 (need a1 fun q3=>
 (bindV (.val (.one .ptr)) (h.cell q3) fun (x4:Option (Nat×Nat))=>
 (bind2 (f154 N x4 h) fun (x5:(Bool×List UInt8×Int×List UInt8×SL×SL×Unit)) h6=>
 let h7:Heap:=h6.push (.row [(.bool x5.1),(.str x5.2.1),(.int .i64 x5.2.2.1),(.str x5.2.2.2.1),(.slice x5.2.2.2.2.1.a x5.2.2.2.2.1.len x5.2.2.2.2.1.cap x5.2.2.2.2.1.sz),(.slice x5.2.2.2.2.2.1.a x5.2.2.2.2.2.1.len x5.2.2.2.2.2.1.cap x5.2.2.2.2.2.1.sz)] .own)
 (bindT (.val (.one .slice)) (appendA E 37 37 (.slice x2.a x2.len x2.cap x2.sz) (.slice (some (h6.next,0)) 1 1 6) h7) fun (x8:SL) h9=>
 (need a0 fun q10=>
 (need (h9.store (q10.1,q10.2+3) [(.slice x8.a x8.len x8.cap x8.sz)]) fun h11=>
 (guardB (bif (needB a1 fun q=>sameO (h.cell q) (.ptr x4)) then (bif (sameO (h7.cell (q1.1,q1.2+3)) (.slice x2.a x2.len x2.cap x2.sz)) then (bif (sameO (h6.cell (q1.1,q1.2+3)) (.slice x2.a x2.len x2.cap x2.sz)) then (bif (sameO (h.cell (q1.1,q1.2+3)) (.slice x2.a x2.len x2.cap x2.sz)) then true else false) else false) else false) else false) (
 some ((()),h11)))))))))))
noncomputable def ann153:Ann:=.n
theorem f153_ok (N:Nat):FnOK Tryz.prog 153 [(.one .ptr),(.one .ptr)] (.tup []) (fun x h=>f153 N x.1 x.2.1 h):=
 runK_ok envOK hmix (addCall_ok (f154_ok N) noCalls_ok) (N:=N) (x:=ann153) (fn:=Tryz.f153) (c:=Tryz.f153.body.getD .skip) (by kernel_rfl) (by kernel_rfl) (by kernel_rfl) (by kernel_rfl) (fun _ _=>by kernel_rfl)
noncomputable def f147c153_l1_b (N:Nat) (go:Option (Nat×Nat)→List UInt8→(Option (Nat×Nat)×Option (Nat×Nat)×Unit)→Int→Heap→Option (Out×(Unit)×Heap)) (v0:Option (Nat×Nat)) (v1:List UInt8) (v2:(Option (Nat×Nat)×Option (Nat×Nat)×Unit)) (v6:Int) (h:Heap):Option (Out×(Unit)×Heap):=
 (bind2 (f188 N v0 v6 h) fun (x1:Bool) h2=>
 (bif x1 then
  (bind2 (f153 N v2.1 v2.2.1 h2) fun (x3:(Unit)) h4=>
  (bind2 (f93 N v0 v1 h4) fun (x5:Bool) h6=>
  let x7:Bool:=!x5
  (bif x7 then
  some (Out.ret,(()),h6)
  else
  let x8:Int:=wrapA .i64 (v6+1)
  go v0 v1 (v2.1,v2.2.1,()) x8 h6)))
 else
  some ((Out.exit 0),(()),h2)))
noncomputable def f147c153_l1 (N:Nat) (M:Nat) (v0:Option (Nat×Nat)) (v1:List UInt8) (v2:(Option (Nat×Nat)×Option (Nat×Nat)×Unit)) (v6:Int) (h:Heap):Option (Out×(Unit)×Heap):=iter (fun go s h=>f147c153_l1_b N (fun v0 v1 v2 v6 h=>go (v0,v1,v2,v6,()) h) s.1 s.2.1 s.2.2.1 s.2.2.2.1 h) M (v0,v1,v2,v6,()) h
theorem f147c153_l1_succ (N:Nat) (M:Nat) (v0:Option (Nat×Nat)) (v1:List UInt8) (v2:(Option (Nat×Nat)×Option (Nat×Nat)×Unit)) (v6:Int) (h:Heap):f147c153_l1 N (M+1) v0 v1 v2 v6 h=f147c153_l1_b N (f147c153_l1 N M) v0 v1 v2 v6 h:=rfl
noncomputable def f147c153 (N:Nat) (a0:Option (Nat×Nat)) (a1:List UInt8) (a2:(Option (Nat×Nat)×Option (Nat×Nat)×Unit)) (h:Heap):Option ((Unit)×Heap):=
 (bind3 (f147c153_l1 N N a0 a1 (a2.1,a2.2.1,()) 0 h) fun o9 (j10:(Unit)) h11=>
 (bif eqOut o9 (.exit 0) then
  some ((()),h11)
 else
  some ((()),h11)))
noncomputable def ann147c153:Ann:=(.two .n (.two (.loop [(0,(.one .ptr)),(1,(.one .str)),(2,(.clo 153 [.ptr,.ptr])),(6,(.one (.int .i64)))] [(.exit 0),.ret] [] .n) .n))
theorem f147c153_ok (N:Nat):FnOK Tryz.prog 147 [(.one .ptr),(.one .str),(.clo 153 [.ptr,.ptr])] (.tup []) (fun x h=>f147c153 N x.1 x.2.1 x.2.2.1 h):=
 runK_ok envOK hmix (addCall_ok (f93_ok N) (addCall_ok (f188_ok N) (addCall_ok (f153_ok N) noCalls_ok))) (N:=N) (x:=ann147c153) (fn:=Tryz.f147) (c:=Tryz.f147.body.getD .skip) (by kernel_rfl) (by kernel_rfl) (by kernel_rfl) (by kernel_rfl) (fun _ _=>by kernel_rfl)
noncomputable def f102 (N:Nat) (a0:Option (Nat×Nat)) (a1:Bool) (a2:Int) (h:Heap):Option ((Bool×List UInt8×SL×SL×Int×Unit)×Heap):=
 let h1:Heap:=h.push (.row [(.ptr a0)] .own)
 let h2:Heap:=h1.push (.row [(.bool false),(.str []),(.slice none 0 0 0),(.slice none 0 0 0),(.int .i64 0)] .own)
 (bindV (.val (.one .ptr)) (h2.cell (h.next,0)) fun (x3:Option (Nat×Nat))=>
 (bind2 (f94 N x3 1 h2) fun (x4:List UInt8) h5=>
 let h6:Heap:=h5.push (.row [(.bool false),(.str []),(.slice none 0 0 0),(.slice none 0 0 0),(.int .i64 0)] .own)
 (need (h6.store (h5.next,0) [(.bool a1),(.str x4),(.slice none 0 0 0),(.slice none 0 0 0),(.int .i64 a2)]) fun h7=>
 (bindV (.val (.one .ptr)) (h7.cell (h.next,0)) fun (x8:Option (Nat×Nat))=>
 (bind2 (f96 N x8 h7) fun (x9:SL) h10=>
 (need (h10.store ((h5.next,0).1,(h5.next,0).2+2) [(.slice x9.a x9.len x9.cap x9.sz)]) fun h11=>
 (bindV (.val (.one .ptr)) (h11.cell (h.next,0)) fun (x12:Option (Nat×Nat))=>
 (bind2 (f149 N x12 [123] h11) fun (x13:(Unit)) h14=>
 (bindV (.val (.one .ptr)) (h14.cell (h.next,0)) fun (x15:Option (Nat×Nat))=>
 (bind2 (f93 N x15 [125] h14) fun (x16:Bool) h17=>
 let x18:Bool:=!x16
 (bif x18 then
  (bindV (.val (.one .ptr)) (h17.cell (h.next,0)) fun (x19:Option (Nat×Nat))=>
  (bind2 (f147c153 N x19 [44] ((some (h5.next,0)),(some (h.next,0)),()) h17) fun (x20:(Unit)) h21=>
  (bindV (.val (.one .ptr)) (h21.cell (h.next,0)) fun (x22:Option (Nat×Nat))=>
  (bind2 (f149 N x22 [125] h21) fun (x23:(Unit)) h24=>
  (bindV (.val (.agg [.bool,.str,.slice,.slice,(.int .i64)])) (h24.cells (h5.next,0) 5) fun (x25:(Bool×List UInt8×SL×SL×Int×Unit))=>
  (need (h24.store (h1.next,0) [(.bool x25.1),(.str x25.2.1),(.slice x25.2.2.1.a x25.2.2.1.len x25.2.2.1.cap x25.2.2.1.sz),(.slice x25.2.2.2.1.a x25.2.2.2.1.len x25.2.2.2.1.cap x25.2.2.2.1.sz),(.int .i64 x25.2.2.2.2.1)]) fun h26=>
  (bindV (.val (.agg [.bool,.str,.slice,.slice,(.int .i64)])) (h26.cells (h1.next,0) 5) fun (x27:(Bool×List UInt8×SL×SL×Int×Unit))=>
  some ((x27.1,x27.2.1,x27.2.2.1,x27.2.2.2.1,x27.2.2.2.2.1,()),h26))))))))
 else
  (bindV (.val (.agg [.bool,.str,.slice,.slice,(.int .i64)])) (h17.cells (h5.next,0) 5) fun (x28:(Bool×List UInt8×SL×SL×Int×Unit))=>
  (need (h17.store (h1.next,0) [(.bool x28.1),(.str x28.2.1),(.slice x28.2.2.1.a x28.2.2.1.len x28.2.2.1.cap x28.2.2.1.sz),(.slice x28.2.2.2.1.a x28.2.2.2.1.len x28.2.2.2.1.cap x28.2.2.2.1.sz),(.int .i64 x28.2.2.2.2.1)]) fun h29=>
  (bindV (.val (.agg [.bool,.str,.slice,.slice,(.int .i64)])) (h29.cells (h1.next,0) 5) fun (x30:(Bool×List UInt8×SL×SL×Int×Unit))=>
  some ((x30.1,x30.2.1,x30.2.2.1,x30.2.2.2.1,x30.2.2.2.2.1,()),h29)))))))))))))))
noncomputable def ann102:Ann:=.n
theorem f102_ok (N:Nat):FnOK Tryz.prog 102 [(.one .ptr),(.one .bool),(.one (.int .i64))] (.val (.agg [.bool,.str,.slice,.slice,(.int .i64)])) (fun x h=>f102 N x.1 x.2.1 x.2.2.1 h):=
 runK_ok envOK hmix (addCall_ok (f96_ok N) (addCall_ok (f94_ok N) (addCall_ok (f93_ok N) (addCall_ok (f149_ok N) (addCallS_ok (sel:=fun a=>isClo 2 153 a) (f147c153_ok N) noCalls_ok))))) (N:=N) (x:=ann102) (fn:=Tryz.f102) (c:=Tryz.f102.body.getD .skip) (by kernel_rfl) (by kernel_rfl) (by kernel_rfl) (by kernel_rfl) (fun _ _=>by kernel_rfl)
noncomputable def f192 (N:Nat) (a0:AV) (a1:AV) (h:Heap):Option (Bool×Heap):=Qz.asF a0 a1 h
theorem f192_ok (N:Nat):FnOK Tryz.prog 192 [(.one .any),(.one .any)] (.val (.one .bool)) (fun x h=>f192 N x.1 x.2.1 h):=Qz.f192_ok N
noncomputable def f191 (N:Nat) (a0:AV) (h:Heap):Option (Option (Nat×Nat)×Heap):=
 let h1:Heap:=h.push (.row [(.ptr none)] .own)
 (bindV (.val (.one .bool)) (binA E .neq 29 (.tmp 4) (.const .nilIface) a0 AV.nilIface) fun (x2:Bool)=>
 (bif x2 then
  (bind2 (f192 N a0 (AV.iface 214 (.ptr (some (h.next,0)))) h1) fun (x3:Bool) h4=>
  (bif x3 then
  (bindV (.val (.one .ptr)) (h4.cell (h.next,0)) fun (x5:Option (Nat×Nat))=>
  some (x5,h4))
  else
  some (none,h4)))
 else
  some (none,h1)))
noncomputable def ann191:Ann:=.n
theorem f191_ok (N:Nat):FnOK Tryz.prog 191 [(.one .any)] (.val (.one .ptr)) (fun x h=>f191 N x.1 h):=
 runK_ok envOK hmix (addCall_ok (f192_ok N) noCalls_ok) (N:=N) (x:=ann191) (fn:=Tryz.f191) (c:=Tryz.f191.body.getD .skip) (by kernel_rfl) (by kernel_rfl) (by kernel_rfl) (by kernel_rfl) (fun _ _=>by kernel_rfl)
noncomputable def f159 (N:Nat) (a0:AV) (h:Heap):Option (Int×Heap):=
 (bindV (.val (.one .bool)) (binA E .eql 29 (.tmp 5) (.const .nilIface) a0 AV.nilIface) fun (x1:Bool)=>
 (bif x1 then
  some (0,h)
 else
  (bind2 (f191 N a0 h) fun (x2:Option (Nat×Nat)) h3=>
  let x4:Bool:=(!x2.isNone)
  (bif x4 then
  (need x2 fun q5=>
  (bindV (.val (.one (.int .i64))) (h3.cell (q5.1,q5.2+0)) fun (x6:Int)=>
  some (x6,h3)))
  else
  let h7:Heap:=h3.push (.row [(.int .i64 0)] .own)
  (bind2 (f192 N a0 (AV.iface 199 (.ptr (some (h3.next,0)))) h7) fun (x8:Bool) h9=>
  (bif x8 then
   (bindV (.val (.one (.int .i64))) (h9.cell (h3.next,0)) fun (x10:Int)=>
   some (x10,h9))
  else
   some (1,h9)))))))
noncomputable def ann159:Ann:=.n
theorem f159_ok (N:Nat):FnOK Tryz.prog 159 [(.one .any)] (.val (.one (.int .i64))) (fun x h=>f159 N x.1 h):=
 runK_ok envOK hmix (addCall_ok (f192_ok N) (addCall_ok (f191_ok N) noCalls_ok)) (N:=N) (x:=ann159) (fn:=Tryz.f159) (c:=Tryz.f159.body.getD .skip) (by kernel_rfl) (by kernel_rfl) (by kernel_rfl) (by kernel_rfl) (fun _ _=>by kernel_rfl)
noncomputable def ann104:Ann:=.n
noncomputable def f104 (N:Nat) (a0:AV) (a1:Int) (h:Heap):Option (AV×Heap):=runK E (addCall 159 [(.one .any)] (.val (.one (.int .i64))) (fun x h=>f159 N x.1 h) noCalls) N ann104 Tryz.f104 (Tryz.f104.body.getD .skip) (.val (.one .any)) [a0,.int .i64 a1] h
theorem f104_ok (N:Nat):FnOK Tryz.prog 104 [(.one .any),(.one (.int .i64))] (.val (.one .any)) (fun x h=>f104 N x.1 x.2.1 h):=
 runK_ok envOK hmix (addCall_ok (f159_ok N) noCalls_ok) (N:=N) (x:=ann104) (fn:=Tryz.f104) (c:=Tryz.f104.body.getD .skip) (by kernel_rfl) (by kernel_rfl) (by kernel_rfl) (by kernel_rfl) (fun _ _=>rfl)
theorem f104_nil (N:Nat) (a1:Int) (h:Heap):f104 N AV.nilIface a1 h=some (AV.nilIface,h):=by kernel_rfl
theorem f104_fault (N:Nat) (p:Option (Nat×Nat)) (a1:Int) (h:Heap):f104 N (AV.iface 127 (.ptr p)) a1 h=(bind2 (f159 N (AV.iface 127 (.ptr p)) h) fun (x2:Int) h3=>
  let h4:Heap:=h3.push (.row [(.int .i64 x2),(.int .i64 a1),(AV.iface 127 (.ptr p))] .own)
  some ((AV.iface 127 (.ptr (some (h3.next,0)))),h4)):=by kernel_rfl
noncomputable def f189 (N:Nat) (a0:Option (Nat×Nat)) (a1:Option (Nat×Nat)) (h:Heap):Option ((Unit)×Heap):=
 (need a0 fun q1=>
 (bindV (.val (.one .slice)) (h.cell (q1.1,q1.2+1)) fun (x2:SL)=>
 (need a1 fun q3=>
 (bindV (.val (.one .ptr)) (h.cell q3) fun (x4:Option (Nat×Nat))=>
 (bind2 (f94 N x4 3 h) fun (x5:List UInt8) h6=>
 let h7:Heap:=h6.push (.row [(.str x5)] .own)
 (bindT (.val (.one .slice)) (appendA E 38 38 (.slice x2.a x2.len x2.cap x2.sz) (.slice (some (h6.next,0)) 1 1 1) h7) fun (x8:SL) h9=>
 (need a0 fun q10=>
 (need (h9.store (q10.1,q10.2+1) [(.slice x8.a x8.len x8.cap x8.sz)]) fun h11=>
 (guardB (bif (needB a1 fun q=>sameO (h.cell q) (.ptr x4)) then (bif (sameO (h7.cell (q1.1,q1.2+1)) (.slice x2.a x2.len x2.cap x2.sz)) then (bif (sameO (h6.cell (q1.1,q1.2+1)) (.slice x2.a x2.len x2.cap x2.sz)) then (bif (sameO (h.cell (q1.1,q1.2+1)) (.slice x2.a x2.len x2.cap x2.sz)) then true else false) else false) else false) else false) (
 some ((()),h11)))))))))))
noncomputable def ann189:Ann:=.n
theorem f189_ok (N:Nat):FnOK Tryz.prog 189 [(.one .ptr),(.one .ptr)] (.tup []) (fun x h=>f189 N x.1 x.2.1 h):=
 runK_ok envOK hmix (addCall_ok (f94_ok N) noCalls_ok) (N:=N) (x:=ann189) (fn:=Tryz.f189) (c:=Tryz.f189.body.getD .skip) (by kernel_rfl) (by kernel_rfl) (by kernel_rfl) (by kernel_rfl) (fun _ _=>by kernel_rfl)
noncomputable def f147c189_l1_b (N:Nat) (go:Option (Nat×Nat)→List UInt8→(Option (Nat×Nat)×Option (Nat×Nat)×Unit)→Int→Heap→Option (Out×(Unit)×Heap)) (v0:Option (Nat×Nat)) (v1:List UInt8) (v2:(Option (Nat×Nat)×Option (Nat×Nat)×Unit)) (v6:Int) (h:Heap):Option (Out×(Unit)×Heap):=
 (bind2 (f188 N v0 v6 h) fun (x1:Bool) h2=>
 (bif x1 then
  (bind2 (f189 N v2.1 v2.2.1 h2) fun (x3:(Unit)) h4=>
  (bind2 (f93 N v0 v1 h4) fun (x5:Bool) h6=>
  let x7:Bool:=!x5
  (bif x7 then
  some (Out.ret,(()),h6)
  else
  let x8:Int:=wrapA .i64 (v6+1)
  go v0 v1 (v2.1,v2.2.1,()) x8 h6)))
 else
  some ((Out.exit 0),(()),h2)))
noncomputable def f147c189_l1 (N:Nat) (M:Nat) (v0:Option (Nat×Nat)) (v1:List UInt8) (v2:(Option (Nat×Nat)×Option (Nat×Nat)×Unit)) (v6:Int) (h:Heap):Option (Out×(Unit)×Heap):=iter (fun go s h=>f147c189_l1_b N (fun v0 v1 v2 v6 h=>go (v0,v1,v2,v6,()) h) s.1 s.2.1 s.2.2.1 s.2.2.2.1 h) M (v0,v1,v2,v6,()) h
theorem f147c189_l1_succ (N:Nat) (M:Nat) (v0:Option (Nat×Nat)) (v1:List UInt8) (v2:(Option (Nat×Nat)×Option (Nat×Nat)×Unit)) (v6:Int) (h:Heap):f147c189_l1 N (M+1) v0 v1 v2 v6 h=f147c189_l1_b N (f147c189_l1 N M) v0 v1 v2 v6 h:=rfl
noncomputable def f147c189 (N:Nat) (a0:Option (Nat×Nat)) (a1:List UInt8) (a2:(Option (Nat×Nat)×Option (Nat×Nat)×Unit)) (h:Heap):Option ((Unit)×Heap):=
 (bind3 (f147c189_l1 N N a0 a1 (a2.1,a2.2.1,()) 0 h) fun o9 (j10:(Unit)) h11=>
 (bif eqOut o9 (.exit 0) then
  some ((()),h11)
 else
  some ((()),h11)))
noncomputable def ann147c189:Ann:=(.two .n (.two (.loop [(0,(.one .ptr)),(1,(.one .str)),(2,(.clo 189 [.ptr,.ptr])),(6,(.one (.int .i64)))] [(.exit 0),.ret] [] .n) .n))
theorem f147c189_ok (N:Nat):FnOK Tryz.prog 147 [(.one .ptr),(.one .str),(.clo 189 [.ptr,.ptr])] (.tup []) (fun x h=>f147c189 N x.1 x.2.1 x.2.2.1 h):=
 runK_ok envOK hmix (addCall_ok (f93_ok N) (addCall_ok (f189_ok N) (addCall_ok (f188_ok N) noCalls_ok))) (N:=N) (x:=ann147c189) (fn:=Tryz.f147) (c:=Tryz.f147.body.getD .skip) (by kernel_rfl) (by kernel_rfl) (by kernel_rfl) (by kernel_rfl) (fun _ _=>by kernel_rfl)
noncomputable def f156 (N:Nat) (a0:Option (Nat×Nat)) (h:Heap):Option ((List UInt8×SL×Unit)×Heap):=
 let h1:Heap:=h.push (.row [(.ptr a0)] .own)
 let h2:Heap:=h1.push (.row [(.str []),(.slice none 0 0 0)] .own)
 (bindV (.val (.one .ptr)) (h2.cell (h.next,0)) fun (x3:Option (Nat×Nat))=>
 (bind2 (f94 N x3 3 h2) fun (x4:List UInt8) h5=>
 let h6:Heap:=h5.push (.row [(.str []),(.slice none 0 0 0)] .own)
 (need (h6.store (h5.next,0) [(.str x4),(.slice none 0 0 0)]) fun h7=>
 (bindV (.val (.one .ptr)) (h7.cell (h.next,0)) fun (x8:Option (Nat×Nat))=>
 (bind2 (f93 N x8 [58] h7) fun (x9:Bool) h10=>
 (bif x9 then
  (bindV (.val (.one .ptr)) (h10.cell (h.next,0)) fun (x11:Option (Nat×Nat))=>
  (bind2 (f147c189 N x11 [43] ((some (h5.next,0)),(some (h.next,0)),()) h10) fun (x12:(Unit)) h13=>
  (bindV (.val (.agg [.str,.slice])) (h13.cells (h5.next,0) 2) fun (x14:(List UInt8×SL×Unit))=>
  (need (h13.store (h1.next,0) [(.str x14.1),(.slice x14.2.1.a x14.2.1.len x14.2.1.cap x14.2.1.sz)]) fun h15=>
  (bindV (.val (.agg [.str,.slice])) (h15.cells (h1.next,0) 2) fun (x16:(List UInt8×SL×Unit))=>
  some ((x16.1,x16.2.1,()),h15))))))
 else
  (bindV (.val (.agg [.str,.slice])) (h10.cells (h5.next,0) 2) fun (x17:(List UInt8×SL×Unit))=>
  (need (h10.store (h1.next,0) [(.str x17.1),(.slice x17.2.1.a x17.2.1.len x17.2.1.cap x17.2.1.sz)]) fun h18=>
  (bindV (.val (.agg [.str,.slice])) (h18.cells (h1.next,0) 2) fun (x19:(List UInt8×SL×Unit))=>
  some ((x19.1,x19.2.1,()),h18))))))))))
noncomputable def ann156:Ann:=.n
theorem f156_ok (N:Nat):FnOK Tryz.prog 156 [(.one .ptr)] (.val (.agg [.str,.slice])) (fun x h=>f156 N x.1 h):=
 runK_ok envOK hmix (addCall_ok (f94_ok N) (addCall_ok (f93_ok N) (addCallS_ok (sel:=fun a=>isClo 2 189 a) (f147c189_ok N) noCalls_ok))) (N:=N) (x:=ann156) (fn:=Tryz.f156) (c:=Tryz.f156.body.getD .skip) (by kernel_rfl) (by kernel_rfl) (by kernel_rfl) (by kernel_rfl) (fun _ _=>by kernel_rfl)
noncomputable def f155 (N:Nat) (a0:Option (Nat×Nat)) (a1:Option (Nat×Nat)) (h:Heap):Option ((Unit)×Heap):=
 (need a0 fun q1=>
 (bindV (.val (.one .slice)) (h.cell (q1.1,q1.2+2)) fun (x2:SL)=>
 (need a1 fun q3=>
 (bindV (.val (.one .ptr)) (h.cell q3) fun (x4:Option (Nat×Nat))=>
 (bind2 (f156 N x4 h) fun (x5:(List UInt8×SL×Unit)) h6=>
 let h7:Heap:=h6.push (.row [(.str x5.1),(.slice x5.2.1.a x5.2.1.len x5.2.1.cap x5.2.1.sz)] .own)
 (bindT (.val (.one .slice)) (appendA E 36 36 (.slice x2.a x2.len x2.cap x2.sz) (.slice (some (h6.next,0)) 1 1 2) h7) fun (x8:SL) h9=>
 (need a0 fun q10=>
 (need (h9.store (q10.1,q10.2+2) [(.slice x8.a x8.len x8.cap x8.sz)]) fun h11=>
 (guardB (bif (needB a1 fun q=>sameO (h.cell q) (.ptr x4)) then (bif (sameO (h7.cell (q1.1,q1.2+2)) (.slice x2.a x2.len x2.cap x2.sz)) then (bif (sameO (h6.cell (q1.1,q1.2+2)) (.slice x2.a x2.len x2.cap x2.sz)) then (bif (sameO (h.cell (q1.1,q1.2+2)) (.slice x2.a x2.len x2.cap x2.sz)) then true else false) else false) else false) else false) (
 some ((()),h11)))))))))))
noncomputable def ann155:Ann:=.n
theorem f155_ok (N:Nat):FnOK Tryz.prog 155 [(.one .ptr),(.one .ptr)] (.tup []) (fun x h=>f155 N x.1 x.2.1 h):=
 runK_ok envOK hmix (addCall_ok (f156_ok N) noCalls_ok) (N:=N) (x:=ann155) (fn:=Tryz.f155) (c:=Tryz.f155.body.getD .skip) (by kernel_rfl) (by kernel_rfl) (by kernel_rfl) (by kernel_rfl) (fun _ _=>by kernel_rfl)
noncomputable def f147c155_l1_b (N:Nat) (go:Option (Nat×Nat)→List UInt8→(Option (Nat×Nat)×Option (Nat×Nat)×Unit)→Int→Heap→Option (Out×(Unit)×Heap)) (v0:Option (Nat×Nat)) (v1:List UInt8) (v2:(Option (Nat×Nat)×Option (Nat×Nat)×Unit)) (v6:Int) (h:Heap):Option (Out×(Unit)×Heap):=
 (bind2 (f188 N v0 v6 h) fun (x1:Bool) h2=>
 (bif x1 then
  (bind2 (f155 N v2.1 v2.2.1 h2) fun (x3:(Unit)) h4=>
  (bind2 (f93 N v0 v1 h4) fun (x5:Bool) h6=>
  let x7:Bool:=!x5
  (bif x7 then
  some (Out.ret,(()),h6)
  else
  let x8:Int:=wrapA .i64 (v6+1)
  go v0 v1 (v2.1,v2.2.1,()) x8 h6)))
 else
  some ((Out.exit 0),(()),h2)))
noncomputable def f147c155_l1 (N:Nat) (M:Nat) (v0:Option (Nat×Nat)) (v1:List UInt8) (v2:(Option (Nat×Nat)×Option (Nat×Nat)×Unit)) (v6:Int) (h:Heap):Option (Out×(Unit)×Heap):=iter (fun go s h=>f147c155_l1_b N (fun v0 v1 v2 v6 h=>go (v0,v1,v2,v6,()) h) s.1 s.2.1 s.2.2.1 s.2.2.2.1 h) M (v0,v1,v2,v6,()) h
theorem f147c155_l1_succ (N:Nat) (M:Nat) (v0:Option (Nat×Nat)) (v1:List UInt8) (v2:(Option (Nat×Nat)×Option (Nat×Nat)×Unit)) (v6:Int) (h:Heap):f147c155_l1 N (M+1) v0 v1 v2 v6 h=f147c155_l1_b N (f147c155_l1 N M) v0 v1 v2 v6 h:=rfl
noncomputable def f147c155 (N:Nat) (a0:Option (Nat×Nat)) (a1:List UInt8) (a2:(Option (Nat×Nat)×Option (Nat×Nat)×Unit)) (h:Heap):Option ((Unit)×Heap):=
 (bind3 (f147c155_l1 N N a0 a1 (a2.1,a2.2.1,()) 0 h) fun o9 (j10:(Unit)) h11=>
 (bif eqOut o9 (.exit 0) then
  some ((()),h11)
 else
  some ((()),h11)))
noncomputable def ann147c155:Ann:=(.two .n (.two (.loop [(0,(.one .ptr)),(1,(.one .str)),(2,(.clo 155 [.ptr,.ptr])),(6,(.one (.int .i64)))] [(.exit 0),.ret] [] .n) .n))
theorem f147c155_ok (N:Nat):FnOK Tryz.prog 147 [(.one .ptr),(.one .str),(.clo 155 [.ptr,.ptr])] (.tup []) (fun x h=>f147c155 N x.1 x.2.1 x.2.2.1 h):=
 runK_ok envOK hmix (addCall_ok (f93_ok N) (addCall_ok (f188_ok N) (addCall_ok (f155_ok N) noCalls_ok))) (N:=N) (x:=ann147c155) (fn:=Tryz.f147) (c:=Tryz.f147.body.getD .skip) (by kernel_rfl) (by kernel_rfl) (by kernel_rfl) (by kernel_rfl) (fun _ _=>by kernel_rfl)
noncomputable def f157 (N:Nat) (a0:Option (Nat×Nat)) (a1:Option (Nat×Nat)) (h:Heap):Option ((Unit)×Heap):=
 (need a0 fun q1=>
 (bindV (.val (.one .ptr)) (h.cell q1) fun (x2:Option (Nat×Nat))=>
 (bind2 (f92 N x2 [109,117,116] h) fun (x3:Bool) h4=>
 (need a0 fun q5=>
 (bindV (.val (.one .ptr)) (h4.cell q5) fun (x6:Option (Nat×Nat))=>
 (bind2 (f154 N x6 h4) fun (x7:(Bool×List UInt8×Int×List UInt8×SL×SL×Unit)) h8=>
 let h9:Heap:=h8.push (.row [(.bool false),(.str []),(.int .i64 0),(.str []),(.slice none 0 0 0),(.slice none 0 0 0)] .own)
 (need (h9.store (h8.next,0) [(.bool x7.1),(.str x7.2.1),(.int .i64 x7.2.2.1),(.str x7.2.2.2.1),(.slice x7.2.2.2.2.1.a x7.2.2.2.2.1.len x7.2.2.2.2.1.cap x7.2.2.2.2.1.sz),(.slice x7.2.2.2.2.2.1.a x7.2.2.2.2.2.1.len x7.2.2.2.2.2.1.cap x7.2.2.2.2.2.1.sz)]) fun h10=>
 (need (h10.store ((h8.next,0).1,(h8.next,0).2+0) [(.bool x3)]) fun h11=>
 (need a1 fun q12=>
 (bindV (.val (.one .slice)) (h11.cell (q12.1,q12.2+3)) fun (x13:SL)=>
 (bindV (.val (.agg [.bool,.str,(.int .i64),.str,.slice,.slice])) (h11.cells (h8.next,0) 6) fun (x14:(Bool×List UInt8×Int×List UInt8×SL×SL×Unit))=>
 let h15:Heap:=h11.push (.row [(.bool x14.1),(.str x14.2.1),(.int .i64 x14.2.2.1),(.str x14.2.2.2.1),(.slice x14.2.2.2.2.1.a x14.2.2.2.2.1.len x14.2.2.2.2.1.cap x14.2.2.2.2.1.sz),(.slice x14.2.2.2.2.2.1.a x14.2.2.2.2.2.1.len x14.2.2.2.2.2.1.cap x14.2.2.2.2.2.1.sz)] .own)
 (bindT (.val (.one .slice)) (appendA E 37 37 (.slice x13.a x13.len x13.cap x13.sz) (.slice (some (h11.next,0)) 1 1 6) h15) fun (x16:SL) h17=>
 (need a1 fun q18=>
 (need (h17.store (q18.1,q18.2+3) [(.slice x16.a x16.len x16.cap x16.sz)]) fun h19=>
 some ((()),h19)))))))))))))))
noncomputable def ann157:Ann:=.n
theorem f157_ok (N:Nat):FnOK Tryz.prog 157 [(.one .ptr),(.one .ptr)] (.tup []) (fun x h=>f157 N x.1 x.2.1 h):=
 runK_ok envOK hmix (addCall_ok (f92_ok N) (addCall_ok (f154_ok N) noCalls_ok)) (N:=N) (x:=ann157) (fn:=Tryz.f157) (c:=Tryz.f157.body.getD .skip) (by kernel_rfl) (by kernel_rfl) (by kernel_rfl) (by kernel_rfl) (fun _ _=>by kernel_rfl)
noncomputable def f147c157_l1_b (N:Nat) (go:Option (Nat×Nat)→List UInt8→(Option (Nat×Nat)×Option (Nat×Nat)×Unit)→Int→Heap→Option (Out×(Unit)×Heap)) (v0:Option (Nat×Nat)) (v1:List UInt8) (v2:(Option (Nat×Nat)×Option (Nat×Nat)×Unit)) (v6:Int) (h:Heap):Option (Out×(Unit)×Heap):=
 (bind2 (f188 N v0 v6 h) fun (x1:Bool) h2=>
 (bif x1 then
  (bind2 (f157 N v2.1 v2.2.1 h2) fun (x3:(Unit)) h4=>
  (bind2 (f93 N v0 v1 h4) fun (x5:Bool) h6=>
  let x7:Bool:=!x5
  (bif x7 then
  some (Out.ret,(()),h6)
  else
  let x8:Int:=wrapA .i64 (v6+1)
  go v0 v1 (v2.1,v2.2.1,()) x8 h6)))
 else
  some ((Out.exit 0),(()),h2)))
noncomputable def f147c157_l1 (N:Nat) (M:Nat) (v0:Option (Nat×Nat)) (v1:List UInt8) (v2:(Option (Nat×Nat)×Option (Nat×Nat)×Unit)) (v6:Int) (h:Heap):Option (Out×(Unit)×Heap):=iter (fun go s h=>f147c157_l1_b N (fun v0 v1 v2 v6 h=>go (v0,v1,v2,v6,()) h) s.1 s.2.1 s.2.2.1 s.2.2.2.1 h) M (v0,v1,v2,v6,()) h
theorem f147c157_l1_succ (N:Nat) (M:Nat) (v0:Option (Nat×Nat)) (v1:List UInt8) (v2:(Option (Nat×Nat)×Option (Nat×Nat)×Unit)) (v6:Int) (h:Heap):f147c157_l1 N (M+1) v0 v1 v2 v6 h=f147c157_l1_b N (f147c157_l1 N M) v0 v1 v2 v6 h:=rfl
noncomputable def f147c157 (N:Nat) (a0:Option (Nat×Nat)) (a1:List UInt8) (a2:(Option (Nat×Nat)×Option (Nat×Nat)×Unit)) (h:Heap):Option ((Unit)×Heap):=
 (bind3 (f147c157_l1 N N a0 a1 (a2.1,a2.2.1,()) 0 h) fun o9 (j10:(Unit)) h11=>
 (bif eqOut o9 (.exit 0) then
  some ((()),h11)
 else
  some ((()),h11)))
noncomputable def ann147c157:Ann:=(.two .n (.two (.loop [(0,(.one .ptr)),(1,(.one .str)),(2,(.clo 157 [.ptr,.ptr])),(6,(.one (.int .i64)))] [(.exit 0),.ret] [] .n) .n))
theorem f147c157_ok (N:Nat):FnOK Tryz.prog 147 [(.one .ptr),(.one .str),(.clo 157 [.ptr,.ptr])] (.tup []) (fun x h=>f147c157 N x.1 x.2.1 x.2.2.1 h):=
 runK_ok envOK hmix (addCall_ok (f93_ok N) (addCall_ok (f188_ok N) (addCall_ok (f157_ok N) noCalls_ok))) (N:=N) (x:=ann147c157) (fn:=Tryz.f147) (c:=Tryz.f147.body.getD .skip) (by kernel_rfl) (by kernel_rfl) (by kernel_rfl) (by kernel_rfl) (fun _ _=>by kernel_rfl)
noncomputable def f221_l1_b (N:Nat) (go:Option (Nat×Nat)→Option (Nat×Nat)→Option (Nat×Nat)→Heap→Option (Out×(Option (Nat×Nat)×Option (Nat×Nat)×Unit)×Heap)) (v0:Option (Nat×Nat)) (v2:Option (Nat×Nat)) (v3:Option (Nat×Nat)) (h:Heap):Option (Out×(Option (Nat×Nat)×Option (Nat×Nat)×Unit)×Heap):=
 (bind2 (f93 N v0 [46] h) fun (x6:Bool) h7=>
 (bif x6 then
  (need v3 fun q8=>
  (bindV (.val (.one .slice)) (h7.cell (q8.1,q8.2+1)) fun (x9:SL)=>
  (bind2 (f188 N v0 (Int.ofNat x9.len) h7) fun (x10:Bool) h11=>
  (bif x10 then
  (bind2 (f93 N v0 [42] h11) fun (x12:Bool) h13=>
  (bif x12 then
   (need v3 fun q14=>
   (bindV (.val (.one .slice)) (h13.cell (q14.1,q14.2+1)) fun (x15:SL)=>
   let h16:Heap:=h13.push (.row [(.str [42])] .own)
   (bindT (.val (.one .slice)) (appendA E 38 38 (.slice x15.a x15.len x15.cap x15.sz) (.slice (some (h13.next,0)) 1 1 1) h16) fun (x17:SL) h18=>
   (need v3 fun q19=>
   (need (h18.store (q19.1,q19.2+1) [(.slice x17.a x17.len x17.cap x17.sz)]) fun h20=>
   go v0 v2 v3 h20)))))
  else
   (need v3 fun q21=>
   (bindV (.val (.one .slice)) (h13.cell (q21.1,q21.2+1)) fun (x22:SL)=>
   (bind2 (f94 N v0 1 h13) fun (x23:List UInt8) h24=>
   let h25:Heap:=h24.push (.row [(.str x23)] .own)
   (bindT (.val (.one .slice)) (appendA E 38 38 (.slice x22.a x22.len x22.cap x22.sz) (.slice (some (h24.next,0)) 1 1 1) h25) fun (x26:SL) h27=>
   (need v3 fun q28=>
   (need (h27.store (q28.1,q28.2+1) [(.slice x26.a x26.len x26.cap x26.sz)]) fun h29=>
   (guardB (bif (sameO (h25.cell (q21.1,q21.2+1)) (.slice x22.a x22.len x22.cap x22.sz)) then (bif (sameO (h24.cell (q21.1,q21.2+1)) (.slice x22.a x22.len x22.cap x22.sz)) then (bif (sameO (h13.cell (q21.1,q21.2+1)) (.slice x22.a x22.len x22.cap x22.sz)) then true else false) else false) else false) (
   go v0 v2 v3 h29))))))))))
  else
  some ((Out.exit 0),(v2,v3,()),h11)))))
 else
  some ((Out.exit 0),(v2,v3,()),h7)))
noncomputable def f221_l1 (N:Nat) (M:Nat) (v0:Option (Nat×Nat)) (v2:Option (Nat×Nat)) (v3:Option (Nat×Nat)) (h:Heap):Option (Out×(Option (Nat×Nat)×Option (Nat×Nat)×Unit)×Heap):=iter (fun go s h=>f221_l1_b N (fun v0 v2 v3 h=>go (v0,v2,v3,()) h) s.1 s.2.1 s.2.2.1 h) M (v0,v2,v3,()) h
theorem f221_l1_succ (N:Nat) (M:Nat) (v0:Option (Nat×Nat)) (v2:Option (Nat×Nat)) (v3:Option (Nat×Nat)) (h:Heap):f221_l1 N (M+1) v0 v2 v3 h=f221_l1_b N (f221_l1 N M) v0 v2 v3 h:=rfl
noncomputable def f221 (N:Nat) (a0:Option (Nat×Nat)) (h:Heap):Option ((List UInt8×SL×Unit)×Heap):=
 let h1:Heap:=h.push (.row [(.str []),(.slice none 0 0 0)] .own)
 (bind2 (f94 N a0 1 h1) fun (x2:List UInt8) h3=>
 let h4:Heap:=h3.push (.row [(.str []),(.slice none 0 0 0)] .own)
 (need (h4.store (h3.next,0) [(.str x2),(.slice none 0 0 0)]) fun h5=>
 (bind3 (f221_l1 N N a0 (some (h.next,0)) (some (h3.next,0)) h5) fun _ (j31:(Option (Nat×Nat)×Option (Nat×Nat)×Unit)) h32=>
 (need j31.2.1 fun q33=>
 (bindV (.val (.agg [.str,.slice])) (h32.cells q33 2) fun (x34:(List UInt8×SL×Unit))=>
 (need j31.1 fun q36=>
 (need (h32.store q36 [(.str x34.1),(.slice x34.2.1.a x34.2.1.len x34.2.1.cap x34.2.1.sz)]) fun h35=>
 (need j31.1 fun q37=>
 (bindV (.val (.agg [.str,.slice])) (h35.cells q37 2) fun (x38:(List UInt8×SL×Unit))=>
 some ((x38.1,x38.2.1,()),h35))))))))))
noncomputable def ann221:Ann:=(.two .n (.two .n (.two (.two (.loop [(0,(.one .ptr)),(2,(.one .ptr)),(3,(.one .ptr))] [(.exit 0)] [(2,(.one .ptr)),(3,(.one .ptr))] .n) .n) .n)))
theorem f221_ok (N:Nat):FnOK Tryz.prog 221 [(.one .ptr)] (.val (.agg [.str,.slice])) (fun x h=>f221 N x.1 h):=
 runK_ok envOK hmix (addCall_ok (f94_ok N) (addCall_ok (f93_ok N) (addCall_ok (f188_ok N) noCalls_ok))) (N:=N) (x:=ann221) (fn:=Tryz.f221) (c:=Tryz.f221.body.getD .skip) (by kernel_rfl) (by kernel_rfl) (by kernel_rfl) (by kernel_rfl) (fun _ _=>by kernel_rfl)
noncomputable def f262 (N:Nat) (a0:Int) (h:Heap):Option (Int×Heap):=
 (bindV (.val (.one (.int .u8))) (bitsA .or .u8 a0 32) fun (x1:Int)=>
 some (x1,h))
noncomputable def ann262:Ann:=.n
theorem f262_ok (N:Nat):FnOK Tryz.prog 262 [(.one (.int .u8))] (.val (.one (.int .u8))) (fun x h=>f262 N x.1 h):=
 runK_ok envOK hmix noCalls_ok (N:=N) (x:=ann262) (fn:=Tryz.f262) (c:=Tryz.f262.body.getD .skip) (by kernel_rfl) (by kernel_rfl) (by kernel_rfl) (by kernel_rfl) (fun _ _=>by kernel_rfl)
noncomputable def f263_l1_b (N:Nat) (go:List UInt8→Bool→Int→Int→Bool→Heap→Option (Out×(Bool×Int×Unit)×Heap)) (v0:List UInt8) (v2:Bool) (v3:Int) (v4:Int) (v5:Bool) (h:Heap):Option (Out×(Bool×Int×Unit)×Heap):=
 let x34:Bool:=ltInt v4 (Int.ofNat v0.length)
 (bif x34 then
  (strK v0 v4 fun x35=>
  let x36:Bool:=leInt 48 x35
  (bif x36 then
  (strK v0 v4 fun x37=>
  let x38:Bool:=leInt x37 57
  (bif x38 then
   let x39:Int:=wrapA .i64 (v4+1)
   go v0 v2 48 x39 v5 h
  else
   (bif v5 then
   (strK v0 v4 fun x40=>
   (bind2 (f262 N x40 h) fun (x41:Int) h42=>
   let x43:Bool:=leInt 97 x41
   (bif x43 then
    (strK v0 v4 fun x44=>
    (bind2 (f262 N x44 h42) fun (x45:Int) h46=>
    let x47:Bool:=leInt x45 102
    (bif x47 then
    let x48:Int:=wrapA .i64 (v4+1)
    go v0 v2 48 x48 v5 h46
    else
    (strK v0 v4 fun x49=>
    let x50:Bool:=eqInt x49 95
    (bif x50 then
     let x51:Bool:=!eqInt v3 48
     (bif x51 then
     some (Out.ret,(false,v3,()),h46)
     else
     let x52:Int:=wrapA .i64 (v4+1)
     go v0 v2 95 x52 v5 h46)
    else
     let x53:Bool:=eqInt v3 95
     (bif x53 then
     some (Out.ret,(false,v3,()),h46)
     else
     let x54:Int:=wrapA .i64 (v4+1)
     go v0 v2 33 x54 v5 h46))))))
   else
    (strK v0 v4 fun x55=>
    let x56:Bool:=eqInt x55 95
    (bif x56 then
    let x57:Bool:=!eqInt v3 48
    (bif x57 then
     some (Out.ret,(false,v3,()),h42)
    else
     let x58:Int:=wrapA .i64 (v4+1)
     go v0 v2 95 x58 v5 h42)
    else
    let x59:Bool:=eqInt v3 95
    (bif x59 then
     some (Out.ret,(false,v3,()),h42)
    else
     let x60:Int:=wrapA .i64 (v4+1)
     go v0 v2 33 x60 v5 h42))))))
   else
   (strK v0 v4 fun x61=>
   let x62:Bool:=eqInt x61 95
   (bif x62 then
    let x63:Bool:=!eqInt v3 48
    (bif x63 then
    some (Out.ret,(false,v3,()),h)
    else
    let x64:Int:=wrapA .i64 (v4+1)
    go v0 v2 95 x64 v5 h)
   else
    let x65:Bool:=eqInt v3 95
    (bif x65 then
    some (Out.ret,(false,v3,()),h)
    else
    let x66:Int:=wrapA .i64 (v4+1)
    go v0 v2 33 x66 v5 h))))))
  else
  (bif v5 then
   (strK v0 v4 fun x67=>
   (bind2 (f262 N x67 h) fun (x68:Int) h69=>
   let x70:Bool:=leInt 97 x68
   (bif x70 then
   (strK v0 v4 fun x71=>
   (bind2 (f262 N x71 h69) fun (x72:Int) h73=>
   let x74:Bool:=leInt x72 102
   (bif x74 then
    let x75:Int:=wrapA .i64 (v4+1)
    go v0 v2 48 x75 v5 h73
   else
    (strK v0 v4 fun x76=>
    let x77:Bool:=eqInt x76 95
    (bif x77 then
    let x78:Bool:=!eqInt v3 48
    (bif x78 then
     some (Out.ret,(false,v3,()),h73)
    else
     let x79:Int:=wrapA .i64 (v4+1)
     go v0 v2 95 x79 v5 h73)
    else
    let x80:Bool:=eqInt v3 95
    (bif x80 then
     some (Out.ret,(false,v3,()),h73)
    else
     let x81:Int:=wrapA .i64 (v4+1)
     go v0 v2 33 x81 v5 h73))))))
   else
   (strK v0 v4 fun x82=>
   let x83:Bool:=eqInt x82 95
   (bif x83 then
    let x84:Bool:=!eqInt v3 48
    (bif x84 then
    some (Out.ret,(false,v3,()),h69)
    else
    let x85:Int:=wrapA .i64 (v4+1)
    go v0 v2 95 x85 v5 h69)
   else
    let x86:Bool:=eqInt v3 95
    (bif x86 then
    some (Out.ret,(false,v3,()),h69)
    else
    let x87:Int:=wrapA .i64 (v4+1)
    go v0 v2 33 x87 v5 h69))))))
  else
   (strK v0 v4 fun x88=>
   let x89:Bool:=eqInt x88 95
   (bif x89 then
   let x90:Bool:=!eqInt v3 48
   (bif x90 then
    some (Out.ret,(false,v3,()),h)
   else
    let x91:Int:=wrapA .i64 (v4+1)
    go v0 v2 95 x91 v5 h)
   else
   let x92:Bool:=eqInt v3 95
   (bif x92 then
    some (Out.ret,(false,v3,()),h)
   else
    let x93:Int:=wrapA .i64 (v4+1)
    go v0 v2 33 x93 v5 h))))))
 else
  some ((Out.exit 0),(v2,v3,()),h))
noncomputable def f263_l1 (N:Nat) (M:Nat) (v0:List UInt8) (v2:Bool) (v3:Int) (v4:Int) (v5:Bool) (h:Heap):Option (Out×(Bool×Int×Unit)×Heap):=iter (fun go s h=>f263_l1_b N (fun v0 v2 v3 v4 v5 h=>go (v0,v2,v3,v4,v5,()) h) s.1 s.2.1 s.2.2.1 s.2.2.2.1 s.2.2.2.2.1 h) M (v0,v2,v3,v4,v5,()) h
noncomputable def f263 (N:Nat) (a0:List UInt8) (h:Heap):Option (Bool×Heap):=
 (bind2 (α:=(List UInt8×Bool×Int×Int×Unit)) (
  (bind2 (α:=(List UInt8×Bool×Int×Int×Bool×Unit)) (
  let x1:Bool:=leInt 1 (Int.ofNat a0.length)
  (bif x1 then
   (strK a0 0 fun x2=>
   let x3:Bool:=eqInt x2 45
   (bif x3 then
   some ((a0,false,94,0,true,()),h)
   else
   (strK a0 0 fun x4=>
   let x5:Bool:=eqInt x4 43
   some ((a0,false,94,0,x5,()),h))))
  else
   some ((a0,false,94,0,false,()),h))) fun (j6:(List UInt8×Bool×Int×Int×Bool×Unit)) h7=>
  (bif j6.2.2.2.2.1 then
  (bindV (.val (.one .str)) (sliceA E h7 9 (.str j6.1) (some (.int .i64 1)) none) fun (x8:List UInt8)=>
  some ((x8,j6.2.1,j6.2.2.1,j6.2.2.2.1,()),h7))
  else
  some ((j6.1,j6.2.1,j6.2.2.1,j6.2.2.2.1,()),h7)))) fun (j9:(List UInt8×Bool×Int×Int×Unit)) h10=>
 (bind2 (α:=(List UInt8×Bool×Int×Int×Bool×Unit)) (
  (bind2 (α:=(List UInt8×Bool×Int×Int×Bool×Bool×Unit)) (
  let x11:Bool:=leInt 2 (Int.ofNat j9.1.length)
  (bif x11 then
   (strK j9.1 0 fun x12=>
   let x13:Bool:=eqInt x12 48
   (bif x13 then
   (strK j9.1 1 fun x14=>
   (bind2 (f262 N x14 h10) fun (x15:Int) h16=>
   let x17:Bool:=eqInt x15 98
   (bif x17 then
    some ((j9.1,j9.2.1,j9.2.2.1,j9.2.2.2.1,false,true,()),h16)
   else
    (strK j9.1 1 fun x18=>
    (bind2 (f262 N x18 h16) fun (x19:Int) h20=>
    let x21:Bool:=eqInt x19 111
    (bif x21 then
    some ((j9.1,j9.2.1,j9.2.2.1,j9.2.2.2.1,false,true,()),h20)
    else
    (strK j9.1 1 fun x22=>
    (bind2 (f262 N x22 h20) fun (x23:Int) h24=>
    let x25:Bool:=eqInt x23 120
    some ((j9.1,j9.2.1,j9.2.2.1,j9.2.2.2.1,false,x25,()),h24)))))))))
   else
   some ((j9.1,j9.2.1,j9.2.2.1,j9.2.2.2.1,false,false,()),h10)))
  else
   some ((j9.1,j9.2.1,j9.2.2.1,j9.2.2.2.1,false,false,()),h10))) fun (j26:(List UInt8×Bool×Int×Int×Bool×Bool×Unit)) h27=>
  (bif j26.2.2.2.2.2.1 then
  (strK j26.1 1 fun x28=>
  (bind2 (f262 N x28 h27) fun (x29:Int) h30=>
  let x31:Bool:=eqInt x29 120
  some ((j26.1,j26.2.1,48,2,x31,()),h30)))
  else
  some ((j26.1,j26.2.1,j26.2.2.1,j26.2.2.2.1,j26.2.2.2.2.1,()),h27)))) fun (j32:(List UInt8×Bool×Int×Int×Bool×Unit)) h33=>
 (bind3 (f263_l1 N N j32.1 j32.2.1 j32.2.2.1 j32.2.2.2.1 j32.2.2.2.2.1 h33) fun o94 (j95:(Bool×Int×Unit)) h96=>
 (bif eqOut o94 (.exit 0) then
  let x97:Bool:=!eqInt j95.2.1 95
  some (x97,h96)
 else
  some (j95.1,h96)))))
noncomputable def ann263:Ann:=(.two .n (.two .n (.two .n (.two (.join [(0,(.one .str)),(2,(.one .bool)),(3,(.one (.int .i32))),(4,(.one (.int .i64)))] (.two (.join [(0,(.one .str)),(2,(.one .bool)),(3,(.one (.int .i32))),(4,(.one (.int .i64))),(18,(.one .bool))] .n) .n)) (.two .n (.two (.join [(0,(.one .str)),(2,(.one .bool)),(3,(.one (.int .i32))),(4,(.one (.int .i64))),(5,(.one .bool))] (.two (.join [(0,(.one .str)),(2,(.one .bool)),(3,(.one (.int .i32))),(4,(.one (.int .i64))),(5,(.one .bool)),(46,(.one .bool))] .n) .n)) (.two (.two (.loop [(0,(.one .str)),(2,(.one .bool)),(3,(.one (.int .i32))),(4,(.one (.int .i64))),(5,(.one .bool))] [(.exit 0),.ret] [(2,(.one .bool)),(3,(.one (.int .i32)))] .n) .n) .n)))))))
theorem f263_ok (N:Nat):FnOK Tryz.prog 263 [(.one .str)] (.val (.one .bool)) (fun x h=>f263 N x.1 h):=
 runK_ok envOK hmix (addCall_ok (f262_ok N) noCalls_ok) (N:=N) (x:=ann263) (fn:=Tryz.f263) (c:=Tryz.f263.body.getD .skip) (by kernel_rfl) (by kernel_rfl) (by kernel_rfl) (by kernel_rfl) (fun _ _=>by kernel_rfl)
noncomputable def f257_l1_b (N:Nat) (go:Int→Int→AV→Bool→List UInt8→Int→Int→Bool→Int→SL→Int→Int→Heap→Option (Out×(Int×AV×List UInt8×Bool×Int×Unit)×Heap)) (v1:Int) (v6:Int) (v7:AV) (v8:Bool) (v9:List UInt8) (v10:Int) (v11:Int) (v12:Bool) (v13:Int) (v99:SL) (v100:Int) (v101:Int) (h:Heap):Option (Out×(Int×AV×List UInt8×Bool×Int×Unit)×Heap):=
 let x60:Bool:=ltInt v101 v100
 (bif x60 then
  (need (α:=Sum ((Int×Int×AV×Bool×List UInt8×Int×Int×Bool×Int×SL×Int×Int×Unit)×Heap) (Sum ((Int×AV×List UInt8×Bool×Int×Unit)×Heap) (Empty))) (
  (ixK v99.a v99.len v101 1 fun q61=>
  (bindV (.val (.one (.int .u8))) (h.cell q61) fun (x62:Int)=>
  (need (α:=Sum ((Int×Int×AV×Bool×List UInt8×Int×Int×Bool×Int×Int×SL×Int×Int×Unit)×Heap) (Sum ((Int×Int×AV×Bool×List UInt8×Int×Int×Bool×Int×SL×Int×Int×Unit)×Heap) (Sum ((Int×AV×List UInt8×Bool×Int×Unit)×Heap) (Empty)))) (
   (bind2 (α:=(Int×Int×AV×Bool×List UInt8×Int×Int×Bool×Int×Int×SL×Int×Int×Bool×Unit)) (
   let x63:Bool:=eqInt x62 95
   (bif x63 then
    some ((v1,v6,v7,v8,v9,v10,v11,v12,v13,x62,v99,v100,v101,v8,()),h)
   else
    some ((v1,v6,v7,v8,v9,v10,v11,v12,v13,x62,v99,v100,v101,false,()),h))) fun (j64:(Int×Int×AV×Bool×List UInt8×Int×Int×Bool×Int×Int×SL×Int×Int×Bool×Unit)) h65=>
   (bif j64.2.2.2.2.2.2.2.2.2.2.2.2.2.1 then
   some (Sum.inr (Sum.inl ((j64.1,j64.2.1,j64.2.2.1,j64.2.2.2.1,j64.2.2.2.2.1,j64.2.2.2.2.2.1,j64.2.2.2.2.2.2.1,true,j64.2.2.2.2.2.2.2.2.1,j64.2.2.2.2.2.2.2.2.2.2.1,j64.2.2.2.2.2.2.2.2.2.2.2.1,j64.2.2.2.2.2.2.2.2.2.2.2.2.1,()),h65)))
   else
   (bind2 (α:=(Int×Int×AV×Bool×List UInt8×Int×Int×Bool×Int×Int×SL×Int×Int×Bool×Unit)) (
    let x66:Bool:=leInt 48 j64.2.2.2.2.2.2.2.2.2.1
    (bif x66 then
    let x67:Bool:=leInt j64.2.2.2.2.2.2.2.2.2.1 57
    some ((j64.1,j64.2.1,j64.2.2.1,j64.2.2.2.1,j64.2.2.2.2.1,j64.2.2.2.2.2.1,j64.2.2.2.2.2.2.1,j64.2.2.2.2.2.2.2.1,j64.2.2.2.2.2.2.2.2.1,j64.2.2.2.2.2.2.2.2.2.1,j64.2.2.2.2.2.2.2.2.2.2.1,j64.2.2.2.2.2.2.2.2.2.2.2.1,j64.2.2.2.2.2.2.2.2.2.2.2.2.1,x67,()),h65)
    else
    some ((j64.1,j64.2.1,j64.2.2.1,j64.2.2.2.1,j64.2.2.2.2.1,j64.2.2.2.2.2.1,j64.2.2.2.2.2.2.1,j64.2.2.2.2.2.2.2.1,j64.2.2.2.2.2.2.2.2.1,j64.2.2.2.2.2.2.2.2.2.1,j64.2.2.2.2.2.2.2.2.2.2.1,j64.2.2.2.2.2.2.2.2.2.2.2.1,j64.2.2.2.2.2.2.2.2.2.2.2.2.1,false,()),h65))) fun (j68:(Int×Int×AV×Bool×List UInt8×Int×Int×Bool×Int×Int×SL×Int×Int×Bool×Unit)) h69=>
   (bif j68.2.2.2.2.2.2.2.2.2.2.2.2.2.1 then
    let x70:Int:=wrapA .u8 (j68.2.2.2.2.2.2.2.2.2.1-48)
    some (Sum.inl ((j68.1,j68.2.1,j68.2.2.1,j68.2.2.2.1,j68.2.2.2.2.1,j68.2.2.2.2.2.1,j68.2.2.2.2.2.2.1,j68.2.2.2.2.2.2.2.1,j68.2.2.2.2.2.2.2.2.1,x70,j68.2.2.2.2.2.2.2.2.2.2.1,j68.2.2.2.2.2.2.2.2.2.2.2.1,j68.2.2.2.2.2.2.2.2.2.2.2.2.1,()),h69))
   else
    (bind2 (α:=(Int×Int×AV×Bool×List UInt8×Int×Int×Bool×Int×Int×SL×Int×Int×Bool×Unit)) (
    (bind2 (f262 N j68.2.2.2.2.2.2.2.2.2.1 h69) fun (x71:Int) h72=>
    let x73:Bool:=leInt 97 x71
    (bif x73 then
     (bind2 (f262 N j68.2.2.2.2.2.2.2.2.2.1 h72) fun (x74:Int) h75=>
     let x76:Bool:=leInt x74 122
     some ((j68.1,j68.2.1,j68.2.2.1,j68.2.2.2.1,j68.2.2.2.2.1,j68.2.2.2.2.2.1,j68.2.2.2.2.2.2.1,j68.2.2.2.2.2.2.2.1,j68.2.2.2.2.2.2.2.2.1,j68.2.2.2.2.2.2.2.2.2.1,j68.2.2.2.2.2.2.2.2.2.2.1,j68.2.2.2.2.2.2.2.2.2.2.2.1,j68.2.2.2.2.2.2.2.2.2.2.2.2.1,x76,()),h75))
    else
     some ((j68.1,j68.2.1,j68.2.2.1,j68.2.2.2.1,j68.2.2.2.2.1,j68.2.2.2.2.2.1,j68.2.2.2.2.2.2.1,j68.2.2.2.2.2.2.2.1,j68.2.2.2.2.2.2.2.2.1,j68.2.2.2.2.2.2.2.2.2.1,j68.2.2.2.2.2.2.2.2.2.2.1,j68.2.2.2.2.2.2.2.2.2.2.2.1,j68.2.2.2.2.2.2.2.2.2.2.2.2.1,false,()),h72)))) fun (j77:(Int×Int×AV×Bool×List UInt8×Int×Int×Bool×Int×Int×SL×Int×Int×Bool×Unit)) h78=>
    (bif j77.2.2.2.2.2.2.2.2.2.2.2.2.2.1 then
    (bind2 (f262 N j77.2.2.2.2.2.2.2.2.2.1 h78) fun (x79:Int) h80=>
    let x81:Int:=wrapA .u8 (x79-97)
    let x82:Int:=wrapA .u8 (x81+10)
    some (Sum.inl ((j77.1,j77.2.1,j77.2.2.1,j77.2.2.2.1,j77.2.2.2.2.1,j77.2.2.2.2.2.1,j77.2.2.2.2.2.2.1,j77.2.2.2.2.2.2.2.1,j77.2.2.2.2.2.2.2.2.1,x82,j77.2.2.2.2.2.2.2.2.2.2.1,j77.2.2.2.2.2.2.2.2.2.2.2.1,j77.2.2.2.2.2.2.2.2.2.2.2.2.1,()),h80)))
    else
    some (Sum.inr (Sum.inr (Sum.inl ((0,(AV.iface 256 (.int .i64 2)),j77.2.2.2.2.1,j77.2.2.2.2.2.2.2.1,j77.2.2.2.2.2.2.2.2.1,()),h78))))))))))) fun j83=>
  (jcase j83 (fun (j84:(Int×Int×AV×Bool×List UInt8×Int×Int×Bool×Int×Int×SL×Int×Int×Unit)) h85=>
   let x87:Int:=wrapA .u8 j84.1
   let x88:Bool:=leInt x87 j84.2.2.2.2.2.2.2.2.2.1
   (bif x88 then
   some (Sum.inr (Sum.inl ((0,(AV.iface 256 (.int .i64 2)),j84.2.2.2.2.1,j84.2.2.2.2.2.2.2.1,j84.2.2.2.2.2.2.2.2.1,()),h85)))
   else
   let x89:Bool:=leInt j84.2.2.2.2.2.1 j84.2.2.2.2.2.2.2.2.1
   (bif x89 then
    some (Sum.inr (Sum.inl ((j84.2.2.2.2.2.2.1,(AV.iface 256 (.int .i64 1)),j84.2.2.2.2.1,j84.2.2.2.2.2.2.2.1,j84.2.2.2.2.2.2.2.2.1,()),h85)))
   else
    let x90:Int:=wrapA .u64 j84.1
    let x91:Int:=wrapA .u64 (j84.2.2.2.2.2.2.2.2.1 * x90)
    let x92:Int:=wrapA .u64 j84.2.2.2.2.2.2.2.2.2.1
    let x93:Int:=wrapA .u64 (x91+x92)
    (need (α:=Sum ((Int×Int×AV×Bool×List UInt8×Int×Int×Bool×Int×SL×Int×Int×Unit)×Heap) (Sum ((Int×AV×List UInt8×Bool×Int×Unit)×Heap) (Empty))) (
    (bind2 (α:=(Int×Int×AV×Bool×List UInt8×Int×Int×Bool×Int×Int×SL×Int×Int×Bool×Unit)) (
     let x94:Bool:=ltInt x93 x91
     (bif x94 then
     some ((j84.1,j84.2.1,j84.2.2.1,j84.2.2.2.1,j84.2.2.2.2.1,j84.2.2.2.2.2.1,j84.2.2.2.2.2.2.1,j84.2.2.2.2.2.2.2.1,x91,x93,j84.2.2.2.2.2.2.2.2.2.2.1,j84.2.2.2.2.2.2.2.2.2.2.2.1,j84.2.2.2.2.2.2.2.2.2.2.2.2.1,true,()),h85)
     else
     let x95:Bool:=ltInt j84.2.2.2.2.2.2.1 x93
     some ((j84.1,j84.2.1,j84.2.2.1,j84.2.2.2.1,j84.2.2.2.2.1,j84.2.2.2.2.2.1,j84.2.2.2.2.2.2.1,j84.2.2.2.2.2.2.2.1,x91,x93,j84.2.2.2.2.2.2.2.2.2.2.1,j84.2.2.2.2.2.2.2.2.2.2.2.1,j84.2.2.2.2.2.2.2.2.2.2.2.2.1,x95,()),h85))) fun (j96:(Int×Int×AV×Bool×List UInt8×Int×Int×Bool×Int×Int×SL×Int×Int×Bool×Unit)) h97=>
    (bif j96.2.2.2.2.2.2.2.2.2.2.2.2.2.1 then
     some (Sum.inr (Sum.inl ((j96.2.2.2.2.2.2.1,(AV.iface 256 (.int .i64 1)),j96.2.2.2.2.1,j96.2.2.2.2.2.2.2.1,j96.2.2.2.2.2.2.2.2.1,()),h97)))
    else
     some (Sum.inl ((j96.1,j96.2.1,j96.2.2.1,j96.2.2.2.1,j96.2.2.2.2.1,j96.2.2.2.2.2.1,j96.2.2.2.2.2.2.1,j96.2.2.2.2.2.2.2.1,j96.2.2.2.2.2.2.2.2.2.1,j96.2.2.2.2.2.2.2.2.2.2.1,j96.2.2.2.2.2.2.2.2.2.2.2.1,j96.2.2.2.2.2.2.2.2.2.2.2.2.1,()),h97))))) fun j98=>
    (jcase j98 (fun (j99:(Int×Int×AV×Bool×List UInt8×Int×Int×Bool×Int×SL×Int×Int×Unit)) h100=>
    some (Sum.inl ((j99.1,j99.2.1,j99.2.2.1,j99.2.2.2.1,j99.2.2.2.2.1,j99.2.2.2.2.2.1,j99.2.2.2.2.2.2.1,j99.2.2.2.2.2.2.2.1,j99.2.2.2.2.2.2.2.2.1,j99.2.2.2.2.2.2.2.2.2.1,j99.2.2.2.2.2.2.2.2.2.2.1,j99.2.2.2.2.2.2.2.2.2.2.2.1,()),h100))) fun j101=>
    (jcase j101 (fun (j102:(Int×AV×List UInt8×Bool×Int×Unit)) h103=>
    some (Sum.inr (Sum.inl ((j102.1,j102.2.1,j102.2.2.1,j102.2.2.2.1,j102.2.2.2.2.1,()),h103)))) fun _=>
    none)))))) fun j86=>
  (jcase j86 (fun (j105:(Int×Int×AV×Bool×List UInt8×Int×Int×Bool×Int×SL×Int×Int×Unit)) h106=>
   some (Sum.inl ((j105.1,j105.2.1,j105.2.2.1,j105.2.2.2.1,j105.2.2.2.2.1,j105.2.2.2.2.2.1,j105.2.2.2.2.2.2.1,j105.2.2.2.2.2.2.2.1,j105.2.2.2.2.2.2.2.2.1,j105.2.2.2.2.2.2.2.2.2.1,j105.2.2.2.2.2.2.2.2.2.2.1,j105.2.2.2.2.2.2.2.2.2.2.2.1,()),h106))) fun j107=>
  (jcase j107 (fun (j108:(Int×AV×List UInt8×Bool×Int×Unit)) h109=>
   some (Sum.inr (Sum.inl ((j108.1,j108.2.1,j108.2.2.1,j108.2.2.2.1,j108.2.2.2.2.1,()),h109)))) fun _=>
  none))))))) fun j111=>
  (jcase j111 (fun (j112:(Int×Int×AV×Bool×List UInt8×Int×Int×Bool×Int×SL×Int×Int×Unit)) h113=>
  let x115:Int:=wrapA .i64 (j112.2.2.2.2.2.2.2.2.2.2.2.1+1)
  go j112.1 j112.2.1 j112.2.2.1 j112.2.2.2.1 j112.2.2.2.2.1 j112.2.2.2.2.2.1 j112.2.2.2.2.2.2.1 j112.2.2.2.2.2.2.2.1 j112.2.2.2.2.2.2.2.2.1 j112.2.2.2.2.2.2.2.2.2.1 j112.2.2.2.2.2.2.2.2.2.2.1 x115 h113) fun j114=>
  (jcase j114 (fun (j116:(Int×AV×List UInt8×Bool×Int×Unit)) h117=>
  some (Out.ret,(j116.1,j116.2.1,j116.2.2.1,j116.2.2.2.1,j116.2.2.2.2.1,()),h117)) fun _=>
  none)))
 else
  some ((Out.exit 3),(v6,v7,v9,v12,v13,()),h))
noncomputable def f257_l1 (N:Nat) (M:Nat) (v1:Int) (v6:Int) (v7:AV) (v8:Bool) (v9:List UInt8) (v10:Int) (v11:Int) (v12:Bool) (v13:Int) (v99:SL) (v100:Int) (v101:Int) (h:Heap):Option (Out×(Int×AV×List UInt8×Bool×Int×Unit)×Heap):=iter (fun go s h=>f257_l1_b N (fun v1 v6 v7 v8 v9 v10 v11 v12 v13 v99 v100 v101 h=>go (v1,v6,v7,v8,v9,v10,v11,v12,v13,v99,v100,v101,()) h) s.1 s.2.1 s.2.2.1 s.2.2.2.1 s.2.2.2.2.1 s.2.2.2.2.2.1 s.2.2.2.2.2.2.1 s.2.2.2.2.2.2.2.1 s.2.2.2.2.2.2.2.2.1 s.2.2.2.2.2.2.2.2.2.1 s.2.2.2.2.2.2.2.2.2.2.1 s.2.2.2.2.2.2.2.2.2.2.2.1 h) M (v1,v6,v7,v8,v9,v10,v11,v12,v13,v99,v100,v101,()) h
noncomputable def f257 (N:Nat) (a0:List UInt8) (a1:Int) (a2:Int) (h:Heap):Option ((Int×AV×Unit)×Heap):=
 let x1:Bool:=eqBytes a0 []
 (bif x1 then
  some ((0,(AV.iface 256 (.int .i64 2)),()),h)
 else
  let x2:Bool:=eqInt a1 0
  (need (α:=Sum ((List UInt8×Int×Int×Int×AV×Bool×List UInt8×Unit)×Heap) (Sum ((Int×AV×Unit)×Heap) (Empty))) (
  (bind2 (α:=(List UInt8×Int×Int×Int×AV×Bool×List UInt8×Bool×Unit)) (
   let x3:Bool:=leInt 2 a1
   (bif x3 then
   let x4:Bool:=leInt a1 36
   some ((a0,a1,a2,0,AV.nilIface,x2,a0,x4,()),h)
   else
   some ((a0,a1,a2,0,AV.nilIface,x2,a0,false,()),h))) fun (j5:(List UInt8×Int×Int×Int×AV×Bool×List UInt8×Bool×Unit)) h6=>
  (bif j5.2.2.2.2.2.2.2.1 then
   some (Sum.inl ((j5.1,j5.2.1,j5.2.2.1,j5.2.2.2.1,j5.2.2.2.2.1,j5.2.2.2.2.2.1,j5.2.2.2.2.2.2.1,()),h6))
  else
   let x7:Bool:=eqInt j5.2.1 0
   (bif x7 then
   (strK j5.1 0 fun x8=>
   let x9:Bool:=eqInt x8 48
   (bif x9 then
    (bind2 (α:=(List UInt8×Int×Int×AV×Bool×List UInt8×Bool×Unit)) (
    let x10:Bool:=leInt 3 (Int.ofNat j5.1.length)
    (bif x10 then
     (strK j5.1 1 fun x11=>
     (bind2 (f262 N x11 h6) fun (x12:Int) h13=>
     let x14:Bool:=eqInt x12 98
     some ((j5.1,j5.2.2.1,j5.2.2.2.1,j5.2.2.2.2.1,j5.2.2.2.2.2.1,j5.2.2.2.2.2.2.1,x14,()),h13)))
    else
     some ((j5.1,j5.2.2.1,j5.2.2.2.1,j5.2.2.2.2.1,j5.2.2.2.2.2.1,j5.2.2.2.2.2.2.1,false,()),h6))) fun (j15:(List UInt8×Int×Int×AV×Bool×List UInt8×Bool×Unit)) h16=>
    (bif j15.2.2.2.2.2.2.1 then
    (bindV (.val (.one .str)) (sliceA E h16 9 (.str j15.1) (some (.int .i64 2)) none) fun (x17:List UInt8)=>
    some (Sum.inl ((x17,2,j15.2.1,j15.2.2.1,j15.2.2.2.1,j15.2.2.2.2.1,j15.2.2.2.2.2.1,()),h16)))
    else
    (bind2 (α:=(List UInt8×Int×Int×AV×Bool×List UInt8×Bool×Unit)) (
     let x18:Bool:=leInt 3 (Int.ofNat j15.1.length)
     (bif x18 then
     (strK j15.1 1 fun x19=>
     (bind2 (f262 N x19 h16) fun (x20:Int) h21=>
     let x22:Bool:=eqInt x20 111
     some ((j15.1,j15.2.1,j15.2.2.1,j15.2.2.2.1,j15.2.2.2.2.1,j15.2.2.2.2.2.1,x22,()),h21)))
     else
     some ((j15.1,j15.2.1,j15.2.2.1,j15.2.2.2.1,j15.2.2.2.2.1,j15.2.2.2.2.2.1,false,()),h16))) fun (j23:(List UInt8×Int×Int×AV×Bool×List UInt8×Bool×Unit)) h24=>
    (bif j23.2.2.2.2.2.2.1 then
     (bindV (.val (.one .str)) (sliceA E h24 9 (.str j23.1) (some (.int .i64 2)) none) fun (x25:List UInt8)=>
     some (Sum.inl ((x25,8,j23.2.1,j23.2.2.1,j23.2.2.2.1,j23.2.2.2.2.1,j23.2.2.2.2.2.1,()),h24)))
    else
     (bind2 (α:=(List UInt8×Int×Int×AV×Bool×List UInt8×Bool×Unit)) (
     let x26:Bool:=leInt 3 (Int.ofNat j23.1.length)
     (bif x26 then
      (strK j23.1 1 fun x27=>
      (bind2 (f262 N x27 h24) fun (x28:Int) h29=>
      let x30:Bool:=eqInt x28 120
      some ((j23.1,j23.2.1,j23.2.2.1,j23.2.2.2.1,j23.2.2.2.2.1,j23.2.2.2.2.2.1,x30,()),h29)))
     else
      some ((j23.1,j23.2.1,j23.2.2.1,j23.2.2.2.1,j23.2.2.2.2.1,j23.2.2.2.2.2.1,false,()),h24))) fun (j31:(List UInt8×Int×Int×AV×Bool×List UInt8×Bool×Unit)) h32=>
     (bif j31.2.2.2.2.2.2.1 then
     (bindV (.val (.one .str)) (sliceA E h32 9 (.str j31.1) (some (.int .i64 2)) none) fun (x33:List UInt8)=>
     some (Sum.inl ((x33,16,j31.2.1,j31.2.2.1,j31.2.2.2.1,j31.2.2.2.2.1,j31.2.2.2.2.2.1,()),h32)))
     else
     (bindV (.val (.one .str)) (sliceA E h32 9 (.str j31.1) (some (.int .i64 1)) none) fun (x34:List UInt8)=>
     some (Sum.inl ((x34,8,j31.2.1,j31.2.2.1,j31.2.2.2.1,j31.2.2.2.2.1,j31.2.2.2.2.2.1,()),h32)))))))))
   else
    some (Sum.inl ((j5.1,10,j5.2.2.1,j5.2.2.2.1,j5.2.2.2.2.1,j5.2.2.2.2.2.1,j5.2.2.2.2.2.2.1,()),h6))))
   else
   some (Sum.inr (Sum.inl ((0,(AV.iface 256 (.int .i64 3)),()),h6))))))) fun j35=>
  (jcase j35 (fun (j36:(List UInt8×Int×Int×Int×AV×Bool×List UInt8×Unit)) h37=>
  (need (α:=Sum ((List UInt8×Int×Int×Int×AV×Bool×List UInt8×Unit)×Heap) (Sum ((Int×AV×Unit)×Heap) (Empty))) (
   let x39:Bool:=eqInt j36.2.2.1 0
   (bif x39 then
   some (Sum.inl ((j36.1,j36.2.1,64,j36.2.2.2.1,j36.2.2.2.2.1,j36.2.2.2.2.2.1,j36.2.2.2.2.2.2.1,()),h37))
   else
   (bind2 (α:=(List UInt8×Int×Int×Int×AV×Bool×List UInt8×Bool×Unit)) (
    let x40:Bool:=ltInt j36.2.2.1 0
    (bif x40 then
    some ((j36.1,j36.2.1,j36.2.2.1,j36.2.2.2.1,j36.2.2.2.2.1,j36.2.2.2.2.2.1,j36.2.2.2.2.2.2.1,true,()),h37)
    else
    let x41:Bool:=ltInt 64 j36.2.2.1
    some ((j36.1,j36.2.1,j36.2.2.1,j36.2.2.2.1,j36.2.2.2.2.1,j36.2.2.2.2.2.1,j36.2.2.2.2.2.2.1,x41,()),h37))) fun (j42:(List UInt8×Int×Int×Int×AV×Bool×List UInt8×Bool×Unit)) h43=>
   (bif j42.2.2.2.2.2.2.2.1 then
    some (Sum.inr (Sum.inl ((0,(AV.iface 256 (.int .i64 4)),()),h43)))
   else
    some (Sum.inl ((j42.1,j42.2.1,j42.2.2.1,j42.2.2.2.1,j42.2.2.2.2.1,j42.2.2.2.2.2.1,j42.2.2.2.2.2.2.1,()),h43)))))) fun j44=>
  (jcase j44 (fun (j45:(List UInt8×Int×Int×Int×AV×Bool×List UInt8×Unit)) h46=>
   (bind2 (α:=(List UInt8×Int×Int×Int×AV×Bool×List UInt8×Int×Unit)) (
   let x48:Bool:=eqInt j45.2.1 10
   (bif x48 then
    some ((j45.1,j45.2.1,j45.2.2.1,j45.2.2.2.1,j45.2.2.2.2.1,j45.2.2.2.2.2.1,j45.2.2.2.2.2.2.1,1844674407370955162,()),h46)
   else
    let x49:Bool:=eqInt j45.2.1 16
    (bif x49 then
    some ((j45.1,j45.2.1,j45.2.2.1,j45.2.2.2.1,j45.2.2.2.2.1,j45.2.2.2.2.2.1,j45.2.2.2.2.2.2.1,1152921504606846976,()),h46)
    else
    let x50:Int:=wrapA .u64 j45.2.1
    (bindV (.val (.one (.int .u64))) (binInt .quo .u64 18446744073709551615 x50) fun (x51:Int)=>
    let x52:Int:=wrapA .u64 (x51+1)
    some ((j45.1,j45.2.1,j45.2.2.1,j45.2.2.2.1,j45.2.2.2.2.1,j45.2.2.2.2.2.1,j45.2.2.2.2.2.2.1,x52,()),h46))))) fun (j53:(List UInt8×Int×Int×Int×AV×Bool×List UInt8×Int×Unit)) h54=>
   let x55:Int:=wrapA .u64 j53.2.2.1
   (bindV (.val (.one (.int .u64))) (shiftA .shl .u64 1 x55) fun (x56:Int)=>
   let x57:Int:=wrapA .u64 (x56-1)
   (bindT (.val (.one .slice)) (convA E 9 81 (.str j53.1) h54) fun (x58:SL) h59=>
   (bind3 (f257_l1 N N j53.2.1 j53.2.2.2.1 j53.2.2.2.2.1 j53.2.2.2.2.2.1 j53.2.2.2.2.2.2.1 j53.2.2.2.2.2.2.2.1 x57 false 0 x58 (Int.ofNat x58.len) 0 h59) fun o119 (j120:(Int×AV×List UInt8×Bool×Int×Unit)) h121=>
   (bif eqOut o119 (.exit 3) then
   (need (α:=Sum ((Int×Unit)×Heap) (Sum ((Int×AV×Unit)×Heap) (Empty))) (
    (bind2 (α:=(Int×Bool×Unit)) (
    (bif j120.2.2.2.1 then
     (bind2 (f263 N j120.2.2.1 h121) fun (x122:Bool) h123=>
     let x124:Bool:=!x122
     some ((j120.2.2.2.2.1,x124,()),h123))
    else
     some ((j120.2.2.2.2.1,false,()),h121))) fun (j125:(Int×Bool×Unit)) h126=>
    (bif j125.2.1 then
    some (Sum.inr (Sum.inl ((0,(AV.iface 256 (.int .i64 2)),()),h126)))
    else
    some (Sum.inl ((j125.1,()),h126))))) fun j127=>
   (jcase j127 (fun (j128:(Int×Unit)) h129=>
    some ((j128.1,AV.nilIface,()),h129)) fun j130=>
   (jcase j130 (fun (j131:(Int×AV×Unit)) h132=>
    some ((j131.1,j131.2.1,()),h132)) fun _=>
   none)))
   else
   some ((j120.1,j120.2.1,()),h121))))))) fun j47=>
  (jcase j47 (fun (j134:(Int×AV×Unit)) h135=>
   some ((j134.1,j134.2.1,()),h135)) fun _=>
  none)))) fun j38=>
  (jcase j38 (fun (j137:(Int×AV×Unit)) h138=>
  some ((j137.1,j137.2.1,()),h138)) fun _=>
  none))))
noncomputable def ann257:Ann:=(.two .n (.two .n (.two .n (.two .n (.two (.joinO [(.norm,[(0,(.one .str)),(1,(.one (.int .i64))),(2,(.one (.int .i64))),(6,(.one (.int .u64))),(7,(.one .any)),(8,(.one .bool)),(9,(.one .str))]),(.ret,[(6,(.one (.int .u64))),(7,(.one .any))])] (.two (.two (.join [(0,(.one .str)),(1,(.one (.int .i64))),(2,(.one (.int .i64))),(6,(.one (.int .u64))),(7,(.one .any)),(8,(.one .bool)),(9,(.one .str)),(25,(.one .bool))] .n) (.two .n (.two .n (.two (.two .n (.two .n (.two (.two (.two (.join [(0,(.one .str)),(2,(.one (.int .i64))),(6,(.one (.int .u64))),(7,(.one .any)),(8,(.one .bool)),(9,(.one .str)),(40,(.one .bool))] .n) (.two .n (.two (.join [(0,(.one .str)),(2,(.one (.int .i64))),(6,(.one (.int .u64))),(7,(.one .any)),(8,(.one .bool)),(9,(.one .str)),(52,(.one .bool))] .n) (.two .n (.two (.join [(0,(.one .str)),(2,(.one (.int .i64))),(6,(.one (.int .u64))),(7,(.one .any)),(8,(.one .bool)),(9,(.one .str)),(64,(.one .bool))] .n) .n))))) .n) .n))) .n)))) .n)) (.two (.joinO [(.norm,[(0,(.one .str)),(1,(.one (.int .i64))),(2,(.one (.int .i64))),(6,(.one (.int .u64))),(7,(.one .any)),(8,(.one .bool)),(9,(.one .str))]),(.ret,[(6,(.one (.int .u64))),(7,(.one .any))])] (.two .n (.two .n (.two (.join [(0,(.one .str)),(1,(.one (.int .i64))),(2,(.one (.int .i64))),(6,(.one (.int .u64))),(7,(.one .any)),(8,(.one .bool)),(9,(.one .str)),(83,(.one .bool))] .n) .n)))) (.two .n (.two (.join [(0,(.one .str)),(1,(.one (.int .i64))),(2,(.one (.int .i64))),(6,(.one (.int .u64))),(7,(.one .any)),(8,(.one .bool)),(9,(.one .str)),(10,(.one (.int .u64)))] .n) (.two .n (.two .n (.two .n (.two (.two .n (.two (.loop [(1,(.one (.int .i64))),(6,(.one (.int .u64))),(7,(.one .any)),(8,(.one .bool)),(9,(.one .str)),(10,(.one (.int .u64))),(11,(.one (.int .u64))),(12,(.one .bool)),(13,(.one (.int .u64))),(99,(.one .slice)),(100,(.one (.int .i64))),(101,(.one (.int .i64)))] [(.exit 3),.ret] [(6,(.one (.int .u64))),(7,(.one .any)),(9,(.one .str)),(12,(.one .bool)),(13,(.one (.int .u64)))] (.two .n (.two .n (.two (.joinO [(.norm,[(1,(.one (.int .i64))),(6,(.one (.int .u64))),(7,(.one .any)),(8,(.one .bool)),(9,(.one .str)),(10,(.one (.int .u64))),(11,(.one (.int .u64))),(12,(.one .bool)),(13,(.one (.int .u64))),(99,(.one .slice)),(100,(.one (.int .i64))),(101,(.one (.int .i64)))]),(.ret,[(6,(.one (.int .u64))),(7,(.one .any)),(9,(.one .str)),(12,(.one .bool)),(13,(.one (.int .u64)))])] (.two (.two .n (.two .n (.two (.joinO [(.norm,[(1,(.one (.int .i64))),(6,(.one (.int .u64))),(7,(.one .any)),(8,(.one .bool)),(9,(.one .str)),(10,(.one (.int .u64))),(11,(.one (.int .u64))),(12,(.one .bool)),(13,(.one (.int .u64))),(16,(.one (.int .u8))),(99,(.one .slice)),(100,(.one (.int .i64))),(101,(.one (.int .i64)))]),((.exit 4),[(1,(.one (.int .i64))),(6,(.one (.int .u64))),(7,(.one .any)),(8,(.one .bool)),(9,(.one .str)),(10,(.one (.int .u64))),(11,(.one (.int .u64))),(12,(.one .bool)),(13,(.one (.int .u64))),(99,(.one .slice)),(100,(.one (.int .i64))),(101,(.one (.int .i64)))]),(.ret,[(6,(.one (.int .u64))),(7,(.one .any)),(9,(.one .str)),(12,(.one .bool)),(13,(.one (.int .u64)))])] (.two (.two (.join [(1,(.one (.int .i64))),(6,(.one (.int .u64))),(7,(.one .any)),(8,(.one .bool)),(9,(.one .str)),(10,(.one (.int .u64))),(11,(.one (.int .u64))),(12,(.one .bool)),(13,(.one (.int .u64))),(15,(.one (.int .u8))),(99,(.one .slice)),(100,(.one (.int .i64))),(101,(.one (.int .i64))),(106,(.one .bool))] .n) (.two .n (.two (.join [(1,(.one (.int .i64))),(6,(.one (.int .u64))),(7,(.one .any)),(8,(.one .bool)),(9,(.one .str)),(10,(.one (.int .u64))),(11,(.one (.int .u64))),(12,(.one .bool)),(13,(.one (.int .u64))),(15,(.one (.int .u8))),(99,(.one .slice)),(100,(.one (.int .i64))),(101,(.one (.int .i64))),(112,(.one .bool))] .n) (.two .n (.two (.join [(1,(.one (.int .i64))),(6,(.one (.int .u64))),(7,(.one .any)),(8,(.one .bool)),(9,(.one .str)),(10,(.one (.int .u64))),(11,(.one (.int .u64))),(12,(.one .bool)),(13,(.one (.int .u64))),(15,(.one (.int .u8))),(99,(.one .slice)),(100,(.one (.int .i64))),(101,(.one (.int .i64))),(121,(.one .bool))] .n) .n))))) .n)) (.two .n (.two .n (.two .n (.two .n (.two (.joinO [(.norm,[(1,(.one (.int .i64))),(6,(.one (.int .u64))),(7,(.one .any)),(8,(.one .bool)),(9,(.one .str)),(10,(.one (.int .u64))),(11,(.one (.int .u64))),(12,(.one .bool)),(17,(.one (.int .u64))),(99,(.one .slice)),(100,(.one (.int .i64))),(101,(.one (.int .i64)))]),(.ret,[(6,(.one (.int .u64))),(7,(.one .any)),(9,(.one .str)),(12,(.one .bool)),(13,(.one (.int .u64)))])] (.two (.join [(1,(.one (.int .i64))),(6,(.one (.int .u64))),(7,(.one .any)),(8,(.one .bool)),(9,(.one .str)),(10,(.one (.int .u64))),(11,(.one (.int .u64))),(12,(.one .bool)),(13,(.one (.int .u64))),(17,(.one (.int .u64))),(99,(.one .slice)),(100,(.one (.int .i64))),(101,(.one (.int .i64))),(159,(.one .bool))] .n) .n)) .n)))))))) .n)) .n)))) .n)) (.two (.joinO [(.norm,[(13,(.one (.int .u64)))]),(.ret,[(6,(.one (.int .u64))),(7,(.one .any))])] (.two (.join [(13,(.one (.int .u64))),(169,(.one .bool))] .n) .n)) .n)))))))))))))
theorem f257_ok (N:Nat):FnOK Tryz.prog 257 [(.one .str),(.one (.int .i64)),(.one (.int .i64))] (.tup [(.one (.int .u64)),(.one .any)]) (fun x h=>f257 N x.1 x.2.1 x.2.2.1 h):=
 runK_ok envOK hmix (addCall_ok (f263_ok N) (addCall_ok (f262_ok N) noCalls_ok)) (N:=N) (x:=ann257) (fn:=Tryz.f257) (c:=Tryz.f257.body.getD .skip) (by kernel_rfl) (by kernel_rfl) (by kernel_rfl) (by kernel_rfl) (fun _ _=>by kernel_rfl)
noncomputable def f245 (N:Nat) (a0:List UInt8) (a1:Int) (a2:Int) (h:Heap):Option ((Int×AV×Unit)×Heap):=
 let x1:Bool:=eqBytes a0 []
 (bif x1 then
  some ((0,(AV.iface 256 (.int .i64 2)),()),h)
 else
  (bind2 (α:=(List UInt8×Int×Int×Bool×Unit)) (
  (strK a0 0 fun x2=>
  let x3:Bool:=eqInt x2 43
  (bif x3 then
   (bindV (.val (.one .str)) (sliceA E h 9 (.str a0) (some (.int .i64 1)) none) fun (x4:List UInt8)=>
   some ((x4,a1,a2,false,()),h))
  else
   let x5:Bool:=eqInt x2 45
   (bif x5 then
   (bindV (.val (.one .str)) (sliceA E h 9 (.str a0) (some (.int .i64 1)) none) fun (x6:List UInt8)=>
   some ((x6,a1,a2,true,()),h))
   else
   some ((a0,a1,a2,false,()),h))))) fun (j7:(List UInt8×Int×Int×Bool×Unit)) h8=>
  (bind2 (f257 N j7.1 j7.2.1 j7.2.2.1 h8) fun (x9:(Int×AV×Unit)) h10=>
  (bind2 (α:=(Int×AV×Bool×Int×Bool×Unit)) (
  (bindV (.val (.one .bool)) (binA E .neq 29 (.tmp 32) (.const .nilIface) x9.2.1 AV.nilIface) fun (x11:Bool)=>
  (bif x11 then
   (bindV (.val (.one .bool)) (binA E .neq 29 (.tmp 35) (.tmp 36) x9.2.1 (AV.iface 256 (.int .i64 1))) fun (x12:Bool)=>
   some ((j7.2.2.1,x9.2.1,j7.2.2.2.1,x9.1,x12,()),h10))
  else
   some ((j7.2.2.1,x9.2.1,j7.2.2.2.1,x9.1,false,()),h10)))) fun (j13:(Int×AV×Bool×Int×Bool×Unit)) h14=>
  (bif j13.2.2.2.2.1 then
  some ((0,j13.2.1,()),h14)
  else
  (bind2 (α:=(Int×Bool×Int×Unit)) (
   let x15:Bool:=eqInt j13.1 0
   (bif x15 then
   some ((64,j13.2.2.1,j13.2.2.2.1,()),h14)
   else
   some ((j13.1,j13.2.2.1,j13.2.2.2.1,()),h14))) fun (j16:(Int×Bool×Int×Unit)) h17=>
  let x18:Int:=wrapA .i64 (j16.1-1)
  let x19:Int:=wrapA .u64 x18
  (bindV (.val (.one (.int .u64))) (shiftA .shl .u64 1 x19) fun (x20:Int)=>
  (bind2 (α:=(Bool×Int×Int×Bool×Unit)) (
   let x21:Bool:=!j16.2.1
   (bif x21 then
   let x22:Bool:=leInt x20 j16.2.2.1
   some ((j16.2.1,j16.2.2.1,x20,x22,()),h17)
   else
   some ((j16.2.1,j16.2.2.1,x20,false,()),h17))) fun (j23:(Bool×Int×Int×Bool×Unit)) h24=>
  (bif j23.2.2.2.1 then
   let x25:Int:=wrapA .u64 (j23.2.2.1-1)
   let x26:Int:=wrapA .i64 x25
   some ((x26,(AV.iface 256 (.int .i64 1)),()),h24)
  else
   (bind2 (α:=(Bool×Int×Int×Bool×Unit)) (
   (bif j23.1 then
    let x27:Bool:=ltInt j23.2.2.1 j23.2.1
    some ((j23.1,j23.2.1,j23.2.2.1,x27,()),h24)
   else
    some ((j23.1,j23.2.1,j23.2.2.1,false,()),h24))) fun (j28:(Bool×Int×Int×Bool×Unit)) h29=>
   (bif j28.2.2.2.1 then
   let x30:Int:=wrapA .i64 j28.2.2.1
   let x31:Int:=wrapA .i64 (0-x30)
   some ((x31,(AV.iface 256 (.int .i64 1)),()),h29)
   else
   let x32:Int:=wrapA .i64 j28.2.1
   (bind2 (α:=(Int×Unit)) (
    (bif j28.1 then
    let x33:Int:=wrapA .i64 (0-x32)
    some ((x33,()),h29)
    else
    some ((x32,()),h29))) fun (j34:(Int×Unit)) h35=>
   some ((j34.1,AV.nilIface,()),h35)))))))))))))
noncomputable def ann245:Ann:=(.two .n (.two .n (.two .n (.two (.join [(0,(.one .str)),(1,(.one (.int .i64))),(2,(.one (.int .i64))),(8,(.one .bool))] .n) (.two .n (.two .n (.two (.two (.join [(2,(.one (.int .i64))),(7,(.one .any)),(8,(.one .bool)),(9,(.one (.int .u64))),(38,(.one .bool))] .n) .n) (.two (.join [(2,(.one (.int .i64))),(8,(.one .bool)),(9,(.one (.int .u64)))] .n) (.two .n (.two (.two (.join [(8,(.one .bool)),(9,(.one (.int .u64))),(10,(.one (.int .u64))),(52,(.one .bool))] .n) .n) (.two (.two (.join [(8,(.one .bool)),(9,(.one (.int .u64))),(10,(.one (.int .u64))),(62,(.one .bool))] .n) .n) (.two .n (.two (.join [(11,(.one (.int .i64)))] .n) .n)))))))))))))
theorem f245_ok (N:Nat):FnOK Tryz.prog 245 [(.one .str),(.one (.int .i64)),(.one (.int .i64))] (.tup [(.one (.int .i64)),(.one .any)]) (fun x h=>f245 N x.1 x.2.1 x.2.2.1 h):=
 runK_ok envOK hmix (addCall_ok (f257_ok N) noCalls_ok) (N:=N) (x:=ann245) (fn:=Tryz.f245) (c:=Tryz.f245.body.getD .skip) (by kernel_rfl) (by kernel_rfl) (by kernel_rfl) (by kernel_rfl) (fun _ _=>by kernel_rfl)
noncomputable def f233_l1_b (N:Nat) (go:Int→AV→List UInt8→Int→SL→Int→Int→Heap→Option (Out×(Int×AV×List UInt8×Int×Unit)×Heap)) (v2:Int) (v3:AV) (v5:List UInt8) (v6:Int) (v47:SL) (v48:Int) (v49:Int) (h:Heap):Option (Out×(Int×AV×List UInt8×Int×Unit)×Heap):=
 let x19:Bool:=ltInt v49 v48
 (bif x19 then
  (ixK v47.a v47.len v49 1 fun q20=>
  (bindV (.val (.one (.int .u8))) (h.cell q20) fun (x21:Int)=>
  let x22:Int:=wrapA .u8 (x21-48)
  let x23:Bool:=ltInt 9 x22
  (bif x23 then
  some (Out.ret,(0,(AV.iface 256 (.int .i64 2)),v5,v6,()),h)
  else
  let x24:Int:=wrapA .i64 (v6 * 10)
  let x25:Int:=wrapA .i64 x22
  let x26:Int:=wrapA .i64 (x24+x25)
  let x27:Int:=wrapA .i64 (v49+1)
  go v2 v3 v5 x26 v47 v48 x27 h)))
 else
  some ((Out.exit 0),(v2,v3,v5,v6,()),h))
noncomputable def f233_l1 (N:Nat) (M:Nat) (v2:Int) (v3:AV) (v5:List UInt8) (v6:Int) (v47:SL) (v48:Int) (v49:Int) (h:Heap):Option (Out×(Int×AV×List UInt8×Int×Unit)×Heap):=iter (fun go s h=>f233_l1_b N (fun v2 v3 v5 v6 v47 v48 v49 h=>go (v2,v3,v5,v6,v47,v48,v49,()) h) s.1 s.2.1 s.2.2.1 s.2.2.2.1 s.2.2.2.2.1 s.2.2.2.2.2.1 s.2.2.2.2.2.2.1 h) M (v2,v3,v5,v6,v47,v48,v49,()) h
theorem f233_l1_succ (N:Nat) (M:Nat) (v2:Int) (v3:AV) (v5:List UInt8) (v6:Int) (v47:SL) (v48:Int) (v49:Int) (h:Heap):f233_l1 N (M+1) v2 v3 v5 v6 v47 v48 v49 h=f233_l1_b N (f233_l1 N M) v2 v3 v5 v6 v47 v48 v49 h:=rfl
noncomputable def f233 (N:Nat) (a0:List UInt8) (h:Heap):Option ((Int×AV×Unit)×Heap):=
 (need (α:=Sum ((List UInt8×Unit)×Heap) (Sum ((Int×AV×Unit)×Heap) (Empty))) (
  (bind2 (α:=(List UInt8×Int×AV×Bool×Unit)) (
  let x1:Bool:=ltInt 0 (Int.ofNat a0.length)
  (bif x1 then
   let x2:Bool:=ltInt (Int.ofNat a0.length) 19
   some ((a0,0,AV.nilIface,x2,()),h)
  else
   some ((a0,0,AV.nilIface,false,()),h))) fun (j3:(List UInt8×Int×AV×Bool×Unit)) h4=>
  (bif j3.2.2.2.1 then
  (need (α:=Sum ((List UInt8×Int×AV×List UInt8×Unit)×Heap) (Sum ((Int×AV×Unit)×Heap) (Empty))) (
   (bind2 (α:=(List UInt8×Int×AV×List UInt8×Bool×Unit)) (
   (strK j3.1 0 fun x5=>
   let x6:Bool:=eqInt x5 45
   (bif x6 then
    some ((j3.1,j3.2.1,j3.2.2.1,j3.1,true,()),h4)
   else
    (strK j3.1 0 fun x7=>
    let x8:Bool:=eqInt x7 43
    some ((j3.1,j3.2.1,j3.2.2.1,j3.1,x8,()),h4))))) fun (j9:(List UInt8×Int×AV×List UInt8×Bool×Unit)) h10=>
   (bif j9.2.2.2.2.1 then
   (bindV (.val (.one .str)) (sliceA E h10 9 (.str j9.1) (some (.int .i64 1)) none) fun (x11:List UInt8)=>
   let x12:Bool:=ltInt (Int.ofNat x11.length) 1
   (bif x12 then
    some (Sum.inr (Sum.inl ((0,(AV.iface 256 (.int .i64 2)),()),h10)))
   else
    some (Sum.inl ((x11,j9.2.1,j9.2.2.1,j9.2.2.2.1,()),h10))))
   else
   some (Sum.inl ((j9.1,j9.2.1,j9.2.2.1,j9.2.2.2.1,()),h10))))) fun j13=>
  (jcase j13 (fun (j14:(List UInt8×Int×AV×List UInt8×Unit)) h15=>
   (bindT (.val (.one .slice)) (convA E 9 81 (.str j14.1) h15) fun (x17:SL) h18=>
   (bind3 (f233_l1 N N j14.2.1 j14.2.2.1 j14.2.2.2.1 0 x17 (Int.ofNat x17.len) 0 h18) fun o28 (j29:(Int×AV×List UInt8×Int×Unit)) h30=>
   (bif eqOut o28 (.exit 0) then
   (bind2 (α:=(Int×Unit)) (
    (strK j29.2.2.1 0 fun x31=>
    let x32:Bool:=eqInt x31 45
    (bif x32 then
    let x33:Int:=wrapA .i64 (0-j29.2.2.2.1)
    some ((x33,()),h30)
    else
    some ((j29.2.2.2.1,()),h30)))) fun (j34:(Int×Unit)) h35=>
   some (Sum.inr (Sum.inl ((j34.1,AV.nilIface,()),h35))))
   else
   some (Sum.inr (Sum.inl ((j29.1,j29.2.1,()),h30))))))) fun j16=>
  (jcase j16 (fun (j36:(Int×AV×Unit)) h37=>
   some (Sum.inr (Sum.inl ((j36.1,j36.2.1,()),h37)))) fun _=>
  none)))
  else
  some (Sum.inl ((j3.1,()),h4))))) fun j39=>
 (jcase j39 (fun (j40:(List UInt8×Unit)) h41=>
  (bind2 (f245 N j40.1 10 0 h41) fun (x43:(Int×AV×Unit)) h44=>
  some ((x43.1,x43.2.1,()),h44))) fun j42=>
 (jcase j42 (fun (j45:(Int×AV×Unit)) h46=>
  some ((j45.1,j45.2.1,()),h46)) fun _=>
 none)))
noncomputable def ann233:Ann:=(.two .n (.two .n (.two (.joinO [(.norm,[(0,(.one .str))]),(.ret,[(2,(.one (.int .i64))),(3,(.one .any))])] (.two (.join [(0,(.one .str)),(2,(.one (.int .i64))),(3,(.one .any)),(30,(.one .bool))] .n) (.two (.two .n (.two (.joinO [(.norm,[(0,(.one .str)),(2,(.one (.int .i64))),(3,(.one .any)),(5,(.one .str))]),(.ret,[(2,(.one (.int .i64))),(3,(.one .any))])] (.two (.join [(0,(.one .str)),(2,(.one (.int .i64))),(3,(.one .any)),(5,(.one .str)),(39,(.one .bool))] .n) .n)) (.two .n (.two (.two .n (.two (.loop [(2,(.one (.int .i64))),(3,(.one .any)),(5,(.one .str)),(6,(.one (.int .i64))),(47,(.one .slice)),(48,(.one (.int .i64))),(49,(.one (.int .i64)))] [(.exit 0),.ret] [(2,(.one (.int .i64))),(3,(.one .any)),(5,(.one .str)),(6,(.one (.int .i64)))] .n) .n)) (.two (.join [(6,(.one (.int .i64)))] .n) .n))))) .n))) .n)))
theorem f233_ok (N:Nat):FnOK Tryz.prog 233 [(.one .str)] (.tup [(.one (.int .i64)),(.one .any)]) (fun x h=>f233 N x.1 h):=
 runK_ok envOK hmix (addCall_ok (f245_ok N) noCalls_ok) (N:=N) (x:=ann233) (fn:=Tryz.f233) (c:=Tryz.f233.body.getD .skip) (by kernel_rfl) (by kernel_rfl) (by kernel_rfl) (by kernel_rfl) (fun _ _=>by kernel_rfl)
noncomputable def f234 (N:Nat) (a0:List UInt8) (a1:List UInt8) (a2:Int) (a3:Int) (a4:AV) (h:Heap):Option (AV×Heap):=Qw.toErrF a0 a1 a2 a3 a4 h
theorem f234_ok (N:Nat):FnOK Tryz.prog 234 [(.one .str),(.one .str),(.one (.int .i64)),(.one (.int .i64)),(.one .any)] (.val (.one .any)) (fun x h=>f234 N x.1 x.2.1 x.2.2.1 x.2.2.2.1 x.2.2.2.2.1 h):=Qw.f234_ok N
noncomputable def f220 (N:Nat) (a0:List UInt8) (h:Heap):Option ((Int×AV×Unit)×Heap):=
 (bind2 (f233 N a0 h) fun (x1:(Int×AV×Unit)) h2=>
 (bindV (.val (.one .bool)) (binA E .neq 29 (.tmp 11) (.const .nilIface) x1.2.1 AV.nilIface) fun (x3:Bool)=>
 (bif x3 then
  (bind2 (f234 N [65,116,111,105] a0 0 0 x1.2.1 h2) fun (x4:AV) h5=>
  some ((x1.1,x4,()),h5))
 else
  some ((x1.1,AV.nilIface,()),h2))))
noncomputable def ann220:Ann:=.n
theorem f220_ok (N:Nat):FnOK Tryz.prog 220 [(.one .str)] (.tup [(.one (.int .i64)),(.one .any)]) (fun x h=>f220 N x.1 h):=
 runK_ok envOK hmix (addCall_ok (f234_ok N) (addCall_ok (f233_ok N) noCalls_ok)) (N:=N) (x:=ann220) (fn:=Tryz.f220) (c:=Tryz.f220.body.getD .skip) (by kernel_rfl) (by kernel_rfl) (by kernel_rfl) (by kernel_rfl) (fun _ _=>by kernel_rfl)
noncomputable def f208 (N:Nat) (a0:Option (Nat×Nat)) (h:Heap):Option ((Int×Int×List UInt8×SL×Unit)×Heap):=
 let h1:Heap:=h.push (.row [(.int .i64 0),(.int .i64 0),(.str []),(.slice none 0 0 0)] .own)
 (bind2 (f92 N a0 [116,114,117,101] h1) fun (x2:Bool) h3=>
 (bif x2 then
  (need (h3.store (h.next,0) [(.int .i64 2),(.int .i64 1),(.str []),(.slice none 0 0 0)]) fun h4=>
  (bindV (.val (.agg [(.int .i64),(.int .i64),.str,.slice])) (h4.cells (h.next,0) 4) fun (x5:(Int×Int×List UInt8×SL×Unit))=>
  some ((x5.1,x5.2.1,x5.2.2.1,x5.2.2.2.1,()),h4)))
 else
  (bind2 (f92 N a0 [102,97,108,115,101] h3) fun (x6:Bool) h7=>
  (bif x6 then
  (need (h7.store (h.next,0) [(.int .i64 2),(.int .i64 0),(.str []),(.slice none 0 0 0)]) fun h8=>
  (bindV (.val (.agg [(.int .i64),(.int .i64),.str,.slice])) (h8.cells (h.next,0) 4) fun (x9:(Int×Int×List UInt8×SL×Unit))=>
  some ((x9.1,x9.2.1,x9.2.2.1,x9.2.2.2.1,()),h8)))
  else
  (bind2 (f56 N a0 h7) fun (x10:(Int×List UInt8×Int×Unit)) h11=>
  let x12:Bool:=eqInt x10.1 4
  (bif x12 then
   (bind2 (f94 N a0 4 h11) fun (x13:List UInt8) h14=>
   (bind2 (f220 N x13 h14) fun (x15:(Int×AV×Unit)) h16=>
   (need (h16.store (h.next,0) [(.int .i64 1),(.int .i64 x15.1),(.str []),(.slice none 0 0 0)]) fun h17=>
   (bindV (.val (.agg [(.int .i64),(.int .i64),.str,.slice])) (h17.cells (h.next,0) 4) fun (x18:(Int×Int×List UInt8×SL×Unit))=>
   some ((x18.1,x18.2.1,x18.2.2.1,x18.2.2.2.1,()),h17)))))
  else
   (bind2 (f221 N a0 h11) fun (x19:(List UInt8×SL×Unit)) h20=>
   (need (h20.store (h.next,0) [(.int .i64 3),(.int .i64 0),(.str x19.1),(.slice x19.2.1.a x19.2.1.len x19.2.1.cap x19.2.1.sz)]) fun h21=>
   (bindV (.val (.agg [(.int .i64),(.int .i64),.str,.slice])) (h21.cells (h.next,0) 4) fun (x22:(Int×Int×List UInt8×SL×Unit))=>
   some ((x22.1,x22.2.1,x22.2.2.1,x22.2.2.2.1,()),h21))))))))))
noncomputable def ann208:Ann:=.n
theorem f208_ok (N:Nat):FnOK Tryz.prog 208 [(.one .ptr)] (.val (.agg [(.int .i64),(.int .i64),.str,.slice])) (fun x h=>f208 N x.1 h):=
 runK_ok envOK hmix (addCall_ok (f94_ok N) (addCall_ok (f92_ok N) (addCall_ok (f56_ok N) (addCall_ok (f221_ok N) (addCall_ok (f220_ok N) noCalls_ok))))) (N:=N) (x:=ann208) (fn:=Tryz.f208) (c:=Tryz.f208.body.getD .skip) (by kernel_rfl) (by kernel_rfl) (by kernel_rfl) (by kernel_rfl) (fun _ _=>by kernel_rfl)
noncomputable def f231 (N:Nat) (a0:Option (Nat×Nat)) (a1:List UInt8) (h:Heap):Option (Bool×Heap):=
 (need a0 fun q1=>
 (bindV (.val (.one .any)) (h.cell (q1.1,q1.2+3)) fun (x2:AV)=>
 (bindV (.val (.one .bool)) (binA E .neq 29 (.tmp 9) (.const .nilIface) x2 AV.nilIface) fun (x3:Bool)=>
 (bif x3 then
  some (false,h)
 else
  (bind2 (f56 N a0 h) fun (x4:(Int×List UInt8×Int×Unit)) h5=>
  let x6:Bool:=!eqInt x4.1 1
  (bif x6 then
  some (false,h5)
  else
  (need a0 fun q7=>
  (bindV (.val (.one .slice)) (h5.cell (q7.1,q7.2+0)) fun (x8:SL)=>
  (need a0 fun q9=>
  (bindV (.val (.one (.int .i64))) (h5.cell (q9.1,q9.2+1)) fun (x10:Int)=>
  let x11:Int:=wrapA .i64 (x10+1)
  (ixK x8.a x8.len x11 3 fun q12=>
  (bindV (.val (.agg [(.int .i64),.str,(.int .i64)])) (h5.cells q12 3) fun (x13:(Int×List UInt8×Int×Unit))=>
  let h14:Heap:=h5.push (.row [(.int .i64 0),(.str []),(.int .i64 0)] .own)
  (need (h14.store (h5.next,0) [(.int .i64 x13.1),(.str x13.2.1),(.int .i64 x13.2.2.1)]) fun h15=>
  (guardB (bif (sameO (h14.cells q12 3) (.agg [(.int .i64 x13.1),(.str x13.2.1),(.int .i64 x13.2.2.1)])) then (bif (sameO (h5.cells q12 3) (.agg [(.int .i64 x13.1),(.str x13.2.1),(.int .i64 x13.2.2.1)])) then (bif (sameO (h14.cell (q9.1,q9.2+1)) (.int .i64 x10)) then (bif (sameO (h5.cell (q9.1,q9.2+1)) (.int .i64 x10)) then (bif (sameO (h14.cell (q7.1,q7.2+0)) (.slice x8.a x8.len x8.cap x8.sz)) then (bif (sameO (h5.cell (q7.1,q7.2+0)) (.slice x8.a x8.len x8.cap x8.sz)) then true else false) else false) else false) else false) else false) else false) (
  (bindV (.val (.one (.int .i64))) (h15.cell ((h5.next,0).1,(h5.next,0).2+0)) fun (x16:Int)=>
  let x17:Bool:=eqInt x16 5
  (bif x17 then
   (bindV (.val (.one .str)) (h15.cell ((h5.next,0).1,(h5.next,0).2+1)) fun (x18:List UInt8)=>
   let x19:Bool:=eqBytes x18 a1
   some (x19,h15))
  else
   some (false,h15))))))))))))))))))
noncomputable def ann231:Ann:=.n
theorem f231_ok (N:Nat):FnOK Tryz.prog 231 [(.one .ptr),(.one .str)] (.val (.one .bool)) (fun x h=>f231 N x.1 x.2.1 h):=
 runK_ok envOK hmix (addCall_ok (f56_ok N) noCalls_ok) (N:=N) (x:=ann231) (fn:=Tryz.f231) (c:=Tryz.f231.body.getD .skip) (by kernel_rfl) (by kernel_rfl) (by kernel_rfl) (by kernel_rfl) (fun _ _=>by kernel_rfl)
noncomputable def f222 (N:Nat) (a0:Option (Nat×Nat)) (h:Heap):Option (Bool×Heap):=
 (bind2 (f231 N a0 [58,58] h) fun (x1:Bool) h2=>
 (bif x1 then
  some (true,h2)
 else
  (bind2 (f231 N a0 [40] h2) fun (x3:Bool) h4=>
  some (x3,h4))))
noncomputable def ann222:Ann:=.n
theorem f222_ok (N:Nat):FnOK Tryz.prog 222 [(.one .ptr)] (.val (.one .bool)) (fun x h=>f222 N x.1 h):=
 runK_ok envOK hmix (addCall_ok (f231_ok N) noCalls_ok) (N:=N) (x:=ann222) (fn:=Tryz.f222) (c:=Tryz.f222.body.getD .skip) (by kernel_rfl) (by kernel_rfl) (by kernel_rfl) (by kernel_rfl) (fun _ _=>by kernel_rfl)
noncomputable def f256 (N:Nat) (a0:Option (Nat×Nat)) (a1:Option (Nat×Nat)) (h:Heap):Option ((Unit)×Heap):=
 (need a0 fun q1=>
 (bindV (.val (.one .ptr)) (h.cell q1) fun (x2:Option (Nat×Nat))=>
 (need a0 fun q3=>
 (bindV (.val (.one .ptr)) (h.cell q3) fun (x4:Option (Nat×Nat))=>
 (need x4 fun q5=>
 (bindV (.val (.one .slice)) (h.cell (q5.1,q5.2+13)) fun (x6:SL)=>
 (need a1 fun q7=>
 (bindV (.val (.one .ptr)) (h.cell q7) fun (x8:Option (Nat×Nat))=>
 (bind2 (f94 N x8 1 h) fun (x9:List UInt8) h10=>
 let h11:Heap:=h10.push (.row [(.str x9)] .own)
 (bindT (.val (.one .slice)) (appendA E 38 38 (.slice x6.a x6.len x6.cap x6.sz) (.slice (some (h10.next,0)) 1 1 1) h11) fun (x12:SL) h13=>
 (need x2 fun q14=>
 (need (h13.store (q14.1,q14.2+13) [(.slice x12.a x12.len x12.cap x12.sz)]) fun h15=>
 (guardB (bif (needB a1 fun q=>sameO (h.cell q) (.ptr x8)) then (bif (sameO (h11.cell (q5.1,q5.2+13)) (.slice x6.a x6.len x6.cap x6.sz)) then (bif (sameO (h10.cell (q5.1,q5.2+13)) (.slice x6.a x6.len x6.cap x6.sz)) then (bif (sameO (h.cell (q5.1,q5.2+13)) (.slice x6.a x6.len x6.cap x6.sz)) then (bif (needB a0 fun q=>sameO (h11.cell q) (.ptr x4)) then (bif (needB a0 fun q=>sameO (h10.cell q) (.ptr x4)) then (bif (needB a0 fun q=>sameO (h.cell q) (.ptr x4)) then (bif (needB a0 fun q=>sameO (h13.cell q) (.ptr x2)) then (bif (needB a0 fun q=>sameO (h11.cell q) (.ptr x2)) then (bif (needB a0 fun q=>sameO (h10.cell q) (.ptr x2)) then (bif (needB a0 fun q=>sameO (h.cell q) (.ptr x2)) then true else false) else false) else false) else false) else false) else false) else false) else false) else false) else false) else false) (
 (need a1 fun q16=>
 (bindV (.val (.one .ptr)) (h15.cell q16) fun (x17:Option (Nat×Nat))=>
 (bind2 (f149 N x17 [58] h15) fun (x18:(Unit)) h19=>
 (need a0 fun q20=>
 (bindV (.val (.one .ptr)) (h19.cell q20) fun (x21:Option (Nat×Nat))=>
 (need a0 fun q22=>
 (bindV (.val (.one .ptr)) (h19.cell q22) fun (x23:Option (Nat×Nat))=>
 (need x23 fun q24=>
 (bindV (.val (.one .slice)) (h19.cell (q24.1,q24.2+14)) fun (x25:SL)=>
 (need a1 fun q26=>
 (bindV (.val (.one .ptr)) (h19.cell q26) fun (x27:Option (Nat×Nat))=>
 (bind2 (f208 N x27 h19) fun (x28:(Int×Int×List UInt8×SL×Unit)) h29=>
 let h30:Heap:=h29.push (.row [(.int .i64 x28.1),(.int .i64 x28.2.1),(.str x28.2.2.1),(.slice x28.2.2.2.1.a x28.2.2.2.1.len x28.2.2.2.1.cap x28.2.2.2.1.sz)] .own)
 (bindT (.val (.one .slice)) (appendA E 102 102 (.slice x25.a x25.len x25.cap x25.sz) (.slice (some (h29.next,0)) 1 1 4) h30) fun (x31:SL) h32=>
 (need x21 fun q33=>
 (need (h32.store (q33.1,q33.2+14) [(.slice x31.a x31.len x31.cap x31.sz)]) fun h34=>
 (guardB (bif (needB a1 fun q=>sameO (h19.cell q) (.ptr x27)) then (bif (sameO (h30.cell (q24.1,q24.2+14)) (.slice x25.a x25.len x25.cap x25.sz)) then (bif (sameO (h29.cell (q24.1,q24.2+14)) (.slice x25.a x25.len x25.cap x25.sz)) then (bif (sameO (h19.cell (q24.1,q24.2+14)) (.slice x25.a x25.len x25.cap x25.sz)) then (bif (needB a0 fun q=>sameO (h30.cell q) (.ptr x23)) then (bif (needB a0 fun q=>sameO (h29.cell q) (.ptr x23)) then (bif (needB a0 fun q=>sameO (h19.cell q) (.ptr x23)) then (bif (needB a0 fun q=>sameO (h32.cell q) (.ptr x21)) then (bif (needB a0 fun q=>sameO (h30.cell q) (.ptr x21)) then (bif (needB a0 fun q=>sameO (h29.cell q) (.ptr x21)) then (bif (needB a0 fun q=>sameO (h19.cell q) (.ptr x21)) then true else false) else false) else false) else false) else false) else false) else false) else false) else false) else false) else false) (
 some ((()),h34))))))))))))))))))))))))))))))))
noncomputable def ann256:Ann:=.n
theorem f256_ok (N:Nat):FnOK Tryz.prog 256 [(.one .ptr),(.one .ptr)] (.tup []) (fun x h=>f256 N x.1 x.2.1 h):=
 runK_ok envOK hmix (addCall_ok (f94_ok N) (addCall_ok (f208_ok N) (addCall_ok (f149_ok N) noCalls_ok))) (N:=N) (x:=ann256) (fn:=Tryz.f256) (c:=Tryz.f256.body.getD .skip) (by kernel_rfl) (by kernel_rfl) (by kernel_rfl) (by kernel_rfl) (fun _ _=>by kernel_rfl)
noncomputable def f147c256_l1_b (N:Nat) (go:Option (Nat×Nat)→List UInt8→(Option (Nat×Nat)×Option (Nat×Nat)×Unit)→Int→Heap→Option (Out×(Unit)×Heap)) (v0:Option (Nat×Nat)) (v1:List UInt8) (v2:(Option (Nat×Nat)×Option (Nat×Nat)×Unit)) (v6:Int) (h:Heap):Option (Out×(Unit)×Heap):=
 (bind2 (f188 N v0 v6 h) fun (x1:Bool) h2=>
 (bif x1 then
  (bind2 (f256 N v2.1 v2.2.1 h2) fun (x3:(Unit)) h4=>
  (bind2 (f93 N v0 v1 h4) fun (x5:Bool) h6=>
  let x7:Bool:=!x5
  (bif x7 then
  some (Out.ret,(()),h6)
  else
  let x8:Int:=wrapA .i64 (v6+1)
  go v0 v1 (v2.1,v2.2.1,()) x8 h6)))
 else
  some ((Out.exit 0),(()),h2)))
noncomputable def f147c256_l1 (N:Nat) (M:Nat) (v0:Option (Nat×Nat)) (v1:List UInt8) (v2:(Option (Nat×Nat)×Option (Nat×Nat)×Unit)) (v6:Int) (h:Heap):Option (Out×(Unit)×Heap):=iter (fun go s h=>f147c256_l1_b N (fun v0 v1 v2 v6 h=>go (v0,v1,v2,v6,()) h) s.1 s.2.1 s.2.2.1 s.2.2.2.1 h) M (v0,v1,v2,v6,()) h
theorem f147c256_l1_succ (N:Nat) (M:Nat) (v0:Option (Nat×Nat)) (v1:List UInt8) (v2:(Option (Nat×Nat)×Option (Nat×Nat)×Unit)) (v6:Int) (h:Heap):f147c256_l1 N (M+1) v0 v1 v2 v6 h=f147c256_l1_b N (f147c256_l1 N M) v0 v1 v2 v6 h:=rfl
noncomputable def f147c256 (N:Nat) (a0:Option (Nat×Nat)) (a1:List UInt8) (a2:(Option (Nat×Nat)×Option (Nat×Nat)×Unit)) (h:Heap):Option ((Unit)×Heap):=
 (bind3 (f147c256_l1 N N a0 a1 (a2.1,a2.2.1,()) 0 h) fun o9 (j10:(Unit)) h11=>
 (bif eqOut o9 (.exit 0) then
  some ((()),h11)
 else
  some ((()),h11)))
noncomputable def ann147c256:Ann:=(.two .n (.two (.loop [(0,(.one .ptr)),(1,(.one .str)),(2,(.clo 256 [.ptr,.ptr])),(6,(.one (.int .i64)))] [(.exit 0),.ret] [] .n) .n))
theorem f147c256_ok (N:Nat):FnOK Tryz.prog 147 [(.one .ptr),(.one .str),(.clo 256 [.ptr,.ptr])] (.tup []) (fun x h=>f147c256 N x.1 x.2.1 x.2.2.1 h):=
 runK_ok envOK hmix (addCall_ok (f93_ok N) (addCall_ok (f256_ok N) (addCall_ok (f188_ok N) noCalls_ok))) (N:=N) (x:=ann147c256) (fn:=Tryz.f147) (c:=Tryz.f147.body.getD .skip) (by kernel_rfl) (by kernel_rfl) (by kernel_rfl) (by kernel_rfl) (fun _ _=>by kernel_rfl)
noncomputable def f244 (N:Nat) (a0:Option (Nat×Nat)) (a1:Option (Nat×Nat)) (h:Heap):Option ((Unit)×Heap):=
 let h1:Heap:=h.push (.row [(.ptr a0)] .own)
 let h2:Heap:=h1.push (.row [(.ptr a1)] .own)
 (bindV (.val (.one .ptr)) (h2.cell (h.next,0)) fun (x3:Option (Nat×Nat))=>
 (bind2 (f149 N x3 [123] h2) fun (x4:(Unit)) h5=>
 (bindV (.val (.one .ptr)) (h5.cell (h.next,0)) fun (x6:Option (Nat×Nat))=>
 (bind2 (f93 N x6 [125] h5) fun (x7:Bool) h8=>
 let x9:Bool:=!x7
 (bif x9 then
  (bindV (.val (.one .ptr)) (h8.cell (h.next,0)) fun (x10:Option (Nat×Nat))=>
  (bind2 (f147c256 N x10 [44] ((some (h1.next,0)),(some (h.next,0)),()) h8) fun (x11:(Unit)) h12=>
  (bindV (.val (.one .ptr)) (h12.cell (h.next,0)) fun (x13:Option (Nat×Nat))=>
  (bind2 (f149 N x13 [125] h12) fun (x14:(Unit)) h15=>
  some ((()),h15)))))
 else
  some ((()),h8))))))
noncomputable def ann244:Ann:=.n
theorem f244_ok (N:Nat):FnOK Tryz.prog 244 [(.one .ptr),(.one .ptr)] (.tup []) (fun x h=>f244 N x.1 x.2.1 h):=
 runK_ok envOK hmix (addCall_ok (f93_ok N) (addCall_ok (f149_ok N) (addCallS_ok (sel:=fun a=>isClo 2 256 a) (f147c256_ok N) noCalls_ok))) (N:=N) (x:=ann244) (fn:=Tryz.f244) (c:=Tryz.f244.body.getD .skip) (by kernel_rfl) (by kernel_rfl) (by kernel_rfl) (by kernel_rfl) (fun _ _=>by kernel_rfl)
noncomputable def f235 (N:Nat) (a0:Option (Nat×Nat)) (a1:Option (Nat×Nat)) (h:Heap):Option ((Unit)×Heap):=
 (need a0 fun q1=>
 (bindV (.val (.one .ptr)) (h.cell q1) fun (x2:Option (Nat×Nat))=>
 (need a0 fun q3=>
 (bindV (.val (.one .ptr)) (h.cell q3) fun (x4:Option (Nat×Nat))=>
 (need x4 fun q5=>
 (bindV (.val (.one .slice)) (h.cell (q5.1,q5.2+14)) fun (x6:SL)=>
 (need a1 fun q7=>
 (bindV (.val (.one .ptr)) (h.cell q7) fun (x8:Option (Nat×Nat))=>
 (bind2 (f208 N x8 h) fun (x9:(Int×Int×List UInt8×SL×Unit)) h10=>
 let h11:Heap:=h10.push (.row [(.int .i64 x9.1),(.int .i64 x9.2.1),(.str x9.2.2.1),(.slice x9.2.2.2.1.a x9.2.2.2.1.len x9.2.2.2.1.cap x9.2.2.2.1.sz)] .own)
 (bindT (.val (.one .slice)) (appendA E 102 102 (.slice x6.a x6.len x6.cap x6.sz) (.slice (some (h10.next,0)) 1 1 4) h11) fun (x12:SL) h13=>
 (need x2 fun q14=>
 (need (h13.store (q14.1,q14.2+14) [(.slice x12.a x12.len x12.cap x12.sz)]) fun h15=>
 (guardB (bif (needB a1 fun q=>sameO (h.cell q) (.ptr x8)) then (bif (sameO (h11.cell (q5.1,q5.2+14)) (.slice x6.a x6.len x6.cap x6.sz)) then (bif (sameO (h10.cell (q5.1,q5.2+14)) (.slice x6.a x6.len x6.cap x6.sz)) then (bif (sameO (h.cell (q5.1,q5.2+14)) (.slice x6.a x6.len x6.cap x6.sz)) then (bif (needB a0 fun q=>sameO (h11.cell q) (.ptr x4)) then (bif (needB a0 fun q=>sameO (h10.cell q) (.ptr x4)) then (bif (needB a0 fun q=>sameO (h.cell q) (.ptr x4)) then (bif (needB a0 fun q=>sameO (h13.cell q) (.ptr x2)) then (bif (needB a0 fun q=>sameO (h11.cell q) (.ptr x2)) then (bif (needB a0 fun q=>sameO (h10.cell q) (.ptr x2)) then (bif (needB a0 fun q=>sameO (h.cell q) (.ptr x2)) then true else false) else false) else false) else false) else false) else false) else false) else false) else false) else false) else false) (
 some ((()),h15)))))))))))))))
noncomputable def ann235:Ann:=.n
theorem f235_ok (N:Nat):FnOK Tryz.prog 235 [(.one .ptr),(.one .ptr)] (.tup []) (fun x h=>f235 N x.1 x.2.1 h):=
 runK_ok envOK hmix (addCall_ok (f208_ok N) noCalls_ok) (N:=N) (x:=ann235) (fn:=Tryz.f235) (c:=Tryz.f235.body.getD .skip) (by kernel_rfl) (by kernel_rfl) (by kernel_rfl) (by kernel_rfl) (fun _ _=>by kernel_rfl)
noncomputable def f147c235_l1_b (N:Nat) (go:Option (Nat×Nat)→List UInt8→(Option (Nat×Nat)×Option (Nat×Nat)×Unit)→Int→Heap→Option (Out×(Unit)×Heap)) (v0:Option (Nat×Nat)) (v1:List UInt8) (v2:(Option (Nat×Nat)×Option (Nat×Nat)×Unit)) (v6:Int) (h:Heap):Option (Out×(Unit)×Heap):=
 (bind2 (f188 N v0 v6 h) fun (x1:Bool) h2=>
 (bif x1 then
  (bind2 (f235 N v2.1 v2.2.1 h2) fun (x3:(Unit)) h4=>
  (bind2 (f93 N v0 v1 h4) fun (x5:Bool) h6=>
  let x7:Bool:=!x5
  (bif x7 then
  some (Out.ret,(()),h6)
  else
  let x8:Int:=wrapA .i64 (v6+1)
  go v0 v1 (v2.1,v2.2.1,()) x8 h6)))
 else
  some ((Out.exit 0),(()),h2)))
noncomputable def f147c235_l1 (N:Nat) (M:Nat) (v0:Option (Nat×Nat)) (v1:List UInt8) (v2:(Option (Nat×Nat)×Option (Nat×Nat)×Unit)) (v6:Int) (h:Heap):Option (Out×(Unit)×Heap):=iter (fun go s h=>f147c235_l1_b N (fun v0 v1 v2 v6 h=>go (v0,v1,v2,v6,()) h) s.1 s.2.1 s.2.2.1 s.2.2.2.1 h) M (v0,v1,v2,v6,()) h
theorem f147c235_l1_succ (N:Nat) (M:Nat) (v0:Option (Nat×Nat)) (v1:List UInt8) (v2:(Option (Nat×Nat)×Option (Nat×Nat)×Unit)) (v6:Int) (h:Heap):f147c235_l1 N (M+1) v0 v1 v2 v6 h=f147c235_l1_b N (f147c235_l1 N M) v0 v1 v2 v6 h:=rfl
noncomputable def f147c235 (N:Nat) (a0:Option (Nat×Nat)) (a1:List UInt8) (a2:(Option (Nat×Nat)×Option (Nat×Nat)×Unit)) (h:Heap):Option ((Unit)×Heap):=
 (bind3 (f147c235_l1 N N a0 a1 (a2.1,a2.2.1,()) 0 h) fun o9 (j10:(Unit)) h11=>
 (bif eqOut o9 (.exit 0) then
  some ((()),h11)
 else
  some ((()),h11)))
noncomputable def ann147c235:Ann:=(.two .n (.two (.loop [(0,(.one .ptr)),(1,(.one .str)),(2,(.clo 235 [.ptr,.ptr])),(6,(.one (.int .i64)))] [(.exit 0),.ret] [] .n) .n))
theorem f147c235_ok (N:Nat):FnOK Tryz.prog 147 [(.one .ptr),(.one .str),(.clo 235 [.ptr,.ptr])] (.tup []) (fun x h=>f147c235 N x.1 x.2.1 x.2.2.1 h):=
 runK_ok envOK hmix (addCall_ok (f93_ok N) (addCall_ok (f235_ok N) (addCall_ok (f188_ok N) noCalls_ok))) (N:=N) (x:=ann147c235) (fn:=Tryz.f147) (c:=Tryz.f147.body.getD .skip) (by kernel_rfl) (by kernel_rfl) (by kernel_rfl) (by kernel_rfl) (fun _ _=>by kernel_rfl)
noncomputable def f223 (N:Nat) (a0:Option (Nat×Nat)) (a1:Option (Nat×Nat)) (h:Heap):Option ((Unit)×Heap):=
 let h1:Heap:=h.push (.row [(.ptr a0)] .own)
 let h2:Heap:=h1.push (.row [(.ptr a1)] .own)
 (bindV (.val (.one .ptr)) (h2.cell (h.next,0)) fun (x3:Option (Nat×Nat))=>
 (bind2 (f149 N x3 [40] h2) fun (x4:(Unit)) h5=>
 (bindV (.val (.one .ptr)) (h5.cell (h.next,0)) fun (x6:Option (Nat×Nat))=>
 (bind2 (f93 N x6 [41] h5) fun (x7:Bool) h8=>
 let x9:Bool:=!x7
 (bif x9 then
  (bindV (.val (.one .ptr)) (h8.cell (h.next,0)) fun (x10:Option (Nat×Nat))=>
  (bind2 (f147c235 N x10 [44] ((some (h1.next,0)),(some (h.next,0)),()) h8) fun (x11:(Unit)) h12=>
  (bindV (.val (.one .ptr)) (h12.cell (h.next,0)) fun (x13:Option (Nat×Nat))=>
  (bind2 (f149 N x13 [41] h12) fun (x14:(Unit)) h15=>
  some ((()),h15)))))
 else
  some ((()),h8))))))
noncomputable def ann223:Ann:=.n
theorem f223_ok (N:Nat):FnOK Tryz.prog 223 [(.one .ptr),(.one .ptr)] (.tup []) (fun x h=>f223 N x.1 x.2.1 h):=
 runK_ok envOK hmix (addCall_ok (f93_ok N) (addCall_ok (f149_ok N) (addCallS_ok (sel:=fun a=>isClo 2 235 a) (f147c235_ok N) noCalls_ok))) (N:=N) (x:=ann223) (fn:=Tryz.f223) (c:=Tryz.f223.body.getD .skip) (by kernel_rfl) (by kernel_rfl) (by kernel_rfl) (by kernel_rfl) (fun _ _=>by kernel_rfl)
noncomputable def f232 (N:Nat) (a0:Option (Nat×Nat)) (h:Heap):Option ((Int×Int×Int×List UInt8×SL×Int×Int×List UInt8×SL×Int×List UInt8×SL×List UInt8×SL×SL×Unit)×Heap):=
 let h1:Heap:=h.push (.row [(.int .i64 0),(.int .i64 0),(.int .i64 0),(.str []),(.slice none 0 0 0),(.int .i64 0),(.int .i64 0),(.str []),(.slice none 0 0 0),(.int .i64 0),(.str []),(.slice none 0 0 0),(.str []),(.slice none 0 0 0),(.slice none 0 0 0)] .own)
 (bind2 (f95 N a0 h1) fun (x2:List UInt8) h3=>
 let h4:Heap:=h3.push (.row [(.int .i64 0),(.int .i64 0),(.int .i64 0),(.str []),(.slice none 0 0 0),(.int .i64 0),(.int .i64 0),(.str []),(.slice none 0 0 0),(.int .i64 0),(.str []),(.slice none 0 0 0),(.str []),(.slice none 0 0 0),(.slice none 0 0 0)] .own)
 (need (h4.store (h3.next,0) [(.int .i64 6),(.int .i64 0),(.int .i64 0),(.str []),(.slice none 0 0 0),(.int .i64 0),(.int .i64 0),(.str []),(.slice none 0 0 0),(.int .i64 0),(.str []),(.slice none 0 0 0),(.str x2),(.slice none 0 0 0),(.slice none 0 0 0)]) fun h5=>
 (bind2 (f146 N a0 5 [123] h5) fun (x6:Bool) h7=>
 (bif x6 then
  (need (h7.store ((h3.next,0).1,(h3.next,0).2+0) [(.int .i64 7)]) fun h8=>
  (bind2 (f244 N a0 (some (h3.next,0)) h8) fun (x9:(Unit)) h10=>
  (bindV (.val (.agg [(.int .i64),(.int .i64),(.int .i64),.str,.slice,(.int .i64),(.int .i64),.str,.slice,(.int .i64),.str,.slice,.str,.slice,.slice])) (h10.cells (h3.next,0) 15) fun (x11:(Int×Int×Int×List UInt8×SL×Int×Int×List UInt8×SL×Int×List UInt8×SL×List UInt8×SL×SL×Unit))=>
  (need (h10.store (h.next,0) [(.int .i64 x11.1),(.int .i64 x11.2.1),(.int .i64 x11.2.2.1),(.str x11.2.2.2.1),(.slice x11.2.2.2.2.1.a x11.2.2.2.2.1.len x11.2.2.2.2.1.cap x11.2.2.2.2.1.sz),(.int .i64 x11.2.2.2.2.2.1),(.int .i64 x11.2.2.2.2.2.2.1),(.str x11.2.2.2.2.2.2.2.1),(.slice x11.2.2.2.2.2.2.2.2.1.a x11.2.2.2.2.2.2.2.2.1.len x11.2.2.2.2.2.2.2.2.1.cap x11.2.2.2.2.2.2.2.2.1.sz),(.int .i64 x11.2.2.2.2.2.2.2.2.2.1),(.str x11.2.2.2.2.2.2.2.2.2.2.1),(.slice x11.2.2.2.2.2.2.2.2.2.2.2.1.a x11.2.2.2.2.2.2.2.2.2.2.2.1.len x11.2.2.2.2.2.2.2.2.2.2.2.1.cap x11.2.2.2.2.2.2.2.2.2.2.2.1.sz),(.str x11.2.2.2.2.2.2.2.2.2.2.2.2.1),(.slice x11.2.2.2.2.2.2.2.2.2.2.2.2.2.1.a x11.2.2.2.2.2.2.2.2.2.2.2.2.2.1.len x11.2.2.2.2.2.2.2.2.2.2.2.2.2.1.cap x11.2.2.2.2.2.2.2.2.2.2.2.2.2.1.sz),(.slice x11.2.2.2.2.2.2.2.2.2.2.2.2.2.2.1.a x11.2.2.2.2.2.2.2.2.2.2.2.2.2.2.1.len x11.2.2.2.2.2.2.2.2.2.2.2.2.2.2.1.cap x11.2.2.2.2.2.2.2.2.2.2.2.2.2.2.1.sz)]) fun h12=>
  (bindV (.val (.agg [(.int .i64),(.int .i64),(.int .i64),.str,.slice,(.int .i64),(.int .i64),.str,.slice,(.int .i64),.str,.slice,.str,.slice,.slice])) (h12.cells (h.next,0) 15) fun (x13:(Int×Int×Int×List UInt8×SL×Int×Int×List UInt8×SL×Int×List UInt8×SL×List UInt8×SL×SL×Unit))=>
  some ((x13.1,x13.2.1,x13.2.2.1,x13.2.2.2.1,x13.2.2.2.2.1,x13.2.2.2.2.2.1,x13.2.2.2.2.2.2.1,x13.2.2.2.2.2.2.2.1,x13.2.2.2.2.2.2.2.2.1,x13.2.2.2.2.2.2.2.2.2.1,x13.2.2.2.2.2.2.2.2.2.2.1,x13.2.2.2.2.2.2.2.2.2.2.2.1,x13.2.2.2.2.2.2.2.2.2.2.2.2.1,x13.2.2.2.2.2.2.2.2.2.2.2.2.2.1,x13.2.2.2.2.2.2.2.2.2.2.2.2.2.2.1,()),h12))))))
 else
  (bind2 (f223 N a0 (some (h3.next,0)) h7) fun (x14:(Unit)) h15=>
  (bindV (.val (.agg [(.int .i64),(.int .i64),(.int .i64),.str,.slice,(.int .i64),(.int .i64),.str,.slice,(.int .i64),.str,.slice,.str,.slice,.slice])) (h15.cells (h3.next,0) 15) fun (x16:(Int×Int×Int×List UInt8×SL×Int×Int×List UInt8×SL×Int×List UInt8×SL×List UInt8×SL×SL×Unit))=>
  (need (h15.store (h.next,0) [(.int .i64 x16.1),(.int .i64 x16.2.1),(.int .i64 x16.2.2.1),(.str x16.2.2.2.1),(.slice x16.2.2.2.2.1.a x16.2.2.2.2.1.len x16.2.2.2.2.1.cap x16.2.2.2.2.1.sz),(.int .i64 x16.2.2.2.2.2.1),(.int .i64 x16.2.2.2.2.2.2.1),(.str x16.2.2.2.2.2.2.2.1),(.slice x16.2.2.2.2.2.2.2.2.1.a x16.2.2.2.2.2.2.2.2.1.len x16.2.2.2.2.2.2.2.2.1.cap x16.2.2.2.2.2.2.2.2.1.sz),(.int .i64 x16.2.2.2.2.2.2.2.2.2.1),(.str x16.2.2.2.2.2.2.2.2.2.2.1),(.slice x16.2.2.2.2.2.2.2.2.2.2.2.1.a x16.2.2.2.2.2.2.2.2.2.2.2.1.len x16.2.2.2.2.2.2.2.2.2.2.2.1.cap x16.2.2.2.2.2.2.2.2.2.2.2.1.sz),(.str x16.2.2.2.2.2.2.2.2.2.2.2.2.1),(.slice x16.2.2.2.2.2.2.2.2.2.2.2.2.2.1.a x16.2.2.2.2.2.2.2.2.2.2.2.2.2.1.len x16.2.2.2.2.2.2.2.2.2.2.2.2.2.1.cap x16.2.2.2.2.2.2.2.2.2.2.2.2.2.1.sz),(.slice x16.2.2.2.2.2.2.2.2.2.2.2.2.2.2.1.a x16.2.2.2.2.2.2.2.2.2.2.2.2.2.2.1.len x16.2.2.2.2.2.2.2.2.2.2.2.2.2.2.1.cap x16.2.2.2.2.2.2.2.2.2.2.2.2.2.2.1.sz)]) fun h17=>
  (bindV (.val (.agg [(.int .i64),(.int .i64),(.int .i64),.str,.slice,(.int .i64),(.int .i64),.str,.slice,(.int .i64),.str,.slice,.str,.slice,.slice])) (h17.cells (h.next,0) 15) fun (x18:(Int×Int×Int×List UInt8×SL×Int×Int×List UInt8×SL×Int×List UInt8×SL×List UInt8×SL×SL×Unit))=>
  some ((x18.1,x18.2.1,x18.2.2.1,x18.2.2.2.1,x18.2.2.2.2.1,x18.2.2.2.2.2.1,x18.2.2.2.2.2.2.1,x18.2.2.2.2.2.2.2.1,x18.2.2.2.2.2.2.2.2.1,x18.2.2.2.2.2.2.2.2.2.1,x18.2.2.2.2.2.2.2.2.2.2.1,x18.2.2.2.2.2.2.2.2.2.2.2.1,x18.2.2.2.2.2.2.2.2.2.2.2.2.1,x18.2.2.2.2.2.2.2.2.2.2.2.2.2.1,x18.2.2.2.2.2.2.2.2.2.2.2.2.2.2.1,()),h17)))))))))
noncomputable def ann232:Ann:=.n
theorem f232_ok (N:Nat):FnOK Tryz.prog 232 [(.one .ptr)] (.val (.agg [(.int .i64),(.int .i64),(.int .i64),.str,.slice,(.int .i64),(.int .i64),.str,.slice,(.int .i64),.str,.slice,.str,.slice,.slice])) (fun x h=>f232 N x.1 h):=
 runK_ok envOK hmix (addCall_ok (f95_ok N) (addCall_ok (f244_ok N) (addCall_ok (f223_ok N) (addCall_ok (f146_ok N) noCalls_ok)))) (N:=N) (x:=ann232) (fn:=Tryz.f232) (c:=Tryz.f232.body.getD .skip) (by kernel_rfl) (by kernel_rfl) (by kernel_rfl) (by kernel_rfl) (fun _ _=>by kernel_rfl)
noncomputable def f219_l1_b (N:Nat) (go:Option (Nat×Nat)→Option (Nat×Nat)→Option (Nat×Nat)→SL→Int→Int→Heap→Option (Out×(Option (Nat×Nat)×Option (Nat×Nat)×Unit)×Heap)) (v0:Option (Nat×Nat)) (v2:Option (Nat×Nat)) (v4:Option (Nat×Nat)) (v34:SL) (v35:Int) (v36:Int) (h:Heap):Option (Out×(Option (Nat×Nat)×Option (Nat×Nat)×Unit)×Heap):=
 let x36:Bool:=ltInt v36 v35
 (bif x36 then
  (ixK v34.a v34.len v36 1 fun q37=>
  (bindV (.val (.one .str)) (h.cell q37) fun (x38:List UInt8)=>
  (bind2 (f93 N v0 x38 h) fun (x39:Bool) h40=>
  (bif x39 then
  let x41:Int:=wrapA .i64 (1+v36)
  (bind2 (f208 N v0 h40) fun (x42:(Int×Int×List UInt8×SL×Unit)) h43=>
  (need v4 fun q44=>
  (need (h43.store (q44.1,q44.2+0) [(.int .i64 5)]) fun h45=>
  (need v4 fun q46=>
  (need (h45.store (q46.1,q46.2+9) [(.int .i64 x41)]) fun h47=>
  (need v4 fun q48=>
  (need (h47.store (q48.1,q48.2+5) [(.int .i64 x42.1),(.int .i64 x42.2.1),(.str x42.2.2.1),(.slice x42.2.2.2.1.a x42.2.2.2.1.len x42.2.2.2.1.cap x42.2.2.2.1.sz)]) fun h49=>
  some ((Out.exit 1),(v2,v4,()),h49))))))))
  else
  let x50:Int:=wrapA .i64 (v36+1)
  go v0 v2 v4 v34 v35 x50 h40))))
 else
  some ((Out.exit 1),(v2,v4,()),h))
noncomputable def f219_l1 (N:Nat) (M:Nat) (v0:Option (Nat×Nat)) (v2:Option (Nat×Nat)) (v4:Option (Nat×Nat)) (v34:SL) (v35:Int) (v36:Int) (h:Heap):Option (Out×(Option (Nat×Nat)×Option (Nat×Nat)×Unit)×Heap):=iter (fun go s h=>f219_l1_b N (fun v0 v2 v4 v34 v35 v36 h=>go (v0,v2,v4,v34,v35,v36,()) h) s.1 s.2.1 s.2.2.1 s.2.2.2.1 s.2.2.2.2.1 s.2.2.2.2.2.1 h) M (v0,v2,v4,v34,v35,v36,()) h
theorem f219_l1_succ (N:Nat) (M:Nat) (v0:Option (Nat×Nat)) (v2:Option (Nat×Nat)) (v4:Option (Nat×Nat)) (v34:SL) (v35:Int) (v36:Int) (h:Heap):f219_l1 N (M+1) v0 v2 v4 v34 v35 v36 h=f219_l1_b N (f219_l1 N M) v0 v2 v4 v34 v35 v36 h:=rfl
noncomputable def f219 (N:Nat) (a0:Option (Nat×Nat)) (h:Heap):Option ((Int×Int×Int×List UInt8×SL×Int×Int×List UInt8×SL×Int×List UInt8×SL×List UInt8×SL×SL×Unit)×Heap):=
 let h1:Heap:=h.push (.row [(.int .i64 0),(.int .i64 0),(.int .i64 0),(.str []),(.slice none 0 0 0),(.int .i64 0),(.int .i64 0),(.str []),(.slice none 0 0 0),(.int .i64 0),(.str []),(.slice none 0 0 0),(.str []),(.slice none 0 0 0),(.slice none 0 0 0)] .own)
 (need (α:=Sum ((Option (Nat×Nat)×Option (Nat×Nat)×Unit)×Heap) (Sum ((Option (Nat×Nat)×Unit)×Heap) (Empty))) (
  (bind2 (f93 N a0 [38] h1) fun (x2:Bool) h3=>
  (bif x2 then
  (bind2 (α:=(Option (Nat×Nat)×Option (Nat×Nat)×Int×Unit)) (
   (bind2 (f92 N a0 [109,117,116] h3) fun (x4:Bool) h5=>
   (bif x4 then
   some ((a0,(some (h.next,0)),3,()),h5)
   else
   some ((a0,(some (h.next,0)),2,()),h5)))) fun (j6:(Option (Nat×Nat)×Option (Nat×Nat)×Int×Unit)) h7=>
  (bind2 (f221 N j6.1 h7) fun (x8:(List UInt8×SL×Unit)) h9=>
  (need j6.2.1 fun q11=>
  (need (h9.store q11 [(.int .i64 j6.2.2.1),(.int .i64 0),(.int .i64 0),(.str []),(.slice none 0 0 0),(.int .i64 0),(.int .i64 0),(.str []),(.slice none 0 0 0),(.int .i64 0),(.str x8.1),(.slice x8.2.1.a x8.2.1.len x8.2.1.cap x8.2.1.sz),(.str []),(.slice none 0 0 0),(.slice none 0 0 0)]) fun h10=>
  some (Sum.inr (Sum.inl ((j6.2.1,()),h10)))))))
  else
  (bind2 (f93 N a0 [33] h3) fun (x12:Bool) h13=>
  (bif x12 then
   (bind2 (f208 N a0 h13) fun (x14:(Int×Int×List UInt8×SL×Unit)) h15=>
   (need (h15.store (h.next,0) [(.int .i64 4),(.int .i64 x14.1),(.int .i64 x14.2.1),(.str x14.2.2.1),(.slice x14.2.2.2.1.a x14.2.2.2.1.len x14.2.2.2.1.cap x14.2.2.2.1.sz),(.int .i64 0),(.int .i64 0),(.str []),(.slice none 0 0 0),(.int .i64 0),(.str []),(.slice none 0 0 0),(.str []),(.slice none 0 0 0),(.slice none 0 0 0)]) fun h16=>
   some (Sum.inr (Sum.inl (((some (h.next,0)),()),h16)))))
  else
   (bind2 (α:=(Option (Nat×Nat)×Option (Nat×Nat)×Bool×Unit)) (
   (bind2 (f222 N a0 h13) fun (x17:Bool) h18=>
   (bif x17 then
    some ((a0,(some (h.next,0)),true,()),h18)
   else
    (bind2 (f231 N a0 [123] h18) fun (x19:Bool) h20=>
    some ((a0,(some (h.next,0)),x19,()),h20))))) fun (j21:(Option (Nat×Nat)×Option (Nat×Nat)×Bool×Unit)) h22=>
   (bif j21.2.2.1 then
   (bind2 (f232 N j21.1 h22) fun (x23:(Int×Int×Int×List UInt8×SL×Int×Int×List UInt8×SL×Int×List UInt8×SL×List UInt8×SL×SL×Unit)) h24=>
   (need j21.2.1 fun q26=>
   (need (h24.store q26 [(.int .i64 x23.1),(.int .i64 x23.2.1),(.int .i64 x23.2.2.1),(.str x23.2.2.2.1),(.slice x23.2.2.2.2.1.a x23.2.2.2.2.1.len x23.2.2.2.2.1.cap x23.2.2.2.2.1.sz),(.int .i64 x23.2.2.2.2.2.1),(.int .i64 x23.2.2.2.2.2.2.1),(.str x23.2.2.2.2.2.2.2.1),(.slice x23.2.2.2.2.2.2.2.2.1.a x23.2.2.2.2.2.2.2.2.1.len x23.2.2.2.2.2.2.2.2.1.cap x23.2.2.2.2.2.2.2.2.1.sz),(.int .i64 x23.2.2.2.2.2.2.2.2.2.1),(.str x23.2.2.2.2.2.2.2.2.2.2.1),(.slice x23.2.2.2.2.2.2.2.2.2.2.2.1.a x23.2.2.2.2.2.2.2.2.2.2.2.1.len x23.2.2.2.2.2.2.2.2.2.2.2.1.cap x23.2.2.2.2.2.2.2.2.2.2.2.1.sz),(.str x23.2.2.2.2.2.2.2.2.2.2.2.2.1),(.slice x23.2.2.2.2.2.2.2.2.2.2.2.2.2.1.a x23.2.2.2.2.2.2.2.2.2.2.2.2.2.1.len x23.2.2.2.2.2.2.2.2.2.2.2.2.2.1.cap x23.2.2.2.2.2.2.2.2.2.2.2.2.2.1.sz),(.slice x23.2.2.2.2.2.2.2.2.2.2.2.2.2.2.1.a x23.2.2.2.2.2.2.2.2.2.2.2.2.2.2.1.len x23.2.2.2.2.2.2.2.2.2.2.2.2.2.2.1.cap x23.2.2.2.2.2.2.2.2.2.2.2.2.2.2.1.sz)]) fun h25=>
   some (Sum.inr (Sum.inl ((j21.2.1,()),h25))))))
   else
   some (Sum.inl ((j21.1,j21.2.1,()),h22))))))))) fun j27=>
 (jcase j27 (fun (j28:(Option (Nat×Nat)×Option (Nat×Nat)×Unit)) h29=>
  (bind2 (f208 N j28.1 h29) fun (x31:(Int×Int×List UInt8×SL×Unit)) h32=>
  let h33:Heap:=h32.push (.row [(.int .i64 0),(.int .i64 0),(.int .i64 0),(.str []),(.slice none 0 0 0),(.int .i64 0),(.int .i64 0),(.str []),(.slice none 0 0 0),(.int .i64 0),(.str []),(.slice none 0 0 0),(.str []),(.slice none 0 0 0),(.slice none 0 0 0)] .own)
  (need (h33.store (h32.next,0) [(.int .i64 1),(.int .i64 x31.1),(.int .i64 x31.2.1),(.str x31.2.2.1),(.slice x31.2.2.2.1.a x31.2.2.2.1.len x31.2.2.2.1.cap x31.2.2.2.1.sz),(.int .i64 0),(.int .i64 0),(.str []),(.slice none 0 0 0),(.int .i64 0),(.str []),(.slice none 0 0 0),(.str []),(.slice none 0 0 0),(.slice none 0 0 0)]) fun h34=>
  let h35:Heap:=h34.push (.row [(.str [43]),(.str [45]),(.str [60]),(.str [61,61])] .own)
  (bind3 (f219_l1 N N j28.1 j28.2.1 (some (h32.next,0)) ⟨(some (h34.next,0)),4,4,1⟩ (Int.ofNat 4) 0 h35) fun _ (j52:(Option (Nat×Nat)×Option (Nat×Nat)×Unit)) h53=>
  (need j52.2.1 fun q54=>
  (bindV (.val (.agg [(.int .i64),(.int .i64),(.int .i64),.str,.slice,(.int .i64),(.int .i64),.str,.slice,(.int .i64),.str,.slice,.str,.slice,.slice])) (h53.cells q54 15) fun (x55:(Int×Int×Int×List UInt8×SL×Int×Int×List UInt8×SL×Int×List UInt8×SL×List UInt8×SL×SL×Unit))=>
  (need j52.1 fun q57=>
  (need (h53.store q57 [(.int .i64 x55.1),(.int .i64 x55.2.1),(.int .i64 x55.2.2.1),(.str x55.2.2.2.1),(.slice x55.2.2.2.2.1.a x55.2.2.2.2.1.len x55.2.2.2.2.1.cap x55.2.2.2.2.1.sz),(.int .i64 x55.2.2.2.2.2.1),(.int .i64 x55.2.2.2.2.2.2.1),(.str x55.2.2.2.2.2.2.2.1),(.slice x55.2.2.2.2.2.2.2.2.1.a x55.2.2.2.2.2.2.2.2.1.len x55.2.2.2.2.2.2.2.2.1.cap x55.2.2.2.2.2.2.2.2.1.sz),(.int .i64 x55.2.2.2.2.2.2.2.2.2.1),(.str x55.2.2.2.2.2.2.2.2.2.2.1),(.slice x55.2.2.2.2.2.2.2.2.2.2.2.1.a x55.2.2.2.2.2.2.2.2.2.2.2.1.len x55.2.2.2.2.2.2.2.2.2.2.2.1.cap x55.2.2.2.2.2.2.2.2.2.2.2.1.sz),(.str x55.2.2.2.2.2.2.2.2.2.2.2.2.1),(.slice x55.2.2.2.2.2.2.2.2.2.2.2.2.2.1.a x55.2.2.2.2.2.2.2.2.2.2.2.2.2.1.len x55.2.2.2.2.2.2.2.2.2.2.2.2.2.1.cap x55.2.2.2.2.2.2.2.2.2.2.2.2.2.1.sz),(.slice x55.2.2.2.2.2.2.2.2.2.2.2.2.2.2.1.a x55.2.2.2.2.2.2.2.2.2.2.2.2.2.2.1.len x55.2.2.2.2.2.2.2.2.2.2.2.2.2.2.1.cap x55.2.2.2.2.2.2.2.2.2.2.2.2.2.2.1.sz)]) fun h56=>
  (need j52.1 fun q58=>
  (bindV (.val (.agg [(.int .i64),(.int .i64),(.int .i64),.str,.slice,(.int .i64),(.int .i64),.str,.slice,(.int .i64),.str,.slice,.str,.slice,.slice])) (h56.cells q58 15) fun (x59:(Int×Int×Int×List UInt8×SL×Int×Int×List UInt8×SL×Int×List UInt8×SL×List UInt8×SL×SL×Unit))=>
  some ((x59.1,x59.2.1,x59.2.2.1,x59.2.2.2.1,x59.2.2.2.2.1,x59.2.2.2.2.2.1,x59.2.2.2.2.2.2.1,x59.2.2.2.2.2.2.2.1,x59.2.2.2.2.2.2.2.2.1,x59.2.2.2.2.2.2.2.2.2.1,x59.2.2.2.2.2.2.2.2.2.2.1,x59.2.2.2.2.2.2.2.2.2.2.2.1,x59.2.2.2.2.2.2.2.2.2.2.2.2.1,x59.2.2.2.2.2.2.2.2.2.2.2.2.2.1,x59.2.2.2.2.2.2.2.2.2.2.2.2.2.2.1,()),h56))))))))))) fun j30=>
 (jcase j30 (fun (j60:(Option (Nat×Nat)×Unit)) h61=>
  (need j60.1 fun q63=>
  (bindV (.val (.agg [(.int .i64),(.int .i64),(.int .i64),.str,.slice,(.int .i64),(.int .i64),.str,.slice,(.int .i64),.str,.slice,.str,.slice,.slice])) (h61.cells q63 15) fun (x64:(Int×Int×Int×List UInt8×SL×Int×Int×List UInt8×SL×Int×List UInt8×SL×List UInt8×SL×SL×Unit))=>
  some ((x64.1,x64.2.1,x64.2.2.1,x64.2.2.2.1,x64.2.2.2.2.1,x64.2.2.2.2.2.1,x64.2.2.2.2.2.2.1,x64.2.2.2.2.2.2.2.1,x64.2.2.2.2.2.2.2.2.1,x64.2.2.2.2.2.2.2.2.2.1,x64.2.2.2.2.2.2.2.2.2.2.1,x64.2.2.2.2.2.2.2.2.2.2.2.1,x64.2.2.2.2.2.2.2.2.2.2.2.2.1,x64.2.2.2.2.2.2.2.2.2.2.2.2.2.1,x64.2.2.2.2.2.2.2.2.2.2.2.2.2.2.1,()),h61)))) fun _=>
 none)))
noncomputable def ann219:Ann:=(.two .n (.two (.joinO [(.norm,[(0,(.one .ptr)),(2,(.one .ptr))]),(.ret,[(2,(.one .ptr))])] (.two (.two .n (.two (.two .n (.two (.join [(0,(.one .ptr)),(2,(.one .ptr)),(3,(.one (.int .i64)))] .n) .n)) (.two .n (.two .n (.two (.join [(0,(.one .ptr)),(2,(.one .ptr)),(22,(.one .bool))] .n) .n))))) .n)) (.two .n (.two (.two .n (.two (.loop [(0,(.one .ptr)),(2,(.one .ptr)),(4,(.one .ptr)),(34,(.one .slice)),(35,(.one (.int .i64))),(36,(.one (.int .i64)))] [(.exit 1)] [(2,(.one .ptr)),(4,(.one .ptr))] .n) .n)) .n))))
theorem f219_ok (N:Nat):FnOK Tryz.prog 219 [(.one .ptr)] (.val (.agg [(.int .i64),(.int .i64),(.int .i64),.str,.slice,(.int .i64),(.int .i64),.str,.slice,(.int .i64),.str,.slice,.str,.slice,.slice])) (fun x h=>f219 N x.1 h):=
 runK_ok envOK hmix (addCall_ok (f93_ok N) (addCall_ok (f92_ok N) (addCall_ok (f232_ok N) (addCall_ok (f231_ok N) (addCall_ok (f222_ok N) (addCall_ok (f221_ok N) (addCall_ok (f208_ok N) noCalls_ok))))))) (N:=N) (x:=ann219) (fn:=Tryz.f219) (c:=Tryz.f219.body.getD .skip) (by kernel_rfl) (by kernel_rfl) (by kernel_rfl) (by kernel_rfl) (fun _ _=>by kernel_rfl)
noncomputable def f207 (N:Nat) (a0:Option (Nat×Nat)) (a1:Option (Nat×Nat)) (h:Heap):Option ((Unit)×Heap):=
 (bind2 (f92 N a0 [109,117,116] h) fun (x1:Bool) h2=>
 (need a1 fun q3=>
 (need (h2.store (q3.1,q3.2+0) [(.int .i64 1)]) fun h4=>
 (need a1 fun q5=>
 (need (h4.store (q5.1,q5.2+2) [(.bool x1)]) fun h6=>
 (bind2 (f154 N a0 h6) fun (x7:(Bool×List UInt8×Int×List UInt8×SL×SL×Unit)) h8=>
 let h9:Heap:=h8.push (.row [(.bool false),(.str []),(.int .i64 0),(.str []),(.slice none 0 0 0),(.slice none 0 0 0)] .own)
 (need (h9.store (h8.next,0) [(.bool x7.1),(.str x7.2.1),(.int .i64 x7.2.2.1),(.str x7.2.2.2.1),(.slice x7.2.2.2.2.1.a x7.2.2.2.2.1.len x7.2.2.2.2.1.cap x7.2.2.2.2.1.sz),(.slice x7.2.2.2.2.2.1.a x7.2.2.2.2.2.1.len x7.2.2.2.2.2.1.cap x7.2.2.2.2.2.1.sz)]) fun h10=>
 (bindV (.val (.one .str)) (h10.cell ((h8.next,0).1,(h8.next,0).2+1)) fun (x11:List UInt8)=>
 (bindV (.val (.agg [(.int .i64),.str,.slice,.slice])) (h10.cells ((h8.next,0).1,(h8.next,0).2+2) 4) fun (x12:(Int×List UInt8×SL×SL×Unit))=>
 (need a1 fun q13=>
 (need (h10.store (q13.1,q13.2+3) [(.str x11)]) fun h14=>
 (need a1 fun q15=>
 (need (h14.store (q15.1,q15.2+4) [(.int .i64 x12.1),(.str x12.2.1),(.slice x12.2.2.1.a x12.2.2.1.len x12.2.2.1.cap x12.2.2.1.sz),(.slice x12.2.2.2.1.a x12.2.2.2.1.len x12.2.2.2.1.cap x12.2.2.2.1.sz)]) fun h16=>
 (guardB (bif (sameO (h14.cells ((h8.next,0).1,(h8.next,0).2+2) 4) (.agg [(.int .i64 x12.1),(.str x12.2.1),(.slice x12.2.2.1.a x12.2.2.1.len x12.2.2.1.cap x12.2.2.1.sz),(.slice x12.2.2.2.1.a x12.2.2.2.1.len x12.2.2.2.1.cap x12.2.2.2.1.sz)])) then (bif (sameO (h10.cells ((h8.next,0).1,(h8.next,0).2+2) 4) (.agg [(.int .i64 x12.1),(.str x12.2.1),(.slice x12.2.2.1.a x12.2.2.1.len x12.2.2.1.cap x12.2.2.1.sz),(.slice x12.2.2.2.1.a x12.2.2.2.1.len x12.2.2.2.1.cap x12.2.2.2.1.sz)])) then (bif (sameO (h10.cell ((h8.next,0).1,(h8.next,0).2+1)) (.str x11)) then true else false) else false) else false) (
 (bind2 (f93 N a0 [61] h16) fun (x17:Bool) h18=>
 (need a1 fun q19=>
 (need (h18.store (q19.1,q19.2+8) [(.bool x17)]) fun h20=>
 (need a1 fun q21=>
 (bindV (.val (.one .bool)) (h20.cell (q21.1,q21.2+8)) fun (x22:Bool)=>
 (bif x22 then
  (bind2 (f219 N a0 h20) fun (x23:(Int×Int×Int×List UInt8×SL×Int×Int×List UInt8×SL×Int×List UInt8×SL×List UInt8×SL×SL×Unit)) h24=>
  (need a1 fun q25=>
  (need (h24.store (q25.1,q25.2+11) [(.int .i64 x23.1),(.int .i64 x23.2.1),(.int .i64 x23.2.2.1),(.str x23.2.2.2.1),(.slice x23.2.2.2.2.1.a x23.2.2.2.2.1.len x23.2.2.2.2.1.cap x23.2.2.2.2.1.sz),(.int .i64 x23.2.2.2.2.2.1),(.int .i64 x23.2.2.2.2.2.2.1),(.str x23.2.2.2.2.2.2.2.1),(.slice x23.2.2.2.2.2.2.2.2.1.a x23.2.2.2.2.2.2.2.2.1.len x23.2.2.2.2.2.2.2.2.1.cap x23.2.2.2.2.2.2.2.2.1.sz),(.int .i64 x23.2.2.2.2.2.2.2.2.2.1),(.str x23.2.2.2.2.2.2.2.2.2.2.1),(.slice x23.2.2.2.2.2.2.2.2.2.2.2.1.a x23.2.2.2.2.2.2.2.2.2.2.2.1.len x23.2.2.2.2.2.2.2.2.2.2.2.1.cap x23.2.2.2.2.2.2.2.2.2.2.2.1.sz),(.str x23.2.2.2.2.2.2.2.2.2.2.2.2.1),(.slice x23.2.2.2.2.2.2.2.2.2.2.2.2.2.1.a x23.2.2.2.2.2.2.2.2.2.2.2.2.2.1.len x23.2.2.2.2.2.2.2.2.2.2.2.2.2.1.cap x23.2.2.2.2.2.2.2.2.2.2.2.2.2.1.sz),(.slice x23.2.2.2.2.2.2.2.2.2.2.2.2.2.2.1.a x23.2.2.2.2.2.2.2.2.2.2.2.2.2.2.1.len x23.2.2.2.2.2.2.2.2.2.2.2.2.2.2.1.cap x23.2.2.2.2.2.2.2.2.2.2.2.2.2.2.1.sz)]) fun h26=>
  (bind2 (f149 N a0 [59] h26) fun (x27:(Unit)) h28=>
  some ((()),h28)))))
 else
  (bind2 (f149 N a0 [59] h20) fun (x29:(Unit)) h30=>
  some ((()),h30)))))))))))))))))))))))
noncomputable def ann207:Ann:=.n
theorem f207_ok (N:Nat):FnOK Tryz.prog 207 [(.one .ptr),(.one .ptr)] (.tup []) (fun x h=>f207 N x.1 x.2.1 h):=
 runK_ok envOK hmix (addCall_ok (f93_ok N) (addCall_ok (f92_ok N) (addCall_ok (f219_ok N) (addCall_ok (f154_ok N) (addCall_ok (f149_ok N) noCalls_ok))))) (N:=N) (x:=ann207) (fn:=Tryz.f207) (c:=Tryz.f207.body.getD .skip) (by kernel_rfl) (by kernel_rfl) (by kernel_rfl) (by kernel_rfl) (fun _ _=>by kernel_rfl)
noncomputable def f209 (N:Nat) (a0:Option (Nat×Nat)) (a1:Option (Nat×Nat)) (h:Heap):Option ((Unit)×Heap):=
 (bind2 (f92 N a0 [98,114,101,97,107] h) fun (x1:Bool) h2=>
 (bif x1 then
  (need a1 fun q3=>
  (need (h2.store (q3.1,q3.2+0) [(.int .i64 8)]) fun h4=>
  some ((()),h4)))
 else
  (bind2 (f92 N a0 [99,111,110,116,105,110,117,101] h2) fun (x5:Bool) h6=>
  (bif x5 then
  (need a1 fun q7=>
  (need (h6.store (q7.1,q7.2+0) [(.int .i64 9)]) fun h8=>
  some ((()),h8)))
  else
  (bind2 (f92 N a0 [114,101,116,117,114,110] h6) fun (x9:Bool) h10=>
  (bif x9 then
   (need a1 fun q11=>
   (need (h10.store (q11.1,q11.2+0) [(.int .i64 10)]) fun h12=>
   (bind2 (f146 N a0 5 [59] h12) fun (x13:Bool) h14=>
   let x15:Bool:=!x13
   (need a1 fun q16=>
   (need (h14.store (q16.1,q16.2+8) [(.bool x15)]) fun h17=>
   (need a1 fun q18=>
   (bindV (.val (.one .bool)) (h17.cell (q18.1,q18.2+8)) fun (x19:Bool)=>
   (bif x19 then
   (bind2 (f219 N a0 h17) fun (x20:(Int×Int×Int×List UInt8×SL×Int×Int×List UInt8×SL×Int×List UInt8×SL×List UInt8×SL×SL×Unit)) h21=>
   (need a1 fun q22=>
   (need (h21.store (q22.1,q22.2+11) [(.int .i64 x20.1),(.int .i64 x20.2.1),(.int .i64 x20.2.2.1),(.str x20.2.2.2.1),(.slice x20.2.2.2.2.1.a x20.2.2.2.2.1.len x20.2.2.2.2.1.cap x20.2.2.2.2.1.sz),(.int .i64 x20.2.2.2.2.2.1),(.int .i64 x20.2.2.2.2.2.2.1),(.str x20.2.2.2.2.2.2.2.1),(.slice x20.2.2.2.2.2.2.2.2.1.a x20.2.2.2.2.2.2.2.2.1.len x20.2.2.2.2.2.2.2.2.1.cap x20.2.2.2.2.2.2.2.2.1.sz),(.int .i64 x20.2.2.2.2.2.2.2.2.2.1),(.str x20.2.2.2.2.2.2.2.2.2.2.1),(.slice x20.2.2.2.2.2.2.2.2.2.2.2.1.a x20.2.2.2.2.2.2.2.2.2.2.2.1.len x20.2.2.2.2.2.2.2.2.2.2.2.1.cap x20.2.2.2.2.2.2.2.2.2.2.2.1.sz),(.str x20.2.2.2.2.2.2.2.2.2.2.2.2.1),(.slice x20.2.2.2.2.2.2.2.2.2.2.2.2.2.1.a x20.2.2.2.2.2.2.2.2.2.2.2.2.2.1.len x20.2.2.2.2.2.2.2.2.2.2.2.2.2.1.cap x20.2.2.2.2.2.2.2.2.2.2.2.2.2.1.sz),(.slice x20.2.2.2.2.2.2.2.2.2.2.2.2.2.2.1.a x20.2.2.2.2.2.2.2.2.2.2.2.2.2.2.1.len x20.2.2.2.2.2.2.2.2.2.2.2.2.2.2.1.cap x20.2.2.2.2.2.2.2.2.2.2.2.2.2.2.1.sz)]) fun h23=>
   some ((()),h23))))
   else
   some ((()),h17)))))))))
  else
   (bind2 (f92 N a0 [100,114,111,112] h10) fun (x24:Bool) h25=>
   (bif x24 then
   (bind2 (f221 N a0 h25) fun (x26:(List UInt8×SL×Unit)) h27=>
   (need a1 fun q28=>
   (need (h27.store (q28.1,q28.2+0) [(.int .i64 11)]) fun h29=>
   (need a1 fun q30=>
   (need (h29.store (q30.1,q30.2+9) [(.str x26.1),(.slice x26.2.1.a x26.2.1.len x26.2.1.cap x26.2.1.sz)]) fun h31=>
   some ((()),h31))))))
   else
   (bind2 (f222 N a0 h25) fun (x32:Bool) h33=>
   (bif x32 then
    (bind2 (f95 N a0 h33) fun (x34:List UInt8) h35=>
    (need a1 fun q36=>
    (need (h35.store (q36.1,q36.2+0) [(.int .i64 3)]) fun h37=>
    (need a1 fun q38=>
    (need (h37.store (q38.1,q38.2+11) [(.int .i64 6),(.int .i64 0),(.int .i64 0),(.str []),(.slice none 0 0 0),(.int .i64 0),(.int .i64 0),(.str []),(.slice none 0 0 0),(.int .i64 0),(.str []),(.slice none 0 0 0),(.str x34),(.slice none 0 0 0),(.slice none 0 0 0)]) fun h39=>
    (need a1 fun q40=>
    (bind2 (f223 N a0 (some (q40.1,q40.2+11)) h39) fun (x41:(Unit)) h42=>
    some ((()),h42))))))))
   else
    (bind2 (f221 N a0 h33) fun (x43:(List UInt8×SL×Unit)) h44=>
    (need a1 fun q45=>
    (need (h44.store (q45.1,q45.2+0) [(.int .i64 2)]) fun h46=>
    (need a1 fun q47=>
    (need (h46.store (q47.1,q47.2+9) [(.str x43.1),(.slice x43.2.1.a x43.2.1.len x43.2.1.cap x43.2.1.sz)]) fun h48=>
    (bind2 (f149 N a0 [61] h48) fun (x49:(Unit)) h50=>
    (bind2 (f219 N a0 h50) fun (x51:(Int×Int×Int×List UInt8×SL×Int×Int×List UInt8×SL×Int×List UInt8×SL×List UInt8×SL×SL×Unit)) h52=>
    (need a1 fun q53=>
    (need (h52.store (q53.1,q53.2+11) [(.int .i64 x51.1),(.int .i64 x51.2.1),(.int .i64 x51.2.2.1),(.str x51.2.2.2.1),(.slice x51.2.2.2.2.1.a x51.2.2.2.2.1.len x51.2.2.2.2.1.cap x51.2.2.2.2.1.sz),(.int .i64 x51.2.2.2.2.2.1),(.int .i64 x51.2.2.2.2.2.2.1),(.str x51.2.2.2.2.2.2.2.1),(.slice x51.2.2.2.2.2.2.2.2.1.a x51.2.2.2.2.2.2.2.2.1.len x51.2.2.2.2.2.2.2.2.1.cap x51.2.2.2.2.2.2.2.2.1.sz),(.int .i64 x51.2.2.2.2.2.2.2.2.2.1),(.str x51.2.2.2.2.2.2.2.2.2.2.1),(.slice x51.2.2.2.2.2.2.2.2.2.2.2.1.a x51.2.2.2.2.2.2.2.2.2.2.2.1.len x51.2.2.2.2.2.2.2.2.2.2.2.1.cap x51.2.2.2.2.2.2.2.2.2.2.2.1.sz),(.str x51.2.2.2.2.2.2.2.2.2.2.2.2.1),(.slice x51.2.2.2.2.2.2.2.2.2.2.2.2.2.1.a x51.2.2.2.2.2.2.2.2.2.2.2.2.2.1.len x51.2.2.2.2.2.2.2.2.2.2.2.2.2.1.cap x51.2.2.2.2.2.2.2.2.2.2.2.2.2.1.sz),(.slice x51.2.2.2.2.2.2.2.2.2.2.2.2.2.2.1.a x51.2.2.2.2.2.2.2.2.2.2.2.2.2.2.1.len x51.2.2.2.2.2.2.2.2.2.2.2.2.2.2.1.cap x51.2.2.2.2.2.2.2.2.2.2.2.2.2.2.1.sz)]) fun h54=>
    some ((()),h54))))))))))))))))))))
noncomputable def ann209:Ann:=.n
theorem f209_ok (N:Nat):FnOK Tryz.prog 209 [(.one .ptr),(.one .ptr)] (.tup []) (fun x h=>f209 N x.1 x.2.1 h):=
 runK_ok envOK hmix (addCall_ok (f95_ok N) (addCall_ok (f92_ok N) (addCall_ok (f223_ok N) (addCall_ok (f222_ok N) (addCall_ok (f221_ok N) (addCall_ok (f219_ok N) (addCall_ok (f149_ok N) (addCall_ok (f146_ok N) noCalls_ok)))))))) (N:=N) (x:=ann209) (fn:=Tryz.f209) (c:=Tryz.f209.body.getD .skip) (by kernel_rfl) (by kernel_rfl) (by kernel_rfl) (by kernel_rfl) (fun _ _=>by kernel_rfl)
noncomputable def f158_l1_b (N:Nat) (rec158:Option (Nat×Nat)→Int→Heap→Option (SL×Heap)) (rec190:Option (Nat×Nat)→Int→Heap→Option ((Int×Int×Bool×List UInt8×Int×List UInt8×SL×SL×Bool×List UInt8×SL×Int×Int×Int×List UInt8×SL×Int×Int×List UInt8×SL×Int×List UInt8×SL×List UInt8×SL×SL×Int×Int×List UInt8×SL×SL×SL×Unit)×Heap)) (go:Option (Nat×Nat)→Int→SL→SL→Heap→Option (Out×(SL×SL×Unit)×Heap)) (v0:Option (Nat×Nat)) (v1:Int) (v4:SL) (v5:SL) (h:Heap):Option (Out×(SL×SL×Unit)×Heap):=
 (need v0 fun q8=>
 (bindV (.val (.one .any)) (h.cell (q8.1,q8.2+3)) fun (x9:AV)=>
 (bindV (.val (.one .bool)) (binA E .eql 29 (.tmp 15) (.const .nilIface) x9 AV.nilIface) fun (x10:Bool)=>
 (bif x10 then
  (bind2 (f93 N v0 [125] h) fun (x11:Bool) h12=>
  let x13:Bool:=!x11
  (bif x13 then
  (bind2 (α:=(Option (Nat×Nat)×Int×SL×SL×Bool×Unit)) (
   (need v0 fun q14=>
   (bindV (.val (.one (.int .i64))) (h12.cell (q14.1,q14.2+2)) fun (x15:Int)=>
   let x16:Bool:=eqInt x15 2000
   (bif x16 then
   (bind2 (f56 N v0 h12) fun (x17:(Int×List UInt8×Int×Unit)) h18=>
   let x19:Bool:=!eqInt x17.1 0
   some ((v0,v1,v4,v5,x19,()),h18))
   else
   some ((v0,v1,v4,v5,false,()),h12))))) fun (j20:(Option (Nat×Nat)×Int×SL×SL×Bool×Unit)) h21=>
  (bif j20.2.2.2.2.1 then
   (bind2 (f57 N j20.1 5 h21) fun (x22:(Unit)) h23=>
   some (Out.ret,(⟨none,0,0,0⟩,j20.2.2.2.1,()),h23))
  else
   (need j20.1 fun q24=>
   (bindV (.val (.one (.int .i64))) (h21.cell (q24.1,q24.2+2)) fun (x25:Int)=>
   let x26:Int:=wrapA .i64 (x25+1)
   (need j20.1 fun q27=>
   (need (h21.store (q27.1,q27.2+2) [(.int .i64 x26)]) fun h28=>
   (bind2 (rec190 j20.1 j20.2.1 h28) fun (x29:(Int×Int×Bool×List UInt8×Int×List UInt8×SL×SL×Bool×List UInt8×SL×Int×Int×Int×List UInt8×SL×Int×Int×List UInt8×SL×Int×List UInt8×SL×List UInt8×SL×SL×Int×Int×List UInt8×SL×SL×SL×Unit)) h30=>
   let h31:Heap:=h30.push (.row [(.int .i64 x29.1),(.int .i64 x29.2.1),(.bool x29.2.2.1),(.str x29.2.2.2.1),(.int .i64 x29.2.2.2.2.1),(.str x29.2.2.2.2.2.1),(.slice x29.2.2.2.2.2.2.1.a x29.2.2.2.2.2.2.1.len x29.2.2.2.2.2.2.1.cap x29.2.2.2.2.2.2.1.sz),(.slice x29.2.2.2.2.2.2.2.1.a x29.2.2.2.2.2.2.2.1.len x29.2.2.2.2.2.2.2.1.cap x29.2.2.2.2.2.2.2.1.sz),(.bool x29.2.2.2.2.2.2.2.2.1),(.str x29.2.2.2.2.2.2.2.2.2.1),(.slice x29.2.2.2.2.2.2.2.2.2.2.1.a x29.2.2.2.2.2.2.2.2.2.2.1.len x29.2.2.2.2.2.2.2.2.2.2.1.cap x29.2.2.2.2.2.2.2.2.2.2.1.sz),(.int .i64 x29.2.2.2.2.2.2.2.2.2.2.2.1),(.int .i64 x29.2.2.2.2.2.2.2.2.2.2.2.2.1),(.int .i64 x29.2.2.2.2.2.2.2.2.2.2.2.2.2.1),(.str x29.2.2.2.2.2.2.2.2.2.2.2.2.2.2.1),(.slice x29.2.2.2.2.2.2.2.2.2.2.2.2.2.2.2.1.a x29.2.2.2.2.2.2.2.2.2.2.2.2.2.2.2.1.len x29.2.2.2.2.2.2.2.2.2.2.2.2.2.2.2.1.cap x29.2.2.2.2.2.2.2.2.2.2.2.2.2.2.2.1.sz),(.int .i64 x29.2.2.2.2.2.2.2.2.2.2.2.2.2.2.2.2.1),(.int .i64 x29.2.2.2.2.2.2.2.2.2.2.2.2.2.2.2.2.2.1),(.str x29.2.2.2.2.2.2.2.2.2.2.2.2.2.2.2.2.2.2.1),(.slice x29.2.2.2.2.2.2.2.2.2.2.2.2.2.2.2.2.2.2.2.1.a x29.2.2.2.2.2.2.2.2.2.2.2.2.2.2.2.2.2.2.2.1.len x29.2.2.2.2.2.2.2.2.2.2.2.2.2.2.2.2.2.2.2.1.cap x29.2.2.2.2.2.2.2.2.2.2.2.2.2.2.2.2.2.2.2.1.sz),(.int .i64 x29.2.2.2.2.2.2.2.2.2.2.2.2.2.2.2.2.2.2.2.2.1),(.str x29.2.2.2.2.2.2.2.2.2.2.2.2.2.2.2.2.2.2.2.2.2.1),(.slice x29.2.2.2.2.2.2.2.2.2.2.2.2.2.2.2.2.2.2.2.2.2.2.1.a x29.2.2.2.2.2.2.2.2.2.2.2.2.2.2.2.2.2.2.2.2.2.2.1.len x29.2.2.2.2.2.2.2.2.2.2.2.2.2.2.2.2.2.2.2.2.2.2.1.cap x29.2.2.2.2.2.2.2.2.2.2.2.2.2.2.2.2.2.2.2.2.2.2.1.sz),(.str x29.2.2.2.2.2.2.2.2.2.2.2.2.2.2.2.2.2.2.2.2.2.2.2.1),(.slice x29.2.2.2.2.2.2.2.2.2.2.2.2.2.2.2.2.2.2.2.2.2.2.2.2.1.a x29.2.2.2.2.2.2.2.2.2.2.2.2.2.2.2.2.2.2.2.2.2.2.2.2.1.len x29.2.2.2.2.2.2.2.2.2.2.2.2.2.2.2.2.2.2.2.2.2.2.2.2.1.cap x29.2.2.2.2.2.2.2.2.2.2.2.2.2.2.2.2.2.2.2.2.2.2.2.2.1.sz),(.slice x29.2.2.2.2.2.2.2.2.2.2.2.2.2.2.2.2.2.2.2.2.2.2.2.2.2.1.a x29.2.2.2.2.2.2.2.2.2.2.2.2.2.2.2.2.2.2.2.2.2.2.2.2.2.1.len x29.2.2.2.2.2.2.2.2.2.2.2.2.2.2.2.2.2.2.2.2.2.2.2.2.2.1.cap x29.2.2.2.2.2.2.2.2.2.2.2.2.2.2.2.2.2.2.2.2.2.2.2.2.2.1.sz),(.int .i64 x29.2.2.2.2.2.2.2.2.2.2.2.2.2.2.2.2.2.2.2.2.2.2.2.2.2.2.1),(.int .i64 x29.2.2.2.2.2.2.2.2.2.2.2.2.2.2.2.2.2.2.2.2.2.2.2.2.2.2.2.1),(.str x29.2.2.2.2.2.2.2.2.2.2.2.2.2.2.2.2.2.2.2.2.2.2.2.2.2.2.2.2.1),(.slice x29.2.2.2.2.2.2.2.2.2.2.2.2.2.2.2.2.2.2.2.2.2.2.2.2.2.2.2.2.2.1.a x29.2.2.2.2.2.2.2.2.2.2.2.2.2.2.2.2.2.2.2.2.2.2.2.2.2.2.2.2.2.1.len x29.2.2.2.2.2.2.2.2.2.2.2.2.2.2.2.2.2.2.2.2.2.2.2.2.2.2.2.2.2.1.cap x29.2.2.2.2.2.2.2.2.2.2.2.2.2.2.2.2.2.2.2.2.2.2.2.2.2.2.2.2.2.1.sz),(.slice x29.2.2.2.2.2.2.2.2.2.2.2.2.2.2.2.2.2.2.2.2.2.2.2.2.2.2.2.2.2.2.1.a x29.2.2.2.2.2.2.2.2.2.2.2.2.2.2.2.2.2.2.2.2.2.2.2.2.2.2.2.2.2.2.1.len x29.2.2.2.2.2.2.2.2.2.2.2.2.2.2.2.2.2.2.2.2.2.2.2.2.2.2.2.2.2.2.1.cap x29.2.2.2.2.2.2.2.2.2.2.2.2.2.2.2.2.2.2.2.2.2.2.2.2.2.2.2.2.2.2.1.sz),(.slice x29.2.2.2.2.2.2.2.2.2.2.2.2.2.2.2.2.2.2.2.2.2.2.2.2.2.2.2.2.2.2.2.1.a x29.2.2.2.2.2.2.2.2.2.2.2.2.2.2.2.2.2.2.2.2.2.2.2.2.2.2.2.2.2.2.2.1.len x29.2.2.2.2.2.2.2.2.2.2.2.2.2.2.2.2.2.2.2.2.2.2.2.2.2.2.2.2.2.2.2.1.cap x29.2.2.2.2.2.2.2.2.2.2.2.2.2.2.2.2.2.2.2.2.2.2.2.2.2.2.2.2.2.2.2.1.sz)] .own)
   (bindT (.val (.one .slice)) (appendA E 42 42 (.slice j20.2.2.2.1.a j20.2.2.2.1.len j20.2.2.2.1.cap j20.2.2.2.1.sz) (.slice (some (h30.next,0)) 1 1 32) h31) fun (x32:SL) h33=>
   go j20.1 j20.2.1 j20.2.2.1 x32 h33))))))))
  else
  some ((Out.exit 0),(v4,v5,()),h12)))
 else
  some ((Out.exit 0),(v4,v5,()),h)))))
noncomputable def f158_l1 (N:Nat) (rec158:Option (Nat×Nat)→Int→Heap→Option (SL×Heap)) (rec190:Option (Nat×Nat)→Int→Heap→Option ((Int×Int×Bool×List UInt8×Int×List UInt8×SL×SL×Bool×List UInt8×SL×Int×Int×Int×List UInt8×SL×Int×Int×List UInt8×SL×Int×List UInt8×SL×List UInt8×SL×SL×Int×Int×List UInt8×SL×SL×SL×Unit)×Heap)) (M:Nat) (v0:Option (Nat×Nat)) (v1:Int) (v4:SL) (v5:SL) (h:Heap):Option (Out×(SL×SL×Unit)×Heap):=iter (fun go s h=>f158_l1_b N rec158 rec190 (fun v0 v1 v4 v5 h=>go (v0,v1,v4,v5,()) h) s.1 s.2.1 s.2.2.1 s.2.2.2.1 h) M (v0,v1,v4,v5,()) h
theorem f158_l1_succ (N:Nat) (rec158:Option (Nat×Nat)→Int→Heap→Option (SL×Heap)) (rec190:Option (Nat×Nat)→Int→Heap→Option ((Int×Int×Bool×List UInt8×Int×List UInt8×SL×SL×Bool×List UInt8×SL×Int×Int×Int×List UInt8×SL×Int×Int×List UInt8×SL×Int×List UInt8×SL×List UInt8×SL×SL×Int×Int×List UInt8×SL×SL×SL×Unit)×Heap)) (M:Nat) (v0:Option (Nat×Nat)) (v1:Int) (v4:SL) (v5:SL) (h:Heap):f158_l1 N rec158 rec190 (M+1) v0 v1 v4 v5 h=f158_l1_b N rec158 rec190 (f158_l1 N rec158 rec190 M) v0 v1 v4 v5 h:=rfl
noncomputable def f158_r (N:Nat) (rec158:Option (Nat×Nat)→Int→Heap→Option (SL×Heap)) (rec190:Option (Nat×Nat)→Int→Heap→Option ((Int×Int×Bool×List UInt8×Int×List UInt8×SL×SL×Bool×List UInt8×SL×Int×Int×Int×List UInt8×SL×Int×Int×List UInt8×SL×Int×List UInt8×SL×List UInt8×SL×SL×Int×Int×List UInt8×SL×SL×SL×Unit)×Heap)) (a0:Option (Nat×Nat)) (a1:Int) (h:Heap):Option (SL×Heap):=
 (bind2 (α:=(Option (Nat×Nat)×Int×SL×Unit)) (
  let x1:Bool:=ltInt 64 a1
  (bif x1 then
  (bind2 (f57 N a0 6 h) fun (x2:(Unit)) h3=>
  some ((a0,a1,⟨none,0,0,0⟩,()),h3))
  else
  some ((a0,a1,⟨none,0,0,0⟩,()),h))) fun (j4:(Option (Nat×Nat)×Int×SL×Unit)) h5=>
 (bind2 (f149 N j4.1 [123] h5) fun (x6:(Unit)) h7=>
 (bind3 (f158_l1 N rec158 rec190 N j4.1 j4.2.1 j4.2.2.1 ⟨none,0,0,0⟩ h7) fun o34 (j35:(SL×SL×Unit)) h36=>
 (bif eqOut o34 (.exit 0) then
  some (j35.2.1,h36)
 else
  some (j35.1,h36)))))
noncomputable def ann158:Ann:=(.two .n (.two (.join [(0,(.one .ptr)),(1,(.one (.int .i64))),(4,(.one .slice))] .n) (.two .n (.two .n (.two (.two (.loop [(0,(.one .ptr)),(1,(.one (.int .i64))),(4,(.one .slice)),(5,(.one .slice))] [(.exit 0),.ret] [(4,(.one .slice)),(5,(.one .slice))] (.two .n (.two (.two (.two (.join [(0,(.one .ptr)),(1,(.one (.int .i64))),(4,(.one .slice)),(5,(.one .slice)),(32,(.one .bool))] .n) .n) .n) .n))) .n) .n)))))
noncomputable def f190_r (N:Nat) (rec158:Option (Nat×Nat)→Int→Heap→Option (SL×Heap)) (rec190:Option (Nat×Nat)→Int→Heap→Option ((Int×Int×Bool×List UInt8×Int×List UInt8×SL×SL×Bool×List UInt8×SL×Int×Int×Int×List UInt8×SL×Int×Int×List UInt8×SL×Int×List UInt8×SL×List UInt8×SL×SL×Int×Int×List UInt8×SL×SL×SL×Unit)×Heap)) (a0:Option (Nat×Nat)) (a1:Int) (h:Heap):Option ((Int×Int×Bool×List UInt8×Int×List UInt8×SL×SL×Bool×List UInt8×SL×Int×Int×Int×List UInt8×SL×Int×Int×List UInt8×SL×Int×List UInt8×SL×List UInt8×SL×SL×Int×Int×List UInt8×SL×SL×SL×Unit)×Heap):=
 let h1:Heap:=h.push (.row [(.int .i64 0),(.int .i64 0),(.bool false),(.str []),(.int .i64 0),(.str []),(.slice none 0 0 0),(.slice none 0 0 0),(.bool false),(.str []),(.slice none 0 0 0),(.int .i64 0),(.int .i64 0),(.int .i64 0),(.str []),(.slice none 0 0 0),(.int .i64 0),(.int .i64 0),(.str []),(.slice none 0 0 0),(.int .i64 0),(.str []),(.slice none 0 0 0),(.str []),(.slice none 0 0 0),(.slice none 0 0 0),(.int .i64 0),(.int .i64 0),(.str []),(.slice none 0 0 0),(.slice none 0 0 0),(.slice none 0 0 0)] .own)
 (bind2 (f56 N a0 h1) fun (x2:(Int×List UInt8×Int×Unit)) h3=>
 let h4:Heap:=h3.push (.row [(.int .i64 0),(.str []),(.int .i64 0)] .own)
 (need (h4.store (h3.next,0) [(.int .i64 x2.1),(.str x2.2.1),(.int .i64 x2.2.2.1)]) fun h5=>
 (bindV (.val (.one (.int .i64))) (h5.cell ((h3.next,0).1,(h3.next,0).2+2)) fun (x6:Int)=>
 let h7:Heap:=h5.push (.row [(.int .i64 0),(.int .i64 0),(.bool false),(.str []),(.int .i64 0),(.str []),(.slice none 0 0 0),(.slice none 0 0 0),(.bool false),(.str []),(.slice none 0 0 0),(.int .i64 0),(.int .i64 0),(.int .i64 0),(.str []),(.slice none 0 0 0),(.int .i64 0),(.int .i64 0),(.str []),(.slice none 0 0 0),(.int .i64 0),(.str []),(.slice none 0 0 0),(.str []),(.slice none 0 0 0),(.slice none 0 0 0),(.int .i64 0),(.int .i64 0),(.str []),(.slice none 0 0 0),(.slice none 0 0 0),(.slice none 0 0 0)] .own)
 (need (h7.store (h5.next,0) [(.int .i64 0),(.int .i64 x6),(.bool false),(.str []),(.int .i64 0),(.str []),(.slice none 0 0 0),(.slice none 0 0 0),(.bool false),(.str []),(.slice none 0 0 0),(.int .i64 0),(.int .i64 0),(.int .i64 0),(.str []),(.slice none 0 0 0),(.int .i64 0),(.int .i64 0),(.str []),(.slice none 0 0 0),(.int .i64 0),(.str []),(.slice none 0 0 0),(.str []),(.slice none 0 0 0),(.slice none 0 0 0),(.int .i64 0),(.int .i64 0),(.str []),(.slice none 0 0 0),(.slice none 0 0 0),(.slice none 0 0 0)]) fun h8=>
 (bind2 (α:=(Option (Nat×Nat)×Option (Nat×Nat)×Unit)) (
  (bind2 (f92 N a0 [108,101,116] h8) fun (x9:Bool) h10=>
  (bif x9 then
  (bind2 (f207 N a0 (some (h5.next,0)) h10) fun (x11:(Unit)) h12=>
  some (((some (h.next,0)),(some (h5.next,0)),()),h12))
  else
  (bind2 (f92 N a0 [105,102] h10) fun (x13:Bool) h14=>
  (bif x13 then
   (bind2 (f208 N a0 h14) fun (x15:(Int×Int×List UInt8×SL×Unit)) h16=>
   (need (h16.store ((h5.next,0).1,(h5.next,0).2+0) [(.int .i64 4)]) fun h17=>
   (need (h17.store ((h5.next,0).1,(h5.next,0).2+26) [(.int .i64 x15.1),(.int .i64 x15.2.1),(.str x15.2.2.1),(.slice x15.2.2.2.1.a x15.2.2.2.1.len x15.2.2.2.1.cap x15.2.2.2.1.sz)]) fun h18=>
   let x19:Int:=wrapA .i64 (a1+1)
   (bind2 (rec158 a0 x19 h18) fun (x20:SL) h21=>
   (need (h21.store ((h5.next,0).1,(h5.next,0).2+30) [(.slice x20.a x20.len x20.cap x20.sz)]) fun h22=>
   (bind2 (f92 N a0 [101,108,115,101] h22) fun (x23:Bool) h24=>
   (need (h24.store ((h5.next,0).1,(h5.next,0).2+8) [(.bool x23)]) fun h25=>
   (bindV (.val (.one .bool)) (h25.cell ((h5.next,0).1,(h5.next,0).2+8)) fun (x26:Bool)=>
   (bif x26 then
   let x27:Int:=wrapA .i64 (a1+1)
   (bind2 (rec158 a0 x27 h25) fun (x28:SL) h29=>
   (need (h29.store ((h5.next,0).1,(h5.next,0).2+31) [(.slice x28.a x28.len x28.cap x28.sz)]) fun h30=>
   some (((some (h.next,0)),(some (h5.next,0)),()),h30)))
   else
   some (((some (h.next,0)),(some (h5.next,0)),()),h25))))))))))
  else
   (bind2 (f92 N a0 [119,104,105,108,101] h14) fun (x31:Bool) h32=>
   (bif x31 then
   (bind2 (f208 N a0 h32) fun (x33:(Int×Int×List UInt8×SL×Unit)) h34=>
   (need (h34.store ((h5.next,0).1,(h5.next,0).2+0) [(.int .i64 5)]) fun h35=>
   (need (h35.store ((h5.next,0).1,(h5.next,0).2+26) [(.int .i64 x33.1),(.int .i64 x33.2.1),(.str x33.2.2.1),(.slice x33.2.2.2.1.a x33.2.2.2.1.len x33.2.2.2.1.cap x33.2.2.2.1.sz)]) fun h36=>
   let x37:Int:=wrapA .i64 (a1+1)
   (bind2 (rec158 a0 x37 h36) fun (x38:SL) h39=>
   (need (h39.store ((h5.next,0).1,(h5.next,0).2+30) [(.slice x38.a x38.len x38.cap x38.sz)]) fun h40=>
   some (((some (h.next,0)),(some (h5.next,0)),()),h40))))))
   else
   (bind2 (f92 N a0 [108,111,111,112] h32) fun (x41:Bool) h42=>
   (bif x41 then
    let x43:Int:=wrapA .i64 (a1+1)
    (bind2 (rec158 a0 x43 h42) fun (x44:SL) h45=>
    (need (h45.store ((h5.next,0).1,(h5.next,0).2+0) [(.int .i64 6)]) fun h46=>
    (need (h46.store ((h5.next,0).1,(h5.next,0).2+30) [(.slice x44.a x44.len x44.cap x44.sz)]) fun h47=>
    some (((some (h.next,0)),(some (h5.next,0)),()),h47))))
   else
    (bind2 (f146 N a0 5 [123] h42) fun (x48:Bool) h49=>
    (bif x48 then
    let x50:Int:=wrapA .i64 (a1+1)
    (bind2 (rec158 a0 x50 h49) fun (x51:SL) h52=>
    (need (h52.store ((h5.next,0).1,(h5.next,0).2+0) [(.int .i64 7)]) fun h53=>
    (need (h53.store ((h5.next,0).1,(h5.next,0).2+30) [(.slice x51.a x51.len x51.cap x51.sz)]) fun h54=>
    some (((some (h.next,0)),(some (h5.next,0)),()),h54))))
    else
    (bind2 (f209 N a0 (some (h5.next,0)) h49) fun (x55:(Unit)) h56=>
    (bind2 (f149 N a0 [59] h56) fun (x57:(Unit)) h58=>
    some (((some (h.next,0)),(some (h5.next,0)),()),h58)))))))))))))) fun (j59:(Option (Nat×Nat)×Option (Nat×Nat)×Unit)) h60=>
 (need j59.2.1 fun q61=>
 (bindV (.val (.agg [(.int .i64),(.int .i64),.bool,.str,(.int .i64),.str,.slice,.slice,.bool,.str,.slice,(.int .i64),(.int .i64),(.int .i64),.str,.slice,(.int .i64),(.int .i64),.str,.slice,(.int .i64),.str,.slice,.str,.slice,.slice,(.int .i64),(.int .i64),.str,.slice,.slice,.slice])) (h60.cells q61 32) fun (x62:(Int×Int×Bool×List UInt8×Int×List UInt8×SL×SL×Bool×List UInt8×SL×Int×Int×Int×List UInt8×SL×Int×Int×List UInt8×SL×Int×List UInt8×SL×List UInt8×SL×SL×Int×Int×List UInt8×SL×SL×SL×Unit))=>
 (need j59.1 fun q64=>
 (need (h60.store q64 [(.int .i64 x62.1),(.int .i64 x62.2.1),(.bool x62.2.2.1),(.str x62.2.2.2.1),(.int .i64 x62.2.2.2.2.1),(.str x62.2.2.2.2.2.1),(.slice x62.2.2.2.2.2.2.1.a x62.2.2.2.2.2.2.1.len x62.2.2.2.2.2.2.1.cap x62.2.2.2.2.2.2.1.sz),(.slice x62.2.2.2.2.2.2.2.1.a x62.2.2.2.2.2.2.2.1.len x62.2.2.2.2.2.2.2.1.cap x62.2.2.2.2.2.2.2.1.sz),(.bool x62.2.2.2.2.2.2.2.2.1),(.str x62.2.2.2.2.2.2.2.2.2.1),(.slice x62.2.2.2.2.2.2.2.2.2.2.1.a x62.2.2.2.2.2.2.2.2.2.2.1.len x62.2.2.2.2.2.2.2.2.2.2.1.cap x62.2.2.2.2.2.2.2.2.2.2.1.sz),(.int .i64 x62.2.2.2.2.2.2.2.2.2.2.2.1),(.int .i64 x62.2.2.2.2.2.2.2.2.2.2.2.2.1),(.int .i64 x62.2.2.2.2.2.2.2.2.2.2.2.2.2.1),(.str x62.2.2.2.2.2.2.2.2.2.2.2.2.2.2.1),(.slice x62.2.2.2.2.2.2.2.2.2.2.2.2.2.2.2.1.a x62.2.2.2.2.2.2.2.2.2.2.2.2.2.2.2.1.len x62.2.2.2.2.2.2.2.2.2.2.2.2.2.2.2.1.cap x62.2.2.2.2.2.2.2.2.2.2.2.2.2.2.2.1.sz),(.int .i64 x62.2.2.2.2.2.2.2.2.2.2.2.2.2.2.2.2.1),(.int .i64 x62.2.2.2.2.2.2.2.2.2.2.2.2.2.2.2.2.2.1),(.str x62.2.2.2.2.2.2.2.2.2.2.2.2.2.2.2.2.2.2.1),(.slice x62.2.2.2.2.2.2.2.2.2.2.2.2.2.2.2.2.2.2.2.1.a x62.2.2.2.2.2.2.2.2.2.2.2.2.2.2.2.2.2.2.2.1.len x62.2.2.2.2.2.2.2.2.2.2.2.2.2.2.2.2.2.2.2.1.cap x62.2.2.2.2.2.2.2.2.2.2.2.2.2.2.2.2.2.2.2.1.sz),(.int .i64 x62.2.2.2.2.2.2.2.2.2.2.2.2.2.2.2.2.2.2.2.2.1),(.str x62.2.2.2.2.2.2.2.2.2.2.2.2.2.2.2.2.2.2.2.2.2.1),(.slice x62.2.2.2.2.2.2.2.2.2.2.2.2.2.2.2.2.2.2.2.2.2.2.1.a x62.2.2.2.2.2.2.2.2.2.2.2.2.2.2.2.2.2.2.2.2.2.2.1.len x62.2.2.2.2.2.2.2.2.2.2.2.2.2.2.2.2.2.2.2.2.2.2.1.cap x62.2.2.2.2.2.2.2.2.2.2.2.2.2.2.2.2.2.2.2.2.2.2.1.sz),(.str x62.2.2.2.2.2.2.2.2.2.2.2.2.2.2.2.2.2.2.2.2.2.2.2.1),(.slice x62.2.2.2.2.2.2.2.2.2.2.2.2.2.2.2.2.2.2.2.2.2.2.2.2.1.a x62.2.2.2.2.2.2.2.2.2.2.2.2.2.2.2.2.2.2.2.2.2.2.2.2.1.len x62.2.2.2.2.2.2.2.2.2.2.2.2.2.2.2.2.2.2.2.2.2.2.2.2.1.cap x62.2.2.2.2.2.2.2.2.2.2.2.2.2.2.2.2.2.2.2.2.2.2.2.2.1.sz),(.slice x62.2.2.2.2.2.2.2.2.2.2.2.2.2.2.2.2.2.2.2.2.2.2.2.2.2.1.a x62.2.2.2.2.2.2.2.2.2.2.2.2.2.2.2.2.2.2.2.2.2.2.2.2.2.1.len x62.2.2.2.2.2.2.2.2.2.2.2.2.2.2.2.2.2.2.2.2.2.2.2.2.2.1.cap x62.2.2.2.2.2.2.2.2.2.2.2.2.2.2.2.2.2.2.2.2.2.2.2.2.2.1.sz),(.int .i64 x62.2.2.2.2.2.2.2.2.2.2.2.2.2.2.2.2.2.2.2.2.2.2.2.2.2.2.1),(.int .i64 x62.2.2.2.2.2.2.2.2.2.2.2.2.2.2.2.2.2.2.2.2.2.2.2.2.2.2.2.1),(.str x62.2.2.2.2.2.2.2.2.2.2.2.2.2.2.2.2.2.2.2.2.2.2.2.2.2.2.2.2.1),(.slice x62.2.2.2.2.2.2.2.2.2.2.2.2.2.2.2.2.2.2.2.2.2.2.2.2.2.2.2.2.2.1.a x62.2.2.2.2.2.2.2.2.2.2.2.2.2.2.2.2.2.2.2.2.2.2.2.2.2.2.2.2.2.1.len x62.2.2.2.2.2.2.2.2.2.2.2.2.2.2.2.2.2.2.2.2.2.2.2.2.2.2.2.2.2.1.cap x62.2.2.2.2.2.2.2.2.2.2.2.2.2.2.2.2.2.2.2.2.2.2.2.2.2.2.2.2.2.1.sz),(.slice x62.2.2.2.2.2.2.2.2.2.2.2.2.2.2.2.2.2.2.2.2.2.2.2.2.2.2.2.2.2.2.1.a x62.2.2.2.2.2.2.2.2.2.2.2.2.2.2.2.2.2.2.2.2.2.2.2.2.2.2.2.2.2.2.1.len x62.2.2.2.2.2.2.2.2.2.2.2.2.2.2.2.2.2.2.2.2.2.2.2.2.2.2.2.2.2.2.1.cap x62.2.2.2.2.2.2.2.2.2.2.2.2.2.2.2.2.2.2.2.2.2.2.2.2.2.2.2.2.2.2.1.sz),(.slice x62.2.2.2.2.2.2.2.2.2.2.2.2.2.2.2.2.2.2.2.2.2.2.2.2.2.2.2.2.2.2.2.1.a x62.2.2.2.2.2.2.2.2.2.2.2.2.2.2.2.2.2.2.2.2.2.2.2.2.2.2.2.2.2.2.2.1.len x62.2.2.2.2.2.2.2.2.2.2.2.2.2.2.2.2.2.2.2.2.2.2.2.2.2.2.2.2.2.2.2.1.cap x62.2.2.2.2.2.2.2.2.2.2.2.2.2.2.2.2.2.2.2.2.2.2.2.2.2.2.2.2.2.2.2.1.sz)]) fun h63=>
 (need j59.1 fun q65=>
 (bindV (.val (.agg [(.int .i64),(.int .i64),.bool,.str,(.int .i64),.str,.slice,.slice,.bool,.str,.slice,(.int .i64),(.int .i64),(.int .i64),.str,.slice,(.int .i64),(.int .i64),.str,.slice,(.int .i64),.str,.slice,.str,.slice,.slice,(.int .i64),(.int .i64),.str,.slice,.slice,.slice])) (h63.cells q65 32) fun (x66:(Int×Int×Bool×List UInt8×Int×List UInt8×SL×SL×Bool×List UInt8×SL×Int×Int×Int×List UInt8×SL×Int×Int×List UInt8×SL×Int×List UInt8×SL×List UInt8×SL×SL×Int×Int×List UInt8×SL×SL×SL×Unit))=>
 some ((x66.1,x66.2.1,x66.2.2.1,x66.2.2.2.1,x66.2.2.2.2.1,x66.2.2.2.2.2.1,x66.2.2.2.2.2.2.1,x66.2.2.2.2.2.2.2.1,x66.2.2.2.2.2.2.2.2.1,x66.2.2.2.2.2.2.2.2.2.1,x66.2.2.2.2.2.2.2.2.2.2.1,x66.2.2.2.2.2.2.2.2.2.2.2.1,x66.2.2.2.2.2.2.2.2.2.2.2.2.1,x66.2.2.2.2.2.2.2.2.2.2.2.2.2.1,x66.2.2.2.2.2.2.2.2.2.2.2.2.2.2.1,x66.2.2.2.2.2.2.2.2.2.2.2.2.2.2.2.1,x66.2.2.2.2.2.2.2.2.2.2.2.2.2.2.2.2.1,x66.2.2.2.2.2.2.2.2.2.2.2.2.2.2.2.2.2.1,x66.2.2.2.2.2.2.2.2.2.2.2.2.2.2.2.2.2.2.1,x66.2.2.2.2.2.2.2.2.2.2.2.2.2.2.2.2.2.2.2.1,x66.2.2.2.2.2.2.2.2.2.2.2.2.2.2.2.2.2.2.2.2.1,x66.2.2.2.2.2.2.2.2.2.2.2.2.2.2.2.2.2.2.2.2.2.1,x66.2.2.2.2.2.2.2.2.2.2.2.2.2.2.2.2.2.2.2.2.2.2.1,x66.2.2.2.2.2.2.2.2.2.2.2.2.2.2.2.2.2.2.2.2.2.2.2.1,x66.2.2.2.2.2.2.2.2.2.2.2.2.2.2.2.2.2.2.2.2.2.2.2.2.1,x66.2.2.2.2.2.2.2.2.2.2.2.2.2.2.2.2.2.2.2.2.2.2.2.2.2.1,x66.2.2.2.2.2.2.2.2.2.2.2.2.2.2.2.2.2.2.2.2.2.2.2.2.2.2.1,x66.2.2.2.2.2.2.2.2.2.2.2.2.2.2.2.2.2.2.2.2.2.2.2.2.2.2.2.1,x66.2.2.2.2.2.2.2.2.2.2.2.2.2.2.2.2.2.2.2.2.2.2.2.2.2.2.2.2.1,x66.2.2.2.2.2.2.2.2.2.2.2.2.2.2.2.2.2.2.2.2.2.2.2.2.2.2.2.2.2.1,x66.2.2.2.2.2.2.2.2.2.2.2.2.2.2.2.2.2.2.2.2.2.2.2.2.2.2.2.2.2.2.1,x66.2.2.2.2.2.2.2.2.2.2.2.2.2.2.2.2.2.2.2.2.2.2.2.2.2.2.2.2.2.2.2.1,()),h63))))))))))))
noncomputable def ann190:Ann:=(.two .n (.two .n (.two .n (.two (.join [(4,(.one .ptr)),(6,(.one .ptr))] .n) .n))))
noncomputable def cl_f158 (N M:Nat):((Option (Nat×Nat)→Int→Heap→Option (SL×Heap))×(Option (Nat×Nat)→Int→Heap→Option ((Int×Int×Bool×List UInt8×Int×List UInt8×SL×SL×Bool×List UInt8×SL×Int×Int×Int×List UInt8×SL×Int×Int×List UInt8×SL×Int×List UInt8×SL×List UInt8×SL×SL×Int×Int×List UInt8×SL×SL×SL×Unit)×Heap))×Unit):=Nat.rec (fun _ _ _=>none,fun _ _ _=>none,()) (fun _ r=>(f158_r N r.1 r.2.1,f190_r N r.1 r.2.1,())) M
noncomputable def f158 (N M:Nat):Option (Nat×Nat)→Int→Heap→Option (SL×Heap):=(cl_f158 N M).1
noncomputable def f190 (N M:Nat):Option (Nat×Nat)→Int→Heap→Option ((Int×Int×Bool×List UInt8×Int×List UInt8×SL×SL×Bool×List UInt8×SL×Int×Int×Int×List UInt8×SL×Int×Int×List UInt8×SL×Int×List UInt8×SL×List UInt8×SL×SL×Int×Int×List UInt8×SL×SL×SL×Unit)×Heap):=(cl_f158 N M).2.1
theorem f158_succ (N M:Nat) (a0:Option (Nat×Nat)) (a1:Int) (h:Heap):f158 N (M+1) a0 a1 h=f158_r N (f158 N M) (f190 N M) a0 a1 h:=rfl
theorem f190_succ (N M:Nat) (a0:Option (Nat×Nat)) (a1:Int) (h:Heap):f190 N (M+1) a0 a1 h=f190_r N (f158 N M) (f190 N M) a0 a1 h:=rfl
theorem cl_f158_okm (N:Nat):∀ M:Nat,(FnOK Tryz.prog 158 [(.one .ptr),(.one (.int .i64))] (.val (.one .slice)) (fun x h=>f158 N M x.1 x.2.1 h))∧(FnOK Tryz.prog 190 [(.one .ptr),(.one (.int .i64))] (.val (.agg [(.int .i64),(.int .i64),.bool,.str,(.int .i64),.str,.slice,.slice,.bool,.str,.slice,(.int .i64),(.int .i64),(.int .i64),.str,.slice,(.int .i64),(.int .i64),.str,.slice,(.int .i64),.str,.slice,.str,.slice,.slice,(.int .i64),(.int .i64),.str,.slice,.slice,.slice])) (fun x h=>f190 N M x.1 x.2.1 h))∧True
 | 0=>⟨(fun xs h r h' hx=>by cases hx),(fun xs h r h' hx=>by cases hx),trivial⟩
 | M+1=>⟨runK_ok envOK hmix (addCall_ok (f93_ok N) (addCall_ok (f57_ok N) (addCall_ok (f56_ok N) (addCall_ok (cl_f158_okm N M).2.1 (addCall_ok (f149_ok N) noCalls_ok))))) (N:=N) (x:=ann158) (fn:=Tryz.f158) (c:=Tryz.f158.body.getD .skip) (by kernel_rfl) (by kernel_rfl) (by kernel_rfl) (by kernel_rfl) (fun _ _=>by kernel_rfl),runK_ok envOK hmix (addCall_ok (f92_ok N) (addCall_ok (f56_ok N) (addCall_ok (f209_ok N) (addCall_ok (f208_ok N) (addCall_ok (f207_ok N) (addCall_ok (cl_f158_okm N M).1 (addCall_ok (f149_ok N) (addCall_ok (f146_ok N) noCalls_ok)))))))) (N:=N) (x:=ann190) (fn:=Tryz.f190) (c:=Tryz.f190.body.getD .skip) (by kernel_rfl) (by kernel_rfl) (by kernel_rfl) (by kernel_rfl) (fun _ _=>by kernel_rfl),trivial⟩
theorem f158_ok (N:Nat):FnOK Tryz.prog 158 [(.one .ptr),(.one (.int .i64))] (.val (.one .slice)) (fun x h=>f158 N N x.1 x.2.1 h):=(cl_f158_okm N N).1
noncomputable def f103 (N:Nat) (a0:Option (Nat×Nat)) (a1:Bool) (a2:Int) (h:Heap):Option ((Bool×List UInt8×SL×SL×Int×List UInt8×SL×SL×SL×Int×Unit)×Heap):=
 let h1:Heap:=h.push (.row [(.ptr a0)] .own)
 let h2:Heap:=h1.push (.row [(.bool false),(.str []),(.slice none 0 0 0),(.slice none 0 0 0),(.int .i64 0),(.str []),(.slice none 0 0 0),(.slice none 0 0 0),(.slice none 0 0 0),(.int .i64 0)] .own)
 (bindV (.val (.one .ptr)) (h2.cell (h.next,0)) fun (x3:Option (Nat×Nat))=>
 (need x3 fun q4=>
 (need (h2.store (q4.1,q4.2+2) [(.int .i64 0)]) fun h5=>
 (bindV (.val (.one .ptr)) (h5.cell (h.next,0)) fun (x6:Option (Nat×Nat))=>
 (bind2 (f94 N x6 1 h5) fun (x7:List UInt8) h8=>
 let h9:Heap:=h8.push (.row [(.bool false),(.str []),(.slice none 0 0 0),(.slice none 0 0 0),(.int .i64 0),(.str []),(.slice none 0 0 0),(.slice none 0 0 0),(.slice none 0 0 0),(.int .i64 0)] .own)
 (need (h9.store (h8.next,0) [(.bool a1),(.str x7),(.slice none 0 0 0),(.slice none 0 0 0),(.int .i64 0),(.str []),(.slice none 0 0 0),(.slice none 0 0 0),(.slice none 0 0 0),(.int .i64 a2)]) fun h10=>
 (bind2 (α:=(Option (Nat×Nat)×Option (Nat×Nat)×Option (Nat×Nat)×Unit)) (
  (bindV (.val (.one .ptr)) (h10.cell (h.next,0)) fun (x11:Option (Nat×Nat))=>
  (bind2 (f93 N x11 [60] h10) fun (x12:Bool) h13=>
  (bif x12 then
  (bindV (.val (.one .ptr)) (h13.cell (h.next,0)) fun (x14:Option (Nat×Nat))=>
  (bind2 (f147c155 N x14 [44] ((some (h8.next,0)),(some (h.next,0)),()) h13) fun (x15:(Unit)) h16=>
  (bindV (.val (.one .ptr)) (h16.cell (h.next,0)) fun (x17:Option (Nat×Nat))=>
  (bind2 (f149 N x17 [62] h16) fun (x18:(Unit)) h19=>
  some (((some (h.next,0)),(some (h1.next,0)),(some (h8.next,0)),()),h19)))))
  else
  some (((some (h.next,0)),(some (h1.next,0)),(some (h8.next,0)),()),h13))))) fun (j20:(Option (Nat×Nat)×Option (Nat×Nat)×Option (Nat×Nat)×Unit)) h21=>
 (need j20.1 fun q22=>
 (bindV (.val (.one .ptr)) (h21.cell q22) fun (x23:Option (Nat×Nat))=>
 (bind2 (f149 N x23 [40] h21) fun (x24:(Unit)) h25=>
 (bind2 (α:=(Option (Nat×Nat)×Option (Nat×Nat)×Option (Nat×Nat)×Unit)) (
  (need j20.1 fun q26=>
  (bindV (.val (.one .ptr)) (h25.cell q26) fun (x27:Option (Nat×Nat))=>
  (bind2 (f93 N x27 [41] h25) fun (x28:Bool) h29=>
  let x30:Bool:=!x28
  (bif x30 then
  (need j20.1 fun q31=>
  (bindV (.val (.one .ptr)) (h29.cell q31) fun (x32:Option (Nat×Nat))=>
  (bind2 (f147c157 N x32 [44] (j20.1,j20.2.2.1,()) h29) fun (x33:(Unit)) h34=>
  (need j20.1 fun q35=>
  (bindV (.val (.one .ptr)) (h34.cell q35) fun (x36:Option (Nat×Nat))=>
  (bind2 (f149 N x36 [41] h34) fun (x37:(Unit)) h38=>
  some ((j20.1,j20.2.1,j20.2.2.1,()),h38)))))))
  else
  some ((j20.1,j20.2.1,j20.2.2.1,()),h29)))))) fun (j39:(Option (Nat×Nat)×Option (Nat×Nat)×Option (Nat×Nat)×Unit)) h40=>
 (bind2 (α:=(Option (Nat×Nat)×Option (Nat×Nat)×Option (Nat×Nat)×Unit)) (
  (need j39.1 fun q41=>
  (bindV (.val (.one .ptr)) (h40.cell q41) fun (x42:Option (Nat×Nat))=>
  (bind2 (f93 N x42 [45,62] h40) fun (x43:Bool) h44=>
  (bif x43 then
  (need j39.1 fun q45=>
  (bindV (.val (.one .ptr)) (h44.cell q45) fun (x46:Option (Nat×Nat))=>
  (bind2 (f55 N N x46 1 h44) fun (x47:(Int×List UInt8×SL×SL×Unit)) h48=>
  (need j39.2.2.1 fun q49=>
  (need (h48.store (q49.1,q49.2+4) [(.int .i64 x47.1),(.str x47.2.1),(.slice x47.2.2.1.a x47.2.2.1.len x47.2.2.1.cap x47.2.2.1.sz),(.slice x47.2.2.2.1.a x47.2.2.2.1.len x47.2.2.2.1.cap x47.2.2.2.1.sz)]) fun h50=>
  some ((j39.1,j39.2.1,j39.2.2.1,()),h50))))))
  else
  some ((j39.1,j39.2.1,j39.2.2.1,()),h44)))))) fun (j51:(Option (Nat×Nat)×Option (Nat×Nat)×Option (Nat×Nat)×Unit)) h52=>
 (need j51.1 fun q53=>
 (bindV (.val (.one .ptr)) (h52.cell q53) fun (x54:Option (Nat×Nat))=>
 (bind2 (f158 N N x54 1 h52) fun (x55:SL) h56=>
 (need j51.2.2.1 fun q57=>
 (need (h56.store (q57.1,q57.2+8) [(.slice x55.a x55.len x55.cap x55.sz)]) fun h58=>
 (need j51.2.2.1 fun q59=>
 (bindV (.val (.agg [.bool,.str,.slice,.slice,(.int .i64),.str,.slice,.slice,.slice,(.int .i64)])) (h58.cells q59 10) fun (x60:(Bool×List UInt8×SL×SL×Int×List UInt8×SL×SL×SL×Int×Unit))=>
 (need j51.2.1 fun q62=>
 (need (h58.store q62 [(.bool x60.1),(.str x60.2.1),(.slice x60.2.2.1.a x60.2.2.1.len x60.2.2.1.cap x60.2.2.1.sz),(.slice x60.2.2.2.1.a x60.2.2.2.1.len x60.2.2.2.1.cap x60.2.2.2.1.sz),(.int .i64 x60.2.2.2.2.1),(.str x60.2.2.2.2.2.1),(.slice x60.2.2.2.2.2.2.1.a x60.2.2.2.2.2.2.1.len x60.2.2.2.2.2.2.1.cap x60.2.2.2.2.2.2.1.sz),(.slice x60.2.2.2.2.2.2.2.1.a x60.2.2.2.2.2.2.2.1.len x60.2.2.2.2.2.2.2.1.cap x60.2.2.2.2.2.2.2.1.sz),(.slice x60.2.2.2.2.2.2.2.2.1.a x60.2.2.2.2.2.2.2.2.1.len x60.2.2.2.2.2.2.2.2.1.cap x60.2.2.2.2.2.2.2.2.1.sz),(.int .i64 x60.2.2.2.2.2.2.2.2.2.1)]) fun h61=>
 (need j51.2.1 fun q63=>
 (bindV (.val (.agg [.bool,.str,.slice,.slice,(.int .i64),.str,.slice,.slice,.slice,(.int .i64)])) (h61.cells q63 10) fun (x64:(Bool×List UInt8×SL×SL×Int×List UInt8×SL×SL×SL×Int×Unit))=>
 some ((x64.1,x64.2.1,x64.2.2.1,x64.2.2.2.1,x64.2.2.2.2.1,x64.2.2.2.2.2.1,x64.2.2.2.2.2.2.1,x64.2.2.2.2.2.2.2.1,x64.2.2.2.2.2.2.2.2.1,x64.2.2.2.2.2.2.2.2.2.1,()),h61))))))))))))))))))))))))
noncomputable def ann103:Ann:=(.two .n (.two .n (.two .n (.two (.join [(3,(.one .ptr)),(6,(.one .ptr)),(7,(.one .ptr))] .n) (.two .n (.two (.join [(3,(.one .ptr)),(6,(.one .ptr)),(7,(.one .ptr))] .n) (.two (.join [(3,(.one .ptr)),(6,(.one .ptr)),(7,(.one .ptr))] .n) .n)))))))
theorem f103_ok (N:Nat):FnOK Tryz.prog 103 [(.one .ptr),(.one .bool),(.one (.int .i64))] (.val (.agg [.bool,.str,.slice,.slice,(.int .i64),.str,.slice,.slice,.slice,(.int .i64)])) (fun x h=>f103 N x.1 x.2.1 x.2.2.1 h):=
 runK_ok envOK hmix (addCall_ok (f94_ok N) (addCall_ok (f93_ok N) (addCall_ok (f55_ok N) (addCall_ok (f158_ok N) (addCall_ok (f149_ok N) (addCallS_ok (sel:=fun a=>isClo 2 157 a) (f147c157_ok N) (addCallS_ok (sel:=fun a=>isClo 2 155 a) (f147c155_ok N) noCalls_ok))))))) (N:=N) (x:=ann103) (fn:=Tryz.f103) (c:=Tryz.f103.body.getD .skip) (by kernel_rfl) (by kernel_rfl) (by kernel_rfl) (by kernel_rfl) (fun _ _=>by kernel_rfl)
noncomputable def f63 (N:Nat) (a0:Option (Nat×Nat)) (a1:Option (Nat×Nat)) (h:Heap):Option ((Unit)×Heap):=
 (bind2 (f92 N a0 [112,117,98] h) fun (x1:Bool) h2=>
 (bind2 (f56 N a0 h2) fun (x3:(Int×List UInt8×Int×Unit)) h4=>
 (bind2 (f92 N a0 [115,116,114,117,99,116] h4) fun (x5:Bool) h6=>
 (bif x5 then
  (need a1 fun q7=>
  (bindV (.val (.one .slice)) (h6.cell (q7.1,q7.2+0)) fun (x8:SL)=>
  (bind2 (f102 N a0 x1 x3.2.2.1 h6) fun (x9:(Bool×List UInt8×SL×SL×Int×Unit)) h10=>
  let h11:Heap:=h10.push (.row [(.bool x9.1),(.str x9.2.1),(.slice x9.2.2.1.a x9.2.2.1.len x9.2.2.1.cap x9.2.2.1.sz),(.slice x9.2.2.2.1.a x9.2.2.2.1.len x9.2.2.2.1.cap x9.2.2.2.1.sz),(.int .i64 x9.2.2.2.2.1)] .own)
  (bindT (.val (.one .slice)) (appendA E 22 22 (.slice x8.a x8.len x8.cap x8.sz) (.slice (some (h10.next,0)) 1 1 5) h11) fun (x12:SL) h13=>
  (need a1 fun q14=>
  (need (h13.store (q14.1,q14.2+0) [(.slice x12.a x12.len x12.cap x12.sz)]) fun h15=>
  (guardB (bif (sameO (h11.cell (q7.1,q7.2+0)) (.slice x8.a x8.len x8.cap x8.sz)) then (bif (sameO (h10.cell (q7.1,q7.2+0)) (.slice x8.a x8.len x8.cap x8.sz)) then (bif (sameO (h6.cell (q7.1,q7.2+0)) (.slice x8.a x8.len x8.cap x8.sz)) then true else false) else false) else false) (
  (need a0 fun q16=>
  (bindV (.val (.one .any)) (h15.cell (q16.1,q16.2+3)) fun (x17:AV)=>
  (bind2 (f104 N x17 x3.2.2.1 h15) fun (x18:AV) h19=>
  (need a0 fun q20=>
  (guardB (AV.single x18)
  (need (h19.store (q20.1,q20.2+3) [x18]) fun h21=>
  some ((()),h21)))))))))))))))
 else
  (bind2 (f92 N a0 [102,110] h6) fun (x22:Bool) h23=>
  (bif x22 then
  (need a1 fun q24=>
  (bindV (.val (.one .slice)) (h23.cell (q24.1,q24.2+1)) fun (x25:SL)=>
  (bind2 (f103 N a0 x1 x3.2.2.1 h23) fun (x26:(Bool×List UInt8×SL×SL×Int×List UInt8×SL×SL×SL×Int×Unit)) h27=>
  let h28:Heap:=h27.push (.row [(.bool x26.1),(.str x26.2.1),(.slice x26.2.2.1.a x26.2.2.1.len x26.2.2.1.cap x26.2.2.1.sz),(.slice x26.2.2.2.1.a x26.2.2.2.1.len x26.2.2.2.1.cap x26.2.2.2.1.sz),(.int .i64 x26.2.2.2.2.1),(.str x26.2.2.2.2.2.1),(.slice x26.2.2.2.2.2.2.1.a x26.2.2.2.2.2.2.1.len x26.2.2.2.2.2.2.1.cap x26.2.2.2.2.2.2.1.sz),(.slice x26.2.2.2.2.2.2.2.1.a x26.2.2.2.2.2.2.2.1.len x26.2.2.2.2.2.2.2.1.cap x26.2.2.2.2.2.2.2.1.sz),(.slice x26.2.2.2.2.2.2.2.2.1.a x26.2.2.2.2.2.2.2.2.1.len x26.2.2.2.2.2.2.2.2.1.cap x26.2.2.2.2.2.2.2.2.1.sz),(.int .i64 x26.2.2.2.2.2.2.2.2.2.1)] .own)
  (bindT (.val (.one .slice)) (appendA E 23 23 (.slice x25.a x25.len x25.cap x25.sz) (.slice (some (h27.next,0)) 1 1 10) h28) fun (x29:SL) h30=>
  (need a1 fun q31=>
  (need (h30.store (q31.1,q31.2+1) [(.slice x29.a x29.len x29.cap x29.sz)]) fun h32=>
  (guardB (bif (sameO (h28.cell (q24.1,q24.2+1)) (.slice x25.a x25.len x25.cap x25.sz)) then (bif (sameO (h27.cell (q24.1,q24.2+1)) (.slice x25.a x25.len x25.cap x25.sz)) then (bif (sameO (h23.cell (q24.1,q24.2+1)) (.slice x25.a x25.len x25.cap x25.sz)) then true else false) else false) else false) (
  (need a0 fun q33=>
  (bindV (.val (.one .any)) (h32.cell (q33.1,q33.2+3)) fun (x34:AV)=>
  (bind2 (f104 N x34 x3.2.2.1 h32) fun (x35:AV) h36=>
  (need a0 fun q37=>
  (guardB (AV.single x35)
  (need (h36.store (q37.1,q37.2+3) [x35]) fun h38=>
  some ((()),h38)))))))))))))))
  else
  (bind2 (f57 N a0 21 h23) fun (x39:(Unit)) h40=>
  some ((()),h40))))))))
noncomputable def ann63:Ann:=.n
theorem f63_ok (N:Nat):FnOK Tryz.prog 63 [(.one .ptr),(.one .ptr)] (.tup []) (fun x h=>f63 N x.1 x.2.1 h):=
 runK_ok envOK hmix (addCall_ok (f92_ok N) (addCall_ok (f57_ok N) (addCall_ok (f56_ok N) (addCall_ok (f104_ok N) (addCall_ok (f103_ok N) (addCall_ok (f102_ok N) noCalls_ok)))))) (N:=N) (x:=ann63) (fn:=Tryz.f63) (c:=Tryz.f63.body.getD .skip) (by kernel_rfl) (by kernel_rfl) (by kernel_rfl) (by kernel_rfl) (fun _ _=>by kernel_rfl)
noncomputable def f27_l1_b (N:Nat) (go:Option (Nat×Nat)→Option (Nat×Nat)→Option (Nat×Nat)→Int→Heap→Option (Out×(Option (Nat×Nat)×Option (Nat×Nat)×Option (Nat×Nat)×Unit)×Heap)) (v2:Option (Nat×Nat)) (v6:Option (Nat×Nat)) (v7:Option (Nat×Nat)) (v8:Int) (h:Heap):Option (Out×(Option (Nat×Nat)×Option (Nat×Nat)×Option (Nat×Nat)×Unit)×Heap):=
 (need v7 fun q9=>
 (bindV (.val (.one .any)) (h.cell (q9.1,q9.2+3)) fun (x10:AV)=>
 (bindV (.val (.one .bool)) (binA E .eql 29 (.tmp 24) (.const .nilIface) x10 AV.nilIface) fun (x11:Bool)=>
 (bif x11 then
  (bind2 (f56 N v7 h) fun (x12:(Int×List UInt8×Int×Unit)) h13=>
  let x14:Bool:=!eqInt x12.1 0
  (bif x14 then
  let x15:Bool:=eqInt v8 256
  (bif x15 then
   (bind2 (f57 N v7 5 h13) fun (x16:(Unit)) h17=>
   some ((Out.exit 0),(v2,v6,v7,()),h17))
  else
   (bind2 (f63 N v7 v6 h13) fun (x18:(Unit)) h19=>
   let x20:Int:=wrapA .i64 (v8+1)
   go v2 v6 v7 x20 h19))
  else
  some ((Out.exit 0),(v2,v6,v7,()),h13)))
 else
  some ((Out.exit 0),(v2,v6,v7,()),h)))))
noncomputable def f27_l1 (N:Nat) (M:Nat) (v2:Option (Nat×Nat)) (v6:Option (Nat×Nat)) (v7:Option (Nat×Nat)) (v8:Int) (h:Heap):Option (Out×(Option (Nat×Nat)×Option (Nat×Nat)×Option (Nat×Nat)×Unit)×Heap):=iter (fun go s h=>f27_l1_b N (fun v2 v6 v7 v8 h=>go (v2,v6,v7,v8,()) h) s.1 s.2.1 s.2.2.1 s.2.2.2.1 h) M (v2,v6,v7,v8,()) h
theorem f27_l1_succ (N:Nat) (M:Nat) (v2:Option (Nat×Nat)) (v6:Option (Nat×Nat)) (v7:Option (Nat×Nat)) (v8:Int) (h:Heap):f27_l1 N (M+1) v2 v6 v7 v8 h=f27_l1_b N (f27_l1 N M) v2 v6 v7 v8 h:=rfl
noncomputable def f27 (N:Nat) (a0:List UInt8) (h:Heap):Option (((SL×SL×Unit)×AV×Unit)×Heap):=
 let h1:Heap:=h.push (.row [(.slice none 0 0 0),(.slice none 0 0 0)] .own)
 (bind2 (f54 N a0 h1) fun (x2:(SL×AV×Unit)) h3=>
 (bindV (.val (.one .bool)) (binA E .neq 29 (.tmp 14) (.const .nilIface) x2.2.1 AV.nilIface) fun (x4:Bool)=>
 (bif x4 then
  (need (h3.store (h.next,0) [(.slice none 0 0 0),(.slice none 0 0 0)]) fun h5=>
  (bindV (.val (.agg [.slice,.slice])) (h5.cells (h.next,0) 2) fun (x6:(SL×SL×Unit))=>
  some (((x6.1,x6.2.1,()),x2.2.1,()),h5)))
 else
  let h7:Heap:=h3.push (.row [(.slice none 0 0 0),(.slice none 0 0 0)] .own)
  let h8:Heap:=h7.push (.row [(.slice x2.1.a x2.1.len x2.1.cap x2.1.sz),(.int .i64 0),(.int .i64 0),AV.nilIface] .own)
  (bind3 (f27_l1 N N (some (h.next,0)) (some (h3.next,0)) (some (h7.next,0)) 0 h8) fun _ (j22:(Option (Nat×Nat)×Option (Nat×Nat)×Option (Nat×Nat)×Unit)) h23=>
  (need j22.2.2.1 fun q24=>
  (bindV (.val (.one .any)) (h23.cell (q24.1,q24.2+3)) fun (x25:AV)=>
  (bindV (.val (.one .bool)) (binA E .neq 29 (.tmp 43) (.const .nilIface) x25 AV.nilIface) fun (x26:Bool)=>
  (bif x26 then
  (need j22.2.2.1 fun q27=>
  (bindV (.val (.one .any)) (h23.cell (q27.1,q27.2+3)) fun (x28:AV)=>
  (need j22.1 fun q30=>
  (need (h23.store q30 [(.slice none 0 0 0),(.slice none 0 0 0)]) fun h29=>
  (guardB (bif (sameO (h29.cell (q27.1,q27.2+3)) x28) then (bif (sameO (h23.cell (q27.1,q27.2+3)) x28) then true else false) else false) (
  (need j22.1 fun q31=>
  (bindV (.val (.agg [.slice,.slice])) (h29.cells q31 2) fun (x32:(SL×SL×Unit))=>
  some (((x32.1,x32.2.1,()),x28,()),h29)))))))))
  else
  (need j22.2.1 fun q33=>
  (bindV (.val (.agg [.slice,.slice])) (h23.cells q33 2) fun (x34:(SL×SL×Unit))=>
  (need j22.1 fun q36=>
  (need (h23.store q36 [(.slice x34.1.a x34.1.len x34.1.cap x34.1.sz),(.slice x34.2.1.a x34.2.1.len x34.2.1.cap x34.2.1.sz)]) fun h35=>
  (need j22.1 fun q37=>
  (bindV (.val (.agg [.slice,.slice])) (h35.cells q37 2) fun (x38:(SL×SL×Unit))=>
  some (((x38.1,x38.2.1,()),AV.nilIface,()),h35)))))))))))))))
noncomputable def ann27:Ann:=(.two .n (.two .n (.two .n (.two .n (.two .n (.two (.two .n (.two (.loop [(2,(.one .ptr)),(6,(.one .ptr)),(7,(.one .ptr)),(8,(.one (.int .i64)))] [(.exit 0)] [(2,(.one .ptr)),(6,(.one .ptr)),(7,(.one .ptr))] .n) .n)) .n))))))
theorem f27_ok (N:Nat):FnOK Tryz.prog 27 [(.one .str)] (.tup [(.agg [.slice,.slice]),(.one .any)]) (fun x h=>f27 N x.1 h):=
 runK_ok envOK hmix (addCall_ok (f63_ok N) (addCall_ok (f57_ok N) (addCall_ok (f56_ok N) (addCall_ok (f54_ok N) noCalls_ok)))) (N:=N) (x:=ann27) (fn:=Tryz.f27) (c:=Tryz.f27.body.getD .skip) (by kernel_rfl) (by kernel_rfl) (by kernel_rfl) (by kernel_rfl) (fun _ _=>by kernel_rfl)
end Go.Proofs.YtkcjphhjmlienaaGreatDoor.Qp

set_option linter.unusedVariables false
set_option linter.unusedSimpArgs false
set_option maxRecDepth 100000
open Go Go.Proofs.YtkcjphhjmlienaaGreatDoor.Ai Go.Proofs
namespace Go.Proofs.YtkcjphhjmlienaaGreatDoor.Qp
theorem f233_empty (N:Nat) (h:Heap):f233 N [] h=some ((0,AV.iface 256 (.int .i64 2),()),h):=rfl
theorem f220_empty {N:Nat} {h:Heap} (hp:Qw.pinned h=true):∃ v h',f220 N [] h=some ((0,v,()),h')∧Chg [] h h':=by
 unfold f220
 rw [f233_empty,bind2_some]
 have e:binA E .neq 29 (.tmp 11) (.const .nilIface) (AV.iface 256 (.int .i64 2)) AV.nilIface=some (.bool true):=by kernel_rfl
 simp only [e,bindV_some,cast_bool,cond_true]
 have ef:f234 N [65,116,111,105] [] 0 0 (AV.iface 256 (.int .i64 2)) h=some (AV.iface 259 (.ptr (some (h.next,0))),h.push (.row [.str [65,116,111,105],.str [],Qw.sen] .own)):=by
  unfold f234 Qw.toErrF
  rw [hp];rfl
 rw [ef,bind2_some]
 exact ⟨_,_,rfl,chg_push _ _⟩
theorem ofBytes_at:∀ (t:Bs) (i:Nat) (hi:i<t.length),(ofBytes t)[i]? = some (.int .u8 ((t[i]).toNat:Int))
 | c::r,0,_=>rfl
 | c::r,i+1,hi=>by
  simp only [ofBytes,List.getElem?_cons_succ,List.getElem_cons_succ]
  exact ofBytes_at r i (by simpa using hi)
theorem atoi_loop {N:Nat} {t:Bs} {h:Heap} {A:Nat} (hA:h.t.get A=some (.row (ofBytes t) .grown)) (ht:t.all digitB=true) (hl:t.length≤10) {v2:Int} {v3:AV} {v5:Bs} {cap:Nat}:∀ (M j v:Nat),j≤t.length→t.length-j<M→v<10 ^ j→
  f233_l1 N M v2 v3 v5 (v:Int) ⟨some (A,0),t.length,cap,1⟩ (Int.ofNat t.length) (j:Int) h=some (.exit 0,(v2,v3,v5,((valN (t.drop j) v:Nat):Int),()),h):=by
 intro M
 induction M with
 | zero=>intro j _ _ h;omega
 | succ M ih=>
  intro j v hj hM hv
  rw [f233_l1_succ]
  unfold f233_l1_b
  simp only [lt_nat]
  by_cases q:j<t.length
  ·simp only [q,decide_true,cond_true]
   have hd:digitB t[j]=true:=List.all_eq_true.1 ht _ (List.getElem_mem q)
   have hd':=hd
   simp only [digitB,decide_eq_true_eq] at hd'
   rw [show ((j:Nat):Int)=Int.ofNat j from rfl,ixK_of _ _ _ _ _ q]
   have hc:h.cell (A,0+j * 1)=some (.int .u8 ((t[j]).toNat:Int)):=by
    rw [Nat.zero_add,Nat.mul_one]
    have hg:rowB (h.g A)=some (ofBytes t):=by
     have:h.g A=some (.row (ofBytes t) .grown):=hA
     rw [this];rfl
    rw [Heap.cell_g,cellB_row,hg]
    simp only [Option.bind_some,List.head?_drop]
    exact ofBytes_at t j q
   rw [hc]
   simp only [bindV_some,cast_int]
   have w1:wrapA .u8 (((t[j]).toNat:Int)-48)=(((t[j]).toNat-48:Nat):Int):=by rw [u8_in (by omega) (by omega)];omega
   have z:ltInt 9 ((((t[j]).toNat-48:Nat)):Int)=false:=by
    have:=lt_nat' 9 ((t[j]).toNat-48)
    rw [show ((9:Nat):Int)=9 from rfl] at this
    rw [this,decide_eq_false_iff_not];omega
   rw [w1]
   simp only [z,cond_false]
   have hp:(10:Nat) ^ j≤10 ^ 10:=Nat.pow_le_pow_right (by omega) (by omega)
   have w2:wrapA .i64 (wrapA .i64 ((v:Int) * 10)+wrapA .i64 (((t[j]).toNat-48:Nat):Int))=((v * 10+((t[j]).toNat-48):Nat):Int):=by
    rw [wrapA_small (x:=(v:Int) * 10) (by omega) (by omega),wrap_nat (by omega),wrapA_small (by omega) (by omega)];omega
   rw [w2,show Int.ofNat j=(j:Int) from rfl,wrap_succ (by omega),drop_cons q]
   simp only [valN]
   exact ih (j+1) _ q (by omega) (by rw [Nat.pow_succ];omega)
  ·simp only [q,decide_false,cond_false]
   rw [show t.drop j=[] from List.drop_of_length_le (by omega)];rfl
theorem f220_num {N:Nat} {t:Bs} {h:Heap} (hN:20≤N) (hk:okNum t=true) (h0:0<t.length):∃ h',f220 N t h=some ((((valN t 0:Nat):Int),AV.nilIface,()),h')∧Chg [] h h':=by
 have hl:t.length≤10:=by
  cases t with
  | nil=>simp at h0
  | cons c r=>
   by_cases q:10<(c::r).length
   ·rw [okNum_long q] at hk;cases hk
   ·omega
 have hall:t.all digitB=true:=by
  simp only [okNum,Bool.and_eq_true] at hk;exact hk.1.1
 have hval:valN t 0≤2147483647:=by
  simp only [okNum,Bool.and_eq_true,Nat.ble_eq] at hk;exact hk.1.2
 have hd:digitB t[0]=true:=List.all_eq_true.1 hall _ (List.getElem_mem h0)
 have hd':=hd
 simp only [digitB,decide_eq_true_eq] at hd'
 unfold f220 f233
 have z1:ltInt 0 (Int.ofNat t.length)=true:=by rw [ltI,decide_eq_true_eq];show (0:Int)<(t.length:Int);omega
 have z2:ltInt (Int.ofNat t.length) 19=true:=by rw [ltI,decide_eq_true_eq];show (t.length:Int)<19;omega
 have e0:∀ {β:Type} (K:Int→Option β),strK t 0 K=K ((t[0]).toNat:Int):=fun K=>strK_at h0 K
 have z45:eqInt ((t[0]).toNat:Int) 45=false:=by rw [eqI,decide_eq_false_iff_not];omega
 have z43:eqInt ((t[0]).toNat:Int) 43=false:=by rw [eqI,decide_eq_false_iff_not];omega
 have hconv:convA E 9 81 (.str t) h=some (.slice (some (h.next,0)) t.length t.length 1,h.push (.row (ofBytes t) .grown)):=by
  have u9:E.und 9=some .string:=und9
  have u81:∃ e,E.und 81=some (.slice e)∧E.und e=some (.int .u8):=by
   have:(match E.und 81 with | some (.slice e)=>(match E.und e with | some (.int .u8)=>true | _=>false) | _=>false)=true:=by kernel_rfl
   split at this
   ·rename_i e he
    split at this
    ·rename_i h8;exact ⟨e,he,h8⟩
    ·cases this
   ·cases this
  obtain ⟨e,h1,h2⟩:=u81
  simp only [convA,u9,h1,h2]
 simp only [z1,z2,cond_true,bind2_some,need_some,e0,z45,cond_false,z43,jcase_inl,jcase_inr,hconv,bindT_some,cast_slice]
 have hg:(h.push (.row (ofBytes t) .grown)).t.get h.next=some (.row (ofBytes t) .grown):=g_push_eq _ rfl
 have lp:=atoi_loop (N:=N) hg hall hl (v2:=0) (v3:=AV.nilIface) (v5:=t) (cap:=t.length) N 0 0 (Nat.zero_le _) (by omega) (by simp)
 rw [show ((0:Nat):Int)=0 from rfl,List.drop_zero] at lp
 rw [lp]
 simp only [bind3_some,eqOut_exit,decide_true,cond_true,e0,z45,cond_false,bind2_some,need_some,jcase_inl,jcase_inr]
 have ne:binA E .neq 29 (.tmp 11) (.const .nilIface) AV.nilIface AV.nilIface=some (.bool false):=ne_nil 11
 simp only [ne,bindV_some,cast_bool,cond_false]
 exact ⟨_,rfl,chg_push _ _⟩
end Go.Proofs.YtkcjphhjmlienaaGreatDoor.Qp

set_option linter.unusedVariables false
set_option linter.unusedSimpArgs false
open Go Go.Proofs.YtkcjphhjmlienaaGreatDoor.Ai Go.Proofs
namespace Go.Proofs.YtkcjphhjmlienaaGreatDoor.Qp
structure PC (T:List Tok) (P:Nat) (X:List Nat) (h:Heap) (σ:St) (st:Int):Prop where
 pa:PA T P X h σ st
 pin:Qw.pinned h=true
 p4:4≤P
theorem pin_chg {h h':Heap} {M:List Nat} (c:Chg M h h') (hM:∀ A∈M,4≤A) (h4:4≤h.next) (hp:Qw.pinned h=true):Qw.pinned h'=true:=by
 unfold Qw.pinned Qx.pinned at hp ⊢
 have e0:h'.t.get 0=h.t.get 0:=c.g 0 (by omega) (fun hm=>by have:=hM 0 hm;omega)
 have e2:h'.t.get 2=h.t.get 2:=c.g 2 (by omega) (fun hm=>by have:=hM 2 hm;omega)
 rw [c.pins,e0,e2];exact hp
section
variable {N:Nat} {T:List Tok} {P:Nat} {X X':List Nat} {h h':Heap} {σ σ':St} {st st':Int}
theorem PC.to (x:PC T P X h σ st) {M:List Nat} (c:Chg M h h') (hM:∀ A∈M,P≤A) (y:PA T P X' h' σ' st'):PC T P X' h' σ' st':=
 ⟨y,pin_chg c (fun A hA=>Nat.le_trans x.p4 (hM A hA)) (by have:=x.pa.P_lt;have:=x.p4;omega) x.pin,x.p4⟩
theorem PC.to1 (x:PC T P X h σ st) (c:Chg [P] h h') (y:PA T P X' h' σ' st'):PC T P X' h' σ' st':=x.to c (by simp) y
theorem PC.chg (x:PC T P X h σ st) (c:Chg [] h h'):PC T P X h' σ st:=x.to c (by simp) (x.pa.chg c)
theorem PC.chgM {M:List Nat} (x:PC T P X h σ st) (c:Chg M h h') (hM:∀ A∈M,A∈X):PC T P X h' σ st:=x.to c (fun A hA=>Nat.le_of_lt (x.pa.xl A (hM A hA)).1) (x.pa.chgM c hM)
theorem PC.chg1 {A:Nat} (x:PC T P X h σ st) (c:Chg [A] h h') (hA:A∈X):PC T P X h' σ st:=x.chgM c (by simpa using hA)
theorem PC.free {i:Nat} (x:PC T P X h (i,none) st) (hX:∀ A∈X',P<A∧A<h.next):PC T P X' h (i,none) st:=⟨x.pa.free hX,x.pin,x.p4⟩
theorem PC.sub (x:PC T P X h σ st) (hX:∀ A∈X',A∈X):PC T P X' h σ st:=⟨x.pa.sub hX,x.pin,x.p4⟩
theorem PC.add (x:PC T P X h σ st) (c:Chg [] h h') {A:Nat} (h1:h.next≤A) (h2:A<h'.next):PC T P (A::X) h' σ st:=x.to c (by simp) (x.pa.add c h1 h2)
theorem PC.P_lt (x:PC T P X h σ st):P<h.next:=x.pa.P_lt
theorem PC.lt (x:PC T P X h σ st):σ.1<T.length:=x.pa.lt
theorem f57_pc (x:PC T P X h σ st) {c:Int} (hc:c≠0):∃ h',f57 N (some (P,0)) c h=some ((),h')∧Chg [P] h h'∧PC T P X h' (failS T c σ) st:=by
 obtain ⟨h',e,c,y⟩:=f57_eq (N:=N) x.pa hc
 exact ⟨h',e,c,x.to1 c y⟩
theorem f92_pc (hT:Toks T) (x:PC T P X h σ st) {w:Bs} (hw:isSign w=false):∃ h',f92 N (some (P,0)) w h=some ((optS T w σ).1,h')∧Chg [P] h h'∧PC T P X h' (optS T w σ).2 st:=by
 obtain ⟨h',e,c,y⟩:=f92_eq (N:=N) hT x.pa hw
 exact ⟨h',e,c,x.to1 c y⟩
theorem f93_pc (hT:Toks T) (x:PC T P X h σ st) {w:Bs} (hw:isWord w=false):∃ h',f93 N (some (P,0)) w h=some ((optS T w σ).1,h')∧Chg [P] h h'∧PC T P X h' (optS T w σ).2 st:=by
 obtain ⟨h',e,c,y⟩:=f93_eq (N:=N) hT x.pa hw
 exact ⟨h',e,c,x.to1 c y⟩
theorem f94_pc (hT:Toks T) (x:PC T P X h σ st) {k:Int} (hk:k≠0):∃ h',f94 N (some (P,0)) k h=some ((textS T k σ).1,h')∧Chg [P] h h'∧PC T P X h' (textS T k σ).2 st:=by
 obtain ⟨h',e,c,y⟩:=f94_eq (N:=N) hT x.pa hk
 exact ⟨h',e,c,x.to1 c y⟩
theorem f95_pc (hT:Toks T) (x:PC T P X h σ st):∃ h',f95 N (some (P,0)) h=some ((nameS T σ).1,h')∧Chg [P] h h'∧PC T P X h' (nameS T σ).2 st:=by
 obtain ⟨h',e,c,y⟩:=f95_eq (N:=N) hT x.pa
 exact ⟨h',e,c,x.to1 c y⟩
theorem f149_pc (hT:Toks T) (x:PC T P X h σ st) {w:Bs} (hw:isWord w=false):∃ h',f149 N (some (P,0)) w h=some ((),h')∧Chg [P] h h'∧PC T P X h' (wantS T w σ) st:=by
 obtain ⟨h',e,c,y⟩:=f149_eq (N:=N) hT x.pa hw
 exact ⟨h',e,c,x.to1 c y⟩
theorem f188_pc (x:PC T P X h σ st) (n:Nat):∃ h',f188 N (some (P,0)) (n:Int) h=some (((if 64≤n then failS T 5 σ else σ).2).isNone,h')∧Chg [P] h h'∧PC T P X h' (if 64≤n then failS T 5 σ else σ) st:=by
 obtain ⟨h',e,c,y⟩:=f188_eq (N:=N) x.pa n
 exact ⟨h',e,c,x.to1 c y⟩
theorem f96_pc (hT:Toks T) (hN:100≤N) (x:PC T P X h σ st):∃ v h',f96 N (some (P,0)) h=some (v,h')∧PC T P X h' (lifesS T σ).2 st∧Chg [P] h h'∧Sl h' (fun C=>h.next≤C) v ((lifesS T σ).1.map D.s):=by
 obtain ⟨v,h',e,y,c,s⟩:=f96_eq (N:=N) hT hN x.pa
 exact ⟨v,h',e,x.to1 c y,c,s⟩
theorem f55_pc (hT:Toks T) (hN:100≤N) (x:PC T P X h σ st):∃ r h',f55 N N (some (P,0)) 1 h=some (r,h')∧PC T P X h' (typS T 64 σ).2 st∧Chg [P] h h'∧Dt h' (fun C=>h.next≤C) (typS T 64 σ).1 (tyc r):=by
 obtain ⟨r,h',e,y,c,s⟩:=f55_eq (N:=N) hT hN 64 N h σ X (by omega) (by omega) x.pa
 rw [show ((65-64:Nat):Int)=1 from rfl] at e
 exact ⟨r,h',e,x.to1 c y,c,s⟩
end
theorem app_sl {h0 H:Heap} {M:List Nat} {st e:TypeId} {n W:Nat} (ha:AppN E st e n W) (hn:0<n) {v:SL} {xs:List D} {d:D} {cs:List AV} (c:Chg M h0 H) (ow:Ow h0.next H v n xs) (hd:Dt H (fun C=>h0.next≤C∧v.blk≠some C) d cs) (hcs:cs.length=n) (hl:(xs.length+1) * W≤1073741824) :
  ∃ v' H',(∀ {β:Type} (K:SL→Heap→Option β),bindT (.val (.one .slice)) (appendA E st st (.slice v.a v.len v.cap v.sz) (.slice (some (H.next,0)) 1 1 n) (H.push (.row cs .own))) K=K v' H')∧Ow h0.next H' v' n (xs++[d])∧Chg v.blk.toList H H'∧(∀ A,v'.blk=some A→v.blk=some A∨H.next≤A):=by
 obtain ⟨v',H',e,o,c',hb⟩:=append_ow ha hn ow hd hcs c.next hl
 exact ⟨v',H',fun K=>by rw [e];simp only [bindT_some,cast_slice],o,c',hb⟩
theorem app_at {h0 H:Heap} {M:List Nat} {st e:TypeId} {n W:Nat} (ha:AppN E st e n W) (hn:0<n) {O j:Nat} {cs0:List AV} {v:SL} {xs:List D} {d:D} {cs:List AV} (c:Chg M h0 H) (oO:H.own O cs0) (hj:cs0[j]? = some (SL.av v)) (ow:Ow h0.next H v n xs) (hO:O<h0.next) (hd:Dt H (fun C=>h0.next≤C∧v.blk≠some C) d cs) (hcs:cs.length=n) (hl:(xs.length+1) * W≤1073741824) :
  ∃ v' H',(∀ {β:Type} (K:Heap→Option β),(bindT (.val (.one .slice)) (appendA E st st (.slice v.a v.len v.cap v.sz) (.slice (some (H.next,0)) 1 1 n) (H.push (.row cs .own))) fun (x8:SL) h9=>need (h9.store (O,j) [.slice x8.a x8.len x8.cap x8.sz]) K)=K H')∧H'.own O (cs0.set j (SL.av v'))∧Ow h0.next H' v' n (xs++[d])∧Chg (O::v.blk.toList) H H':=by
 obtain ⟨v',H',e,o,c',hb⟩:=app_sl ha hn c ow hd hcs hl
 have hge:∀ A∈v.blk.toList,h0.next≤A:=fun A hA=>(ow.ge A (by simpa using hA)).1
 have oO':H'.own O cs0:=oO.chg c' (fun hm=>by have:=hge O hm;omega)
 have hjl:j<cs0.length:=(List.getElem?_eq_some_iff.1 hj).1
 have hst:H'.store (O,j) [SL.av v']=some (H'.put O (.row (cs0.set j (SL.av v')) .own)):=oO'.store1 hjl _
 have cp:=oO'.put (cs0.set j (SL.av v'))
 refine ⟨v',_,fun K=>?_,own_put oO' _,o.chg cp (by intro A hA;rw [List.mem_singleton] at hA;omega),(c'.mono (fun A hA=>List.mem_cons_of_mem _ hA)).trans (cp.mono (by simp))⟩
 rw [e]
 show need (H'.store (O,j) [SL.av v']) K=_
 rw [hst,need_some]
noncomputable def listK (N:Nat) (P:Option (Nat×Nat)) (sep:Bs) (F:Heap→Option (Unit×Heap)):Nat→Int→Heap→Option (Out×Unit×Heap)
 | 0,_,_=>none
 | M+1,n,h=>(bind2 (f188 N P n h) fun (x1:Bool) h2=>
  (bif x1 then
   (bind2 (F h2) fun (x3:Unit) h4=>
   (bind2 (f93 N P sep h4) fun (x5:Bool) h6=>
   (bif !x5 then
   some (Out.ret,(),h6)
   else
   listK N P sep F M (wrapA .i64 (n+1)) h6)))
  else
   some (Out.exit 0,(),h2)))
def listS (T:List Tok) (one:St→D×St) (sep:Bs):Nat→St→List D×St
 | 0,σ=>([],failS T 5 σ)
 | g+1,σ=>let a:=one σ;let b:=optS T sep a.2;if b.1=true then ((a.1::(listS T one sep g b.2).1),(listS T one sep g b.2).2) else ([a.1],b.2)
theorem list_gen {N:Nat} {T:List Tok} {P:Nat} {X:List Nat} {st:Int} (hT:Toks T) {F:Heap→Option (Unit×Heap)} {one:St→D×St} {Inv:Heap→List D→St→Prop}
  (hPC:∀ h xs σ,Inv h xs σ→PC T P X h σ st)
  (hstep:∀ h h' xs σ σ',Inv h xs σ→Chg [P] h h'→PC T P X h' σ' st→Inv h' xs σ')
  (hone:∀ h xs i,Inv h xs (i,none)→xs.length≤64→∃ h',F h=some ((),h')∧Inv h' (xs++[(one (i,none)).1]) (one (i,none)).2)
  {sep:Bs} (hsep:isWord sep=false):∀ (g M i:Nat) (h:Heap) (xs:List D),g<M→g≤64→xs.length≤64-g→Inv h xs (i,none)→
  ∃ o h',listK N (some (P,0)) sep F M ((64-g:Nat):Int) h=some (o,(),h')∧Inv h' (xs++(listS T one sep g (i,none)).1) (listS T one sep g (i,none)).2:=by
 intro g
 induction g with
 | zero=>
  intro M i h xs hM hg hx x
  obtain ⟨M,rfl⟩:∃ m,M=m+1:=⟨M-1,by omega⟩
  obtain ⟨h2,e2,c2,x2⟩:=f188_pc (N:=N) (hPC _ _ _ x) (64-0)
  simp only [listK]
  rw [e2,bind2_some]
  simp only [show 64≤64-0 by omega,if_true,failS,Option.isNone_some,cond_false] at x2 ⊢
  refine ⟨_,h2,rfl,?_⟩
  simp only [listS,List.append_nil]
  exact hstep _ _ _ _ _ x c2 x2
 | succ g ih=>
  intro M i h xs hM hg hx x
  obtain ⟨M,rfl⟩:∃ m,M=m+1:=⟨M-1,by omega⟩
  obtain ⟨h2,e2,c2,x2⟩:=f188_pc (N:=N) (hPC _ _ _ x) (64-(g+1))
  simp only [listK]
  rw [e2,bind2_some]
  have z:¬ 64≤64-(g+1):=by omega
  simp only [z,if_false,Option.isNone_none,cond_true] at x2 ⊢
  obtain ⟨h4,e4,x4⟩:=hone _ _ _ (hstep _ _ _ _ _ x c2 x2) (by omega)
  rw [e4,bind2_some]
  obtain ⟨h6,e6,c6,x6⟩:=f93_pc (N:=N) hT (hPC _ _ _ x4) (w:=sep) hsep
  rw [e6,bind2_some]
  have x6':=hstep _ _ _ _ _ x4 c6 x6
  simp only [listS]
  cases hb:(optS T sep (one (i,none)).2).1 with
  | false=>
   simp only [Bool.not_false,cond_true,Bool.false_eq_true,if_false]
   exact ⟨_,h6,rfl,x6'⟩
  | true=>
   simp only [Bool.not_true,cond_false,if_true]
   have hs:=(optS_none hb).1
   rw [hs] at x6' ⊢
   rw [wrap_succ (by omega),show 64-(g+1)+1=64-g by omega]
   have:=ih M _ h6 (xs++[(one (i,none)).1]) (by omega) (by omega) (by simp;omega) x6'
   simpa only [List.append_assoc,List.singleton_append] using this
def listE (T:List Tok) (one:St→D×St) (sep:Bs) (σ:St):List D×St:=match σ.2 with
 | none=>listS T one sep 64 σ
 | some _=>([],σ)
theorem list_all {N:Nat} {T:List Tok} {P:Nat} {X:List Nat} {st:Int} (hT:Toks T) (hN:100≤N) {F:Heap→Option (Unit×Heap)} {one:St→D×St} {Inv:Heap→List D→St→Prop}
  (hPC:∀ h xs σ,Inv h xs σ→PC T P X h σ st)
  (hstep:∀ h h' xs σ σ',Inv h xs σ→Chg [P] h h'→PC T P X h' σ' st→Inv h' xs σ')
  (hone:∀ h xs i,Inv h xs (i,none)→xs.length≤64→∃ h',F h=some ((),h')∧Inv h' (xs++[(one (i,none)).1]) (one (i,none)).2)
  {sep:Bs} (hsep:isWord sep=false) {σ:St} {h:Heap} (x:Inv h [] σ) :
  ∃ o h',listK N (some (P,0)) sep F N 0 h=some (o,(),h')∧Inv h' (listE T one sep σ).1 (listE T one sep σ).2:=by
 obtain ⟨i,e⟩:=σ
 cases e with
 | none=>
  obtain ⟨o,h',e,y⟩:=list_gen (N:=N) hT hPC hstep hone hsep 64 N i h [] (by omega) (Nat.le_refl _) (by simp) x
  rw [show ((64-64:Nat):Int)=0 from rfl] at e
  rw [List.nil_append] at y
  exact ⟨o,h',e,y⟩
 | some q=>
  obtain ⟨M,rfl⟩:∃ m,N=m+1:=⟨N-1,by omega⟩
  obtain ⟨h2,e2,c2,x2⟩:=f188_pc (N:=M+1) (hPC _ _ _ x) 0
  rw [show ((0:Nat):Int)=0 from rfl] at e2
  simp only [listK]
  rw [e2,bind2_some]
  simp only [show ¬ 64≤0 by omega,if_false,Option.isNone_some,cond_false] at x2 ⊢
  exact ⟨_,h2,rfl,hstep _ _ _ _ _ x c2 x2⟩
end Go.Proofs.YtkcjphhjmlienaaGreatDoor.Qp

set_option linter.unusedVariables false
set_option linter.unusedSimpArgs false
open Go Go.Proofs.YtkcjphhjmlienaaGreatDoor.Ai Go.Proofs
namespace Go.Proofs.YtkcjphhjmlienaaGreatDoor.Qp
theorem own_storeN {h:Heap} {A j:Nat} {cs vs cs':List AV} (x:h.own A cs) (ho:over j cs vs=some cs'):h.store (A,j) vs=some (h.put A (.row cs' .own)):=by
 rw [Heap.store_g,x.1,storeB_own,ho];rfl
abbrev FdV:=Bool×List UInt8×Int×List UInt8×SL×SL×Unit
def fdc (x:FdV):List AV:=[.bool x.1,.str x.2.1,.int .i64 x.2.2.1,.str x.2.2.2.1,SL.av x.2.2.2.2.1,SL.av x.2.2.2.2.2.1]
abbrev fd0:FdV:=(false,[],0,[],sl0,sl0,())
def fdOf (m:Bool) (nm:Bs) (r:TyV):FdV:=(m,nm,r.1,r.2.1,r.2.2.1,r.2.2.2.1,())
theorem agg6 {β:Type} (r:FdV) (K:FdV→Option β):bindV (.val (.agg [.bool,.str,(.int .i64),.str,.slice,.slice])) (some (.agg (fdc r))) K=K r:=by
 obtain ⟨m,n,k,x,s1,s2,_⟩:=r
 simp [fdc,SL.av]
theorem cells6 {H:Heap} {A:Nat} {r:FdV} (o:H.own A (fdc r)) {β:Type} (K:FdV→Option β):bindV (.val (.agg [.bool,.str,(.int .i64),.str,.slice,.slice])) (H.cells (A,0) 6) K=K r:=by
 have:H.cells (A,0) 6=some (.agg (fdc r)):=o.cells (j:=0) (m:=6) (Nat.le_refl _)
 rw [this,agg6]
theorem store6 {H:Heap} {A:Nat} {r0:FdV} (o:H.own A (fdc r0)) (r:FdV):H.store (A,0) [.bool r.1,.str r.2.1,.int .i64 r.2.2.1,.str r.2.2.2.1,.slice r.2.2.2.2.1.a r.2.2.2.2.1.len r.2.2.2.2.1.cap r.2.2.2.2.1.sz,.slice r.2.2.2.2.2.1.a r.2.2.2.2.2.1.len r.2.2.2.2.2.1.cap r.2.2.2.2.2.1.sz]=some (H.put A (.row (fdc r) .own)):=o.store rfl
theorem fin6 {H:Heap} {A:Nat} {r0:FdV} (o:H.own A (fdc r0)) (r:FdV) {β:Type} (K:FdV→Heap→Option β) :
  (need (H.store (A,0) [.bool r.1,.str r.2.1,.int .i64 r.2.2.1,.str r.2.2.2.1,.slice r.2.2.2.2.1.a r.2.2.2.2.1.len r.2.2.2.2.1.cap r.2.2.2.2.1.sz,.slice r.2.2.2.2.2.1.a r.2.2.2.2.2.1.len r.2.2.2.2.2.1.cap r.2.2.2.2.2.1.sz]) fun h7=>bindV (.val (.agg [.bool,.str,(.int .i64),.str,.slice,.slice])) (h7.cells (A,0) 6) fun x8=>K x8 h7)=K r (H.put A (.row (fdc r) .own)):=by
 rw [store6 o,need_some,cells6 (own_put o _)]
def fdD (m:Bool) (nm:Bs) (ty:D):D:=.t [.b m,.s nm,ty]
theorem dt_b (h:Heap) (V:Nat→Prop) (x:Bool):Dt h V (.b x) [.bool x]:=by simp only [Dt]
theorem dt_i (h:Heap) (V:Nat→Prop) (x:Int):Dt h V (.i x) [.int .i64 x]:=by simp only [Dt]
theorem dp_nil (h:Heap) (V:Nat→Prop):Dp h V [] []:=by simp only [Dp]
theorem dp_cons {h:Heap} {V:Nat→Prop} {d:D} {r:List D} {a b:List AV} (x:Dt h V d a) (y:Dp h V r b):Dp h V (d::r) (a++b):=by
 simp only [Dp];exact ⟨a,b,rfl,x,y⟩
theorem dt_t {h:Heap} {V:Nat→Prop} {ds:List D} {cs:List AV} (x:Dp h V ds cs):Dt h V (.t ds) cs:=by simp only [Dt];exact x
theorem dt_fd {h:Heap} {V:Nat→Prop} {m:Bool} {nm:Bs} {ty:D} {r:TyV} (x:Dt h V ty (tyc r)):Dt h V (fdD m nm ty) (fdc (fdOf m nm r)):=
 dt_t (dp_cons (a:=[_]) (dt_b h V m) (dp_cons (a:=[_]) (dt_str h V nm) (dp_cons (a:=tyc r) (b:=[]) x (dp_nil h V))))
def fieldS (T:List Tok) (σ:St):D×St:=
 let a:=textS T 1 σ
 let r:=typS T 64 (wantS T [58] a.2)
 (fdD false a.1 r.1,r.2)
section
variable {N:Nat} {T:List Tok} {P:Nat} {X:List Nat} {st:Int} {h:Heap} {σ:St}
theorem f154_pc (hT:Toks T) (hN:100≤N) (x:PC T P X h σ st):∃ r h',f154 N (some (P,0)) h=some (r,h')∧PC T P X h' (fieldS T σ).2 st∧Chg [P] h h'∧Dt h' (fun C=>h.next≤C) (fieldS T σ).1 (fdc r)∧∃ nm t,r=fdOf false nm t∧(fieldS T σ).1=fdD false nm (typS T 64 (wantS T [58] (textS T 1 σ).2)).1∧Dt h' (fun C=>h.next≤C) (typS T 64 (wantS T [58] (textS T 1 σ).2)).1 (tyc t):=by
 unfold f154
 have hP:=x.P_lt
 have o1:=own_push h (fdc fd0)
 have c1:=chg_push h (.row (fdc fd0) .own)
 have x1:=x.add c1 (A:=h.next) (Nat.le_refl _) (Nat.lt_succ_self _)
 have e1:h.push (.row [(.bool false),(.str []),(.int .i64 0),(.str []),(.slice none 0 0 0),(.slice none 0 0 0)] .own)=h.push (.row (fdc fd0) .own):=rfl
 rw [e1]
 have n1:(h.push (.row (fdc fd0) .own)).next=h.next+1:=rfl
 generalize h.push (.row (fdc fd0) .own)=h1 at *
 dsimp only
 obtain ⟨h3,e3,c3,x3⟩:=f94_pc (N:=N) hT x1 (k:=1) (by decide)
 rw [e3,bind2_some]
 have o3:=o1.chg c3 (by simp;omega)
 have hn3:=c3.next
 have oA0:=own_push h3 (fdc fd0)
 have cA0:=chg_push h3 (.row (fdc fd0) .own)
 have eA:h3.push (.row [(.bool false),(.str []),(.int .i64 0),(.str []),(.slice none 0 0 0),(.slice none 0 0 0)] .own)=h3.push (.row (fdc fd0) .own):=rfl
 generalize hnm:(textS T 1 σ).1=nm at *
 have hstA:(h3.push (.row (fdc fd0) .own)).store (h3.next,0) [(.bool false),(.str nm),(.int .i64 0),(.str []),(.slice none 0 0 0),(.slice none 0 0 0)]=some ((h3.push (.row (fdc fd0) .own)).put h3.next (.row (fdc (fdOf false nm (0,[],sl0,sl0,()))) .own)):=oA0.store rfl
 rw [eA,hstA,need_some]
 have oA:=own_put oA0 (fdc (fdOf false nm (0,[],sl0,sl0,())))
 have cA:Chg [] h3 ((h3.push (.row (fdc fd0) .own)).put h3.next (.row (fdc (fdOf false nm (0,[],sl0,sl0,()))) .own)):=cA0.put (.inr (Nat.le_refl _)) _
 have nA:((h3.push (.row (fdc fd0) .own)).put h3.next (.row (fdc (fdOf false nm (0,[],sl0,sl0,()))) .own)).next=h3.next+1:=rfl
 have x5:=x3.add cA (A:=h3.next) (Nat.le_refl _) (Nat.lt_succ_self _)
 have oR:=o3.chg cA (by simp)
 generalize (h3.push (.row (fdc fd0) .own)).put h3.next (.row (fdc (fdOf false nm (0,[],sl0,sl0,()))) .own)=h5 at *
 obtain ⟨h7,e7,c7,x7⟩:=f149_pc (N:=N) hT x5 (w:=[58]) (by decide)
 rw [e7,bind2_some]
 obtain ⟨r8,h9,e9,x9,c9,d9⟩:=f55_pc (N:=N) hT hN x7
 rw [e9,bind2_some]
 have c79:=c7.trans c9
 have oA9:=oA.chg c79 (by simp;omega)
 have oR9:=oR.chg c79 (by simp;omega)
 have hst:h9.store (h3.next,2) [.int .i64 r8.1,.str r8.2.1,.slice r8.2.2.1.a r8.2.2.1.len r8.2.2.1.cap r8.2.2.1.sz,.slice r8.2.2.2.1.a r8.2.2.2.1.len r8.2.2.2.1.cap r8.2.2.2.1.sz]=some (h9.put h3.next (.row (fdc (fdOf false nm r8)) .own)):=own_storeN oA9 rfl
 simp only [Nat.zero_add]
 rw [hst,need_some]
 have cB:=oA9.put (fdc (fdOf false nm r8))
 have oA10:=own_put oA9 (fdc (fdOf false nm r8))
 have oR10:=oR9.chg cB (by simp;omega)
 have x10:=x9.chg1 cB (by simp)
 have hn7:=c7.next
 have d10:=d9.chg cB (fun C hC=>by simp;omega)
 have hn9:=c9.next
 generalize h9.put h3.next (.row (fdc (fdOf false nm r8)) .own)=h10 at *
 rw [cells6 oA10]
 have cR:=oR10.put (fdc (fdOf false nm r8))
 have cAll:Chg [P] h h10:=by
  have a1:Chg [P] h h5:=((c1.mono (by simp)).trans c3).trans (cA.mono (by simp))
  exact (a1.trans c79).step cB (fun A hA hl=>by rw [List.mem_singleton] at hA;omega)
 have d11:=(d10.chg cR (fun C hC=>by simp;omega)).weak (W:=fun C=>h.next≤C) (fun C hC _=>by omega)
 simp only [fieldS,hnm]
 exact ⟨fdOf false nm r8,_,fin6 oR10 (fdOf false nm r8) (fun x h=>some (x,h)),(x10.chg1 cR (by simp)).sub (by simp +contextual),cAll.put (.inr (Nat.le_refl _)) _,dt_fd d11,nm,r8,rfl,rfl,d11⟩
end
end Go.Proofs.YtkcjphhjmlienaaGreatDoor.Qp

set_option linter.unusedVariables false
set_option linter.unusedSimpArgs false
open Go Go.Proofs.YtkcjphhjmlienaaGreatDoor.Ai Go.Proofs
namespace Go.Proofs.YtkcjphhjmlienaaGreatDoor.Qp
structure CF (P:Nat) (X:List Nat) (h0:Heap) (O Q n j:Nat) (row:SL→List AV):Prop where
 o:P<O∧O<h0.next
 q:Q≠P∧Q≠O∧Q<h0.next
 x:O∈X
 rj:∀ v,(row v)[j]? = some (SL.av v)
 rs:∀ v v',(row v).set j (SL.av v')=row v'
structure CI (T:List Tok) (P:Nat) (X:List Nat) (st:Int) (h0:Heap) (O Q n:Nat) (row:SL→List AV) (h:Heap) (xs:List D) (σ:St):Prop where
 pc:PC T P X h σ st
 chg:Chg [P,O] h0 h
 q:h.own Q [.ptr (some (P,0))]
 ex:∃ v,h.own O (row v)∧Ow h0.next h v n xs
section
variable {T:List Tok} {P:Nat} {X:List Nat} {st:Int} {h0 h h' h6:Heap} {O Q n j:Nat} {row:SL→List AV} {xs:List D} {σ σ':St}
theorem CI.step (f:CF P X h0 O Q n j row) (x:CI T P X st h0 O Q n row h xs σ) (c:Chg [P] h h') (y:PC T P X h' σ' st):CI T P X st h0 O Q n row h' xs σ':=by
 obtain ⟨v,o1,w1⟩:=x.ex
 have:=f.o;have:=f.q
 exact ⟨y,x.chg.trans (c.mono (by simp)),x.q.chg c (by simp;omega),v,o1.chg c (by simp;omega),w1.chg c (by intro A hA;rw [List.mem_singleton] at hA;omega)⟩
theorem CI.open {i:Nat} (f:CF P X h0 O Q n j row) (x:CI T P X st h0 O Q n row h xs (i,none)):∃ v,h.own O (row v)∧Ow h0.next h v n xs∧PC T P (v.blk.toList++X) h (i,none) st∧h.cell (O,j)=some (.slice v.a v.len v.cap v.sz)∧h.cell (Q,0)=some (.ptr (some (P,0))):=by
 obtain ⟨v,o1,w1⟩:=x.ex
 have:=f.o
 refine ⟨v,o1,w1,x.pc.free fun A hA=>?_,by rw [o1.cell j,f.rj v];rfl,x.q.cell 0⟩
 rcases List.mem_append.1 hA with hA | hA
 ·have:=w1.ge A (by simpa using hA);omega
 ·exact x.pc.pa.xl A hA
theorem CI.close {i:Nat} (f:CF P X h0 O Q n j row) (x:CI T P X st h0 O Q n row h xs (i,none)) {v:SL} (o1:h.own O (row v)) (w1:Ow h0.next h v n xs) {t e:TypeId} {W:Nat} (ha:AppN E t e n W) (hn:0<n) (hW:W≤10000000) (hl:xs.length≤64) (c:Chg [P] h h6) (y:PC T P (v.blk.toList++X) h6 σ' st) {d:D} {cs:List AV} (hd:Dt h6 (fun C=>h.next≤C) d cs) (hcs:cs.length=n) :
  ∃ H',(∀ {β:Type} (K:Heap→Option β),(bindT (.val (.one .slice)) (appendA E t t (.slice v.a v.len v.cap v.sz) (.slice (some (h6.next,0)) 1 1 n) (h6.push (.row cs .own))) fun (x8:SL) h9=>need (h9.store (O,j) [.slice x8.a x8.len x8.cap x8.sz]) K)=K H')∧CI T P X st h0 O Q n row H' (xs++[d]) σ'∧h6.cell (O,j)=some (.slice v.a v.len v.cap v.sz)∧(h6.push (.row cs .own)).cell (O,j)=some (.slice v.a v.len v.cap v.sz):=by
 have hO:=f.o;have hQ:=f.q
 have hlt:∀ A,v.blk=some A→h0.next≤A∧A<h.next:=w1.ge
 have c06:Chg [P,O] h0 h6:=x.chg.trans (c.mono (by simp))
 have o6:h6.own O (row v):=o1.chg c (by simp;omega)
 have w6:Ow h0.next h6 v n xs:=w1.chg c (by intro A hA;rw [List.mem_singleton] at hA;omega)
 have hn0:=x.chg.next
 have hd6:Dt h6 (fun C=>h0.next≤C∧v.blk≠some C) d cs:=hd.weak fun C hC _=>⟨by omega,fun e=>by have:=hlt C e;omega⟩
 have hll:(xs.length+1) * W≤1073741824:=by
  have:(xs.length+1) * W≤65 * 10000000:=Nat.mul_le_mul (by omega) hW
  omega
 obtain ⟨v',H',e',o',w',c'⟩:=app_at ha hn c06 o6 (f.rj v) w6 hO.2 hd6 hcs hll
 have hM:∀ A∈O::v.blk.toList,P<A∧A∈v.blk.toList++X:=fun A hA=>by
  rcases List.mem_cons.1 hA with rfl | hA
  ·exact ⟨hO.1,List.mem_append_right _ f.x⟩
  ·exact ⟨by have:=hlt A (by simpa using hA);omega,List.mem_append_left _ hA⟩
 have y':=y.chgM c' fun A hA=>(hM A hA).2
 refine ⟨H',e',⟨y'.sub fun A hA=>List.mem_append_right _ hA,c06.step c' fun A hA hlt'=>?_,(x.q.chg c (by simp;omega)).chg c' fun hm=>?_,v',by rw [← f.rs v v'];exact o',w'⟩,by rw [o6.cell j,f.rj v];rfl,by rw [(o6.chg (chg_push h6 _) (by simp)).cell j,f.rj v];rfl⟩
 ·rcases List.mem_cons.1 hA with rfl | hA
  ·simp
  ·have:=hlt A (by simpa using hA);omega
 ·rcases List.mem_cons.1 hm with e | hm
  ·exact hQ.2.1 e
  ·have:=hlt Q (by simpa using hm);omega
end
abbrev StV:=Bool×List UInt8×SL×SL×Int×Unit
def stc (x:StV):List AV:=[.bool x.1,.str x.2.1,SL.av x.2.2.1,SL.av x.2.2.2.1,.int .i64 x.2.2.2.2.1]
abbrev st0:StV:=(false,[],sl0,sl0,0,())
theorem agg5 {β:Type} (r:StV) (K:StV→Option β):bindV (.val (.agg [.bool,.str,.slice,.slice,(.int .i64)])) (some (.agg (stc r))) K=K r:=by
 obtain ⟨m,n,s1,s2,k,_⟩:=r
 simp [stc,SL.av]
theorem cells5 {H:Heap} {A:Nat} {r:StV} (o:H.own A (stc r)) {β:Type} (K:StV→Option β):bindV (.val (.agg [.bool,.str,.slice,.slice,(.int .i64)])) (H.cells (A,0) 5) K=K r:=by
 have:H.cells (A,0) 5=some (.agg (stc r)):=o.cells (j:=0) (m:=5) (Nat.le_refl _)
 rw [this,agg5]
theorem fin5 {H:Heap} {A:Nat} {r0:StV} (o:H.own A (stc r0)) (r:StV) {β:Type} (K:StV→Heap→Option β) :
  (need (H.store (A,0) [.bool r.1,.str r.2.1,.slice r.2.2.1.a r.2.2.1.len r.2.2.1.cap r.2.2.1.sz,.slice r.2.2.2.1.a r.2.2.2.1.len r.2.2.2.1.cap r.2.2.2.1.sz,.int .i64 r.2.2.2.2.1]) fun h7=>bindV (.val (.agg [.bool,.str,.slice,.slice,(.int .i64)])) (h7.cells (A,0) 5) fun x8=>K x8 h7)=K r (H.put A (.row (stc r) .own)):=by
 have:H.store (A,0) [.bool r.1,.str r.2.1,.slice r.2.2.1.a r.2.2.1.len r.2.2.1.cap r.2.2.1.sz,.slice r.2.2.2.1.a r.2.2.2.1.len r.2.2.2.1.cap r.2.2.2.1.sz,.int .i64 r.2.2.2.2.1]=some (H.put A (.row (stc r) .own)):=o.store rfl
 rw [this,need_some,cells5 (own_put o _)]
def strD (pub:Bool) (nm:Bs) (lv:List Bs) (fs:List D) (at_:Int):D:=.t [.b pub,.s nm,.l (lv.map D.s),.l fs,.i at_]
theorem dt_str5 {h:Heap} {V:Nat→Prop} {pub:Bool} {nm:Bs} {lv:List Bs} {fs:List D} {at_:Int} {s1 s2:SL} (x:Sl h V s1 (lv.map D.s)) (y:Sl h V s2 fs):Dt h V (strD pub nm lv fs at_) (stc (pub,nm,s1,s2,at_,())):=
 dt_t (dp_cons (a:=[_]) (dt_b h V pub) (dp_cons (a:=[_]) (dt_str h V nm) (dp_cons (a:=[_]) (dt_av.2 x) (dp_cons (a:=[_]) (dt_av.2 y) (dp_cons (a:=[_]) (b:=[]) (dt_i h V at_) (dp_nil h V))))))
def structS (T:List Tok) (pub:Bool) (at_:Int) (σ:St):D×St:=
 let a:=textS T 1 σ
 let l:=lifesS T a.2
 let b:=optS T [125] (wantS T [123] l.2)
 if b.1=true then (strD pub a.1 l.1 [] at_,b.2)
 else let fs:=listE T (fieldS T) [44] b.2;(strD pub a.1 l.1 fs.1 at_,wantS T [125] fs.2)
theorem app37:AppN E 37 140 6 1000:=AppN.of (by kernel_rfl)
section
variable {N:Nat} {T:List Tok} {P:Nat} {X:List Nat} {st:Int} {h:Heap} {σ:St}
theorem f147c153_l1_eq (P:Option (Nat×Nat)) (sep:Bs) (O Q:Option (Nat×Nat)):∀ (M:Nat) (n:Int) (h:Heap),f147c153_l1 N M P sep (O,Q,()) n h=listK N P sep (fun h=>f153 N O Q h) M n h
 | 0,n,h=>rfl
 | M+1,n,h=>by
  rw [f147c153_l1_succ]
  unfold f147c153_l1_b
  simp only [listK]
  simp only [f147c153_l1_eq P sep O Q M]
theorem f153_ci (hT:Toks T) (hN:100≤N) {h0:Heap} {O Q:Nat} {row:SL→List AV} (f:CF P X h0 O Q 6 3 row) {xs:List D} {i:Nat} (x:CI T P X st h0 O Q 6 row h xs (i,none)) (hl:xs.length≤64):∃ h',f153 N (some (O,0)) (some (Q,0)) h=some ((),h')∧CI T P X st h0 O Q 6 row h' (xs++[(fieldS T (i,none)).1]) (fieldS T (i,none)).2:=by
 unfold f153
 obtain ⟨v,o1,w1,y,r1,r2⟩:=x.open f
 obtain ⟨r,h6,e6,x6,c6,d6,_⟩:=f154_pc (N:=N) hT hN y
 obtain ⟨H',eK,ci,g1,g2⟩:=x.close f o1 w1 app37 (by decide) (by decide) hl c6 x6 d6 rfl
 simp only [need_some,Nat.zero_add,r1,r2,bindV_some,cast_slice,cast_ptr]
 rw [e6,bind2_some]
 have g2':(h6.push (.row [(.bool r.1),(.str r.2.1),(.int .i64 r.2.2.1),(.str r.2.2.2.1),(.slice r.2.2.2.2.1.a r.2.2.2.2.1.len r.2.2.2.2.1.cap r.2.2.2.2.1.sz),(.slice r.2.2.2.2.2.1.a r.2.2.2.2.2.1.len r.2.2.2.2.2.1.cap r.2.2.2.2.2.1.sz)] .own)).cell (O,3)=some (.slice v.a v.len v.cap v.sz):=g2
 simp only [needB,r2,g2',g1,r1,sameO_some,cond_true,guardB_true]
 exact ⟨H',eK _,ci⟩
theorem struct_list (hT:Toks T) (hN:100≤N) {h0:Heap} {O Q:Nat} {row:SL→List AV} (f:CF P X h0 O Q 6 3 row) (x:CI T P X st h0 O Q 6 row h0 [] σ):∃ h',f147c153 N (some (P,0)) [44] ((some (O,0)),(some (Q,0)),()) h0=some ((),h')∧CI T P X st h0 O Q 6 row h' (listE T (fieldS T) [44] σ).1 (listE T (fieldS T) [44] σ).2:=by
 unfold f147c153
 obtain ⟨o,h',e,y⟩:=list_all (N:=N) hT hN (F:=fun h=>f153 N (some (O,0)) (some (Q,0)) h) (one:=fieldS T) (Inv:=CI T P X st h0 O Q 6 row) (fun h xs σ c=>c.pc) (fun h h' xs σ σ' c d z=>c.step f d z) (fun h xs i c hl=>f153_ci hT hN f c hl) (sep:=[44]) (by decide) x
 simp only [f147c153_l1_eq]
 rw [e]
 simp only [bind3_some]
 cases eqOut o (.exit 0) <;> exact ⟨h',rfl,y⟩
theorem f102_pc (hT:Toks T) (hN:100≤N) (x:PC T P X h σ st) (pub:Bool) (at_:Int):∃ r h',f102 N (some (P,0)) pub at_ h=some (r,h')∧PC T P X h' (structS T pub at_ σ).2 st∧Chg [P] h h'∧Dt h' (fun C=>h.next≤C) (structS T pub at_ σ).1 (stc r):=by
 unfold f102
 have hP:=x.P_lt
 have oQ:=own_push h [AV.ptr (some (P,0))]
 have cQ:=chg_push h (.row [AV.ptr (some (P,0))] .own)
 have nQ:(h.push (.row [AV.ptr (some (P,0))] .own)).next=h.next+1:=rfl
 dsimp only
 generalize h.push (.row [AV.ptr (some (P,0))] .own)=h1 at *
 have oR:=own_push h1 (stc st0)
 have cR:=chg_push h1 (.row (stc st0) .own)
 have eR:h1.push (.row [(.bool false),(.str []),(.slice none 0 0 0),(.slice none 0 0 0),(.int .i64 0)] .own)=h1.push (.row (stc st0) .own):=rfl
 have nR:(h1.push (.row (stc st0) .own)).next=h1.next+1:=rfl
 have x2:=(x.chg cQ).add cR (A:=h1.next) (Nat.le_refl _) (Nat.lt_succ_self _)
 rw [eR]
 generalize h1.push (.row (stc st0) .own)=h2 at *
 have oQ2:=oQ.chg cR (by simp)
 have c02:=cQ.trans cR
 have r2:h2.cell (h.next,0)=some (.ptr (some (P,0))):=oQ2.cell 0
 simp only [r2,bindV_some,cast_ptr]
 obtain ⟨h5,e5,c5,x5⟩:=f94_pc (N:=N) hT x2 (k:=1) (by decide)
 rw [e5,bind2_some]
 have oQ5:=oQ2.chg c5 (by simp;omega)
 have oR5:=oR.chg c5 (by simp;omega)
 have hn5:=c5.next
 generalize hnm:(textS T 1 σ).1=nm at *
 have oO0:=own_push h5 (stc st0)
 have cO0:=chg_push h5 (.row (stc st0) .own)
 have eO:h5.push (.row [(.bool false),(.str []),(.slice none 0 0 0),(.slice none 0 0 0),(.int .i64 0)] .own)=h5.push (.row (stc st0) .own):=rfl
 have hstO:(h5.push (.row (stc st0) .own)).store (h5.next,0) [(.bool pub),(.str nm),(.slice none 0 0 0),(.slice none 0 0 0),(.int .i64 at_)]=some ((h5.push (.row (stc st0) .own)).put h5.next (.row (stc (pub,nm,sl0,sl0,at_,())) .own)):=oO0.store rfl
 rw [eO,hstO,need_some]
 have oO:=own_put oO0 (stc (pub,nm,sl0,sl0,at_,()))
 have cO:Chg [] h5 ((h5.push (.row (stc st0) .own)).put h5.next (.row (stc (pub,nm,sl0,sl0,at_,())) .own)):=cO0.put (.inr (Nat.le_refl _)) _
 have nO:((h5.push (.row (stc st0) .own)).put h5.next (.row (stc (pub,nm,sl0,sl0,at_,())) .own)).next=h5.next+1:=rfl
 have x7:=x5.add cO (A:=h5.next) (Nat.le_refl _) (Nat.lt_succ_self _)
 have oQ7:=oQ5.chg cO (by simp)
 have oR7:=oR5.chg cO (by simp)
 generalize (h5.push (.row (stc st0) .own)).put h5.next (.row (stc (pub,nm,sl0,sl0,at_,())) .own)=h7 at *
 have r7:h7.cell (h.next,0)=some (.ptr (some (P,0))):=oQ7.cell 0
 simp only [r7,bindV_some,cast_ptr]
 obtain ⟨s9,h10,e10,x10,c10,sl10⟩:=f96_pc (N:=N) hT hN x7
 rw [e10,bind2_some]
 have oQ10:=oQ7.chg c10 (by simp;omega)
 have oR10:=oR7.chg c10 (by simp;omega)
 have oO10:=oO.chg c10 (by simp;omega)
 have hn10:=c10.next
 have hst:h10.store (h5.next,2) [.slice s9.a s9.len s9.cap s9.sz]=some (h10.put h5.next (.row (stc (pub,nm,s9,sl0,at_,())) .own)):=own_storeN oO10 rfl
 simp only [Nat.zero_add]
 rw [hst,need_some]
 have cS:=oO10.put (stc (pub,nm,s9,sl0,at_,()))
 have oO11:=own_put oO10 (stc (pub,nm,s9,sl0,at_,()))
 have oQ11:=oQ10.chg cS (by simp;omega)
 have oR11:=oR10.chg cS (by simp;omega)
 have x11:=x10.chg1 cS (by simp)
 have sl11:=sl10.chg cS (fun C hC=>by simp;omega)
 have n11:(h10.put h5.next (.row (stc (pub,nm,s9,sl0,at_,())) .own)).next=h10.next:=rfl
 have c011:Chg [P] h (h10.put h5.next (.row (stc (pub,nm,s9,sl0,at_,())) .own)):=by
  have a1:Chg [P] h h7:=((c02.mono (by simp)).trans c5).trans (cO.mono (by simp))
  exact (a1.trans c10).step cS (fun A hA hl=>by rw [List.mem_singleton] at hA;omega)
 generalize h10.put h5.next (.row (stc (pub,nm,s9,sl0,at_,())) .own)=h11 at *
 have r11:h11.cell (h.next,0)=some (.ptr (some (P,0))):=oQ11.cell 0
 simp only [r11,bindV_some,cast_ptr]
 obtain ⟨h14,e14,c14,x14⟩:=f149_pc (N:=N) hT x11 (w:=[123]) (by decide)
 rw [e14,bind2_some]
 have oQ14:=oQ11.chg c14 (by simp;omega)
 have r14:h14.cell (h.next,0)=some (.ptr (some (P,0))):=oQ14.cell 0
 simp only [r14,bindV_some,cast_ptr]
 obtain ⟨h17,e17,c17,x17⟩:=f93_pc (N:=N) hT x14 (w:=[125]) (by decide)
 rw [e17,bind2_some]
 have c1117:=c14.trans c17
 have oQ17:=oQ14.chg c17 (by simp;omega)
 have oO17:=oO11.chg c1117 (by simp;omega)
 have oR17:=oR11.chg c1117 (by simp;omega)
 have sl17:=sl11.chg c1117 (fun C hC=>by simp;omega)
 have hn17:=c1117.next
 have c017:=c011.trans c1117
 simp only [structS,hnm]
 cases hb:(optS T [125] (wantS T [123] (lifesS T (textS T 1 σ).2).2)).1 with
 | true=>
  simp only [Bool.not_true,cond_false,if_true]
  rw [cells5 oO17]
  have cZ:=oR17.put (stc (pub,nm,s9,sl0,at_,()))
  refine ⟨(pub,nm,s9,sl0,at_,()),_,fin5 oR17 (pub,nm,s9,sl0,at_,()) (fun x h=>some (x,h)),(x17.chg1 cZ (by simp)).sub (by simp +contextual),c017.step cZ (fun A hA hl=>by rw [List.mem_singleton] at hA;omega),dt_str5 ?_ (Sl.nil _ _ _)⟩
  exact (sl17.chg cZ (fun C hC=>by simp;omega)).weak (fun C hC _=>by omega)
 | false=>
  simp only [Bool.not_false,cond_true,Bool.false_eq_true,if_false]
  have r17:h17.cell (h.next,0)=some (.ptr (some (P,0))):=oQ17.cell 0
  simp only [r17,bindV_some,cast_ptr]
  have f:CF P (h5.next::h1.next::X) h17 h5.next h.next 6 3 (fun v=>stc (pub,nm,s9,v,at_,())):=⟨by omega,by omega,by simp,fun v=>rfl,fun v v'=>rfl⟩
  obtain ⟨h21,e21,ci⟩:=struct_list (N:=N) hT hN f ⟨x17,Chg.refl _ _,oQ17,sl0,oO17,Ow.nil _ _ _ _⟩
  rw [e21,bind2_some]
  obtain ⟨v,oO21,w21⟩:=ci.ex
  have r21:h21.cell (h.next,0)=some (.ptr (some (P,0))):=ci.q.cell 0
  simp only [r21,bindV_some,cast_ptr]
  obtain ⟨h24,e24,c24,x24⟩:=f149_pc (N:=N) hT ci.pc (w:=[125]) (by decide)
  rw [e24,bind2_some]
  have hn21:=ci.chg.next
  have hn24:=c24.next
  have oO24:=oO21.chg c24 (by simp;omega)
  have w24:=w21.chg c24 (by intro A hA;rw [List.mem_singleton] at hA;omega)
  have oR24:=(oR17.chg ci.chg (by simp;omega)).chg c24 (by simp;omega)
  have sl24:=(sl17.chg ci.chg (fun C hC=>by simp;omega)).chg c24 (fun C hC=>by simp;omega)
  rw [cells5 oO24]
  have cZ:=oR24.put (stc (pub,nm,s9,v,at_,()))
  have c024:Chg [P] h h24:=(c017.step ci.chg (fun A hA hl=>by
   simp only [List.mem_cons,List.not_mem_nil,or_false] at hA ⊢;omega)).trans c24
  refine ⟨(pub,nm,s9,v,at_,()),_,fin5 oR24 (pub,nm,s9,v,at_,()) (fun x h=>some (x,h)),(x24.chg1 cZ (by simp)).sub (by simp +contextual),c024.step cZ (fun A hA hl=>by rw [List.mem_singleton] at hA;omega),dt_str5 ?_ ?_⟩
  ·exact (sl24.chg cZ (fun C hC=>by simp;omega)).weak (fun C hC _=>by omega)
  ·exact (w24.sl.chg cZ (fun C hC=>by simp;omega)).weak (fun C hC _=>by omega)
end
end Go.Proofs.YtkcjphhjmlienaaGreatDoor.Qp

set_option linter.unusedVariables false
set_option linter.unusedSimpArgs false
open Go Go.Proofs.YtkcjphhjmlienaaGreatDoor.Ai Go.Proofs
namespace Go.Proofs.YtkcjphhjmlienaaGreatDoor.Qp
abbrev LfV:=List UInt8×SL×Unit
def lfc (x:LfV):List AV:=[.str x.1,SL.av x.2.1]
abbrev lf0:LfV:=([],sl0,())
theorem agg2 {β:Type} (r:LfV) (K:LfV→Option β):bindV (.val (.agg [.str,.slice])) (some (.agg (lfc r))) K=K r:=by
 obtain ⟨n,s,_⟩:=r
 simp [lfc,SL.av]
theorem cells2 {H:Heap} {A:Nat} {r:LfV} (o:H.own A (lfc r)) {β:Type} (K:LfV→Option β):bindV (.val (.agg [.str,.slice])) (H.cells (A,0) 2) K=K r:=by
 have:H.cells (A,0) 2=some (.agg (lfc r)):=o.cells (j:=0) (m:=2) (Nat.le_refl _)
 rw [this,agg2]
theorem fin2 {H:Heap} {A:Nat} {r0:LfV} (o:H.own A (lfc r0)) (r:LfV) {β:Type} (K:LfV→Heap→Option β) :
  (need (H.store (A,0) [.str r.1,.slice r.2.1.a r.2.1.len r.2.1.cap r.2.1.sz]) fun h7=>bindV (.val (.agg [.str,.slice])) (h7.cells (A,0) 2) fun x8=>K x8 h7)=K r (H.put A (.row (lfc r) .own)):=by
 have:H.store (A,0) [.str r.1,.slice r.2.1.a r.2.1.len r.2.1.cap r.2.1.sz]=some (H.put A (.row (lfc r) .own)):=o.store rfl
 rw [this,need_some,cells2 (own_put o _)]
def pairD (nm:Bs) (l:List D):D:=.t [.s nm,.l l]
theorem dt_pair {h:Heap} {V:Nat→Prop} {nm:Bs} {l:List D} {s:SL} (x:Sl h V s l):Dt h V (pairD nm l) (lfc (nm,s,())):=
 dt_t (dp_cons (a:=[_]) (dt_str h V nm) (dp_cons (a:=[_]) (b:=[]) (dt_av.2 x) (dp_nil h V)))
def textD (T:List Tok) (k:Int) (σ:St):D×St:=(.s (textS T k σ).1,(textS T k σ).2)
def lifS (T:List Tok) (σ:St):D×St:=
 let a:=textS T 3 σ
 let b:=optS T [58] a.2
 if b.1=true then (pairD a.1 (listE T (textD T 3) [43] b.2).1,(listE T (textD T 3) [43] b.2).2) else (pairD a.1 [],b.2)
def paramS (T:List Tok) (σ:St):D×St:=
 let m:=optS T [109,117,116] σ
 let a:=textS T 1 m.2
 let r:=typS T 64 (wantS T [58] a.2)
 (fdD m.1 a.1 r.1,r.2)
theorem app36:AppN E 36 76 2 1000:=AppN.of (by kernel_rfl)
section
variable {N:Nat} {T:List Tok} {P:Nat} {X:List Nat} {st:Int} {h:Heap} {σ:St}
theorem f147c189_l1_eq (P:Option (Nat×Nat)) (sep:Bs) (O Q:Option (Nat×Nat)):∀ (M:Nat) (n:Int) (h:Heap),f147c189_l1 N M P sep (O,Q,()) n h=listK N P sep (fun h=>f189 N O Q h) M n h
 | 0,n,h=>rfl
 | M+1,n,h=>by
  rw [f147c189_l1_succ]
  unfold f147c189_l1_b
  simp only [listK]
  simp only [f147c189_l1_eq P sep O Q M]
theorem f147c155_l1_eq (P:Option (Nat×Nat)) (sep:Bs) (O Q:Option (Nat×Nat)):∀ (M:Nat) (n:Int) (h:Heap),f147c155_l1 N M P sep (O,Q,()) n h=listK N P sep (fun h=>f155 N O Q h) M n h
 | 0,n,h=>rfl
 | M+1,n,h=>by
  rw [f147c155_l1_succ]
  unfold f147c155_l1_b
  simp only [listK]
  simp only [f147c155_l1_eq P sep O Q M]
theorem f147c157_l1_eq (P:Option (Nat×Nat)) (sep:Bs) (O Q:Option (Nat×Nat)):∀ (M:Nat) (n:Int) (h:Heap),f147c157_l1 N M P sep (Q,O,()) n h=listK N P sep (fun h=>f157 N Q O h) M n h
 | 0,n,h=>rfl
 | M+1,n,h=>by
  rw [f147c157_l1_succ]
  unfold f147c157_l1_b
  simp only [listK]
  simp only [f147c157_l1_eq P sep O Q M]
theorem f189_ci (hT:Toks T) {h0:Heap} {O Q:Nat} {row:SL→List AV} (f:CF P X h0 O Q 1 1 row) {xs:List D} {i:Nat} (x:CI T P X st h0 O Q 1 row h xs (i,none)) (hl:xs.length≤64):∃ h',f189 N (some (O,0)) (some (Q,0)) h=some ((),h')∧CI T P X st h0 O Q 1 row h' (xs++[(textD T 3 (i,none)).1]) (textD T 3 (i,none)).2:=by
 unfold f189
 obtain ⟨v,o1,w1,y,r1,r2⟩:=x.open f
 obtain ⟨h6,e6,c6,x6⟩:=f94_pc (N:=N) hT y (k:=3) (by decide)
 obtain ⟨H',eK,ci,g1,g2⟩:=x.close f o1 w1 app38 (by decide) (by decide) hl c6 x6 (dt_str h6 _ (textS T 3 (i,none)).1) rfl
 simp only [need_some,Nat.zero_add,r1,r2,bindV_some,cast_slice,cast_ptr]
 rw [e6,bind2_some]
 simp only [needB,r2,g2,g1,r1,sameO_some,cond_true,guardB_true]
 exact ⟨H',eK _,ci⟩
theorem over_list (hT:Toks T) (hN:100≤N) {h0:Heap} {O Q:Nat} {row:SL→List AV} (f:CF P X h0 O Q 1 1 row) (x:CI T P X st h0 O Q 1 row h0 [] σ):∃ h',f147c189 N (some (P,0)) [43] ((some (O,0)),(some (Q,0)),()) h0=some ((),h')∧CI T P X st h0 O Q 1 row h' (listE T (textD T 3) [43] σ).1 (listE T (textD T 3) [43] σ).2:=by
 unfold f147c189
 obtain ⟨o,h',e,y⟩:=list_all (N:=N) hT hN (F:=fun h=>f189 N (some (O,0)) (some (Q,0)) h) (one:=textD T 3) (Inv:=CI T P X st h0 O Q 1 row) (fun h xs σ c=>c.pc) (fun h h' xs σ σ' c d z=>c.step f d z) (fun h xs i c hl=>f189_ci hT f c hl) (sep:=[43]) (by decide) x
 simp only [f147c189_l1_eq]
 rw [e]
 simp only [bind3_some]
 cases eqOut o (.exit 0) <;> exact ⟨h',rfl,y⟩
theorem f156_pc (hT:Toks T) (hN:100≤N) (x:PC T P X h σ st):∃ r h',f156 N (some (P,0)) h=some (r,h')∧PC T P X h' (lifS T σ).2 st∧Chg [P] h h'∧Dt h' (fun C=>h.next≤C) (lifS T σ).1 (lfc r):=by
 unfold f156
 have hP:=x.P_lt
 have oQ:=own_push h [AV.ptr (some (P,0))]
 have cQ:=chg_push h (.row [AV.ptr (some (P,0))] .own)
 have nQ:(h.push (.row [AV.ptr (some (P,0))] .own)).next=h.next+1:=rfl
 dsimp only
 generalize h.push (.row [AV.ptr (some (P,0))] .own)=h1 at *
 have oR:=own_push h1 (lfc lf0)
 have cR:=chg_push h1 (.row (lfc lf0) .own)
 have eR:h1.push (.row [(.str []),(.slice none 0 0 0)] .own)=h1.push (.row (lfc lf0) .own):=rfl
 have nR:(h1.push (.row (lfc lf0) .own)).next=h1.next+1:=rfl
 have x2:=(x.chg cQ).add cR (A:=h1.next) (Nat.le_refl _) (Nat.lt_succ_self _)
 rw [eR]
 generalize h1.push (.row (lfc lf0) .own)=h2 at *
 have oQ2:=oQ.chg cR (by simp)
 have c02:=cQ.trans cR
 have r2:h2.cell (h.next,0)=some (.ptr (some (P,0))):=oQ2.cell 0
 simp only [r2,bindV_some,cast_ptr]
 obtain ⟨h5,e5,c5,x5⟩:=f94_pc (N:=N) hT x2 (k:=3) (by decide)
 rw [e5,bind2_some]
 have oQ5:=oQ2.chg c5 (by simp;omega)
 have oR5:=oR.chg c5 (by simp;omega)
 have hn5:=c5.next
 generalize hnm:(textS T 3 σ).1=nm at *
 have oO0:=own_push h5 (lfc lf0)
 have cO0:=chg_push h5 (.row (lfc lf0) .own)
 have eO:h5.push (.row [(.str []),(.slice none 0 0 0)] .own)=h5.push (.row (lfc lf0) .own):=rfl
 have hstO:(h5.push (.row (lfc lf0) .own)).store (h5.next,0) [(.str nm),(.slice none 0 0 0)]=some ((h5.push (.row (lfc lf0) .own)).put h5.next (.row (lfc (nm,sl0,())) .own)):=oO0.store rfl
 rw [eO,hstO,need_some]
 have oO:=own_put oO0 (lfc (nm,sl0,()))
 have cO:Chg [] h5 ((h5.push (.row (lfc lf0) .own)).put h5.next (.row (lfc (nm,sl0,())) .own)):=cO0.put (.inr (Nat.le_refl _)) _
 have nO:((h5.push (.row (lfc lf0) .own)).put h5.next (.row (lfc (nm,sl0,())) .own)).next=h5.next+1:=rfl
 have x7:=x5.add cO (A:=h5.next) (Nat.le_refl _) (Nat.lt_succ_self _)
 have oQ7:=oQ5.chg cO (by simp)
 have oR7:=oR5.chg cO (by simp)
 generalize (h5.push (.row (lfc lf0) .own)).put h5.next (.row (lfc (nm,sl0,())) .own)=h7 at *
 have c07:Chg [P] h h7:=((c02.mono (by simp)).trans c5).trans (cO.mono (by simp))
 have r7:h7.cell (h.next,0)=some (.ptr (some (P,0))):=oQ7.cell 0
 simp only [r7,bindV_some,cast_ptr]
 obtain ⟨h17,e17,c17,x17⟩:=f93_pc (N:=N) hT x7 (w:=[58]) (by decide)
 rw [e17,bind2_some]
 have oQ17:=oQ7.chg c17 (by simp;omega)
 have oO17:=oO.chg c17 (by simp;omega)
 have oR17:=oR7.chg c17 (by simp;omega)
 have hn17:=c17.next
 have c017:=c07.trans c17
 simp only [lifS,hnm]
 cases hb:(optS T [58] (textS T 3 σ).2).1 with
 | false=>
  simp only [cond_false,Bool.false_eq_true,if_false]
  rw [cells2 oO17]
  have cZ:=oR17.put (lfc (nm,sl0,()))
  exact ⟨(nm,sl0,()),_,fin2 oR17 (nm,sl0,()) (fun x h=>some (x,h)),(x17.chg1 cZ (by simp)).sub (by simp +contextual),c017.step cZ (fun A hA hl=>by rw [List.mem_singleton] at hA;omega),dt_pair (Sl.nil _ _ _)⟩
 | true=>
  simp only [cond_true,if_true]
  have r17:h17.cell (h.next,0)=some (.ptr (some (P,0))):=oQ17.cell 0
  simp only [r17,bindV_some,cast_ptr]
  have f:CF P (h5.next::h1.next::X) h17 h5.next h.next 1 1 (fun v=>lfc (nm,v,())):=⟨by omega,by omega,by simp,fun v=>rfl,fun v v'=>rfl⟩
  obtain ⟨h21,e21,ci⟩:=over_list (N:=N) hT hN f ⟨x17,Chg.refl _ _,oQ17,sl0,oO17,Ow.nil _ _ _ _⟩
  rw [e21,bind2_some]
  obtain ⟨v,oO21,w21⟩:=ci.ex
  have hn21:=ci.chg.next
  have oR21:=oR17.chg ci.chg (by simp;omega)
  rw [cells2 oO21]
  have cZ:=oR21.put (lfc (nm,v,()))
  have c021:Chg [P] h h21:=c017.step ci.chg (fun A hA hl=>by
   simp only [List.mem_cons,List.not_mem_nil,or_false] at hA ⊢;omega)
  refine ⟨(nm,v,()),_,fin2 oR21 (nm,v,()) (fun x h=>some (x,h)),(ci.pc.chg1 cZ (by simp)).sub (by simp +contextual),c021.step cZ (fun A hA hl=>by rw [List.mem_singleton] at hA;omega),dt_pair ?_⟩
  exact (w21.sl.chg cZ (fun C hC=>by simp;omega)).weak (fun C hC _=>by omega)
theorem f155_ci (hT:Toks T) (hN:100≤N) {h0:Heap} {O Q:Nat} {row:SL→List AV} (f:CF P X h0 O Q 2 2 row) {xs:List D} {i:Nat} (x:CI T P X st h0 O Q 2 row h xs (i,none)) (hl:xs.length≤64):∃ h',f155 N (some (O,0)) (some (Q,0)) h=some ((),h')∧CI T P X st h0 O Q 2 row h' (xs++[(lifS T (i,none)).1]) (lifS T (i,none)).2:=by
 unfold f155
 obtain ⟨v,o1,w1,y,r1,r2⟩:=x.open f
 obtain ⟨r,h6,e6,x6,c6,d6⟩:=f156_pc (N:=N) hT hN y
 obtain ⟨H',eK,ci,g1,g2⟩:=x.close f o1 w1 app36 (by decide) (by decide) hl c6 x6 d6 rfl
 simp only [need_some,Nat.zero_add,r1,r2,bindV_some,cast_slice,cast_ptr]
 rw [e6,bind2_some]
 have g2':(h6.push (.row [(.str r.1),(.slice r.2.1.a r.2.1.len r.2.1.cap r.2.1.sz)] .own)).cell (O,2)=some (.slice v.a v.len v.cap v.sz):=g2
 simp only [needB,r2,g2',g1,r1,sameO_some,cond_true,guardB_true]
 exact ⟨H',eK _,ci⟩
theorem lifs_list (hT:Toks T) (hN:100≤N) {h0:Heap} {O Q:Nat} {row:SL→List AV} (f:CF P X h0 O Q 2 2 row) (x:CI T P X st h0 O Q 2 row h0 [] σ):∃ h',f147c155 N (some (P,0)) [44] ((some (O,0)),(some (Q,0)),()) h0=some ((),h')∧CI T P X st h0 O Q 2 row h' (listE T (lifS T) [44] σ).1 (listE T (lifS T) [44] σ).2:=by
 unfold f147c155
 obtain ⟨o,h',e,y⟩:=list_all (N:=N) hT hN (F:=fun h=>f155 N (some (O,0)) (some (Q,0)) h) (one:=lifS T) (Inv:=CI T P X st h0 O Q 2 row) (fun h xs σ c=>c.pc) (fun h h' xs σ σ' c d z=>c.step f d z) (fun h xs i c hl=>f155_ci hT hN f c hl) (sep:=[44]) (by decide) x
 simp only [f147c155_l1_eq]
 rw [e]
 simp only [bind3_some]
 cases eqOut o (.exit 0) <;> exact ⟨h',rfl,y⟩
theorem f157_ci (hT:Toks T) (hN:100≤N) {h0:Heap} {O Q:Nat} {row:SL→List AV} (f:CF P X h0 O Q 6 3 row) {xs:List D} {i:Nat} (x:CI T P X st h0 O Q 6 row h xs (i,none)) (hl:xs.length≤64):∃ h',f157 N (some (Q,0)) (some (O,0)) h=some ((),h')∧CI T P X st h0 O Q 6 row h' (xs++[(paramS T (i,none)).1]) (paramS T (i,none)).2:=by
 unfold f157
 have hO:=f.o;have hQ:=f.q
 obtain ⟨v,o1,w1,y,r1,r2⟩:=x.open f
 simp only [need_some,r2,bindV_some,cast_ptr]
 obtain ⟨h4,e4,c4,x4⟩:=f92_pc (N:=N) hT y (w:=[109,117,116]) (by decide)
 rw [e4,bind2_some]
 have r4:h4.cell (Q,0)=some (.ptr (some (P,0))):=(x.q.chg c4 (by simp;omega)).cell 0
 simp only [r4,bindV_some,cast_ptr]
 obtain ⟨r,h8,e8,x8,c8,d8,nm,t,hr,hf,dt⟩:=f154_pc (N:=N) hT hN x4
 rw [e8,bind2_some]
 have hn0:=x.chg.next
 have hn4:=c4.next
 have hn8:=c8.next
 have hnm:nm=(textS T 1 (optS T [109,117,116] (i,none)).2).1:=by
  simp only [fieldS,fdD,D.t.injEq,List.cons.injEq,D.s.injEq,true_and,and_true] at hf
  exact hf.symm
 have oA0:=own_push h8 (fdc fd0)
 have cA0:=chg_push h8 (.row (fdc fd0) .own)
 have eA:h8.push (.row [(.bool false),(.str []),(.int .i64 0),(.str []),(.slice none 0 0 0),(.slice none 0 0 0)] .own)=h8.push (.row (fdc fd0) .own):=rfl
 rw [eA,store6 oA0 r,need_some]
 have oA1:=own_put oA0 (fdc r)
 have cA1:Chg [] h8 ((h8.push (.row (fdc fd0) .own)).put h8.next (.row (fdc r) .own)):=cA0.put (.inr (Nat.le_refl _)) _
 generalize hm:(optS T [109,117,116] (i,none)).1=m at *
 have hst:((h8.push (.row (fdc fd0) .own)).put h8.next (.row (fdc r) .own)).store (h8.next,0) [.bool m]=some (((h8.push (.row (fdc fd0) .own)).put h8.next (.row (fdc r) .own)).put h8.next (.row (fdc (fdOf m nm t)) .own)):=by
  rw [hr] at oA1 ⊢
  exact oA1.store1 (j:=0) (by show 0<6;omega) _
 simp only [Nat.add_zero]
 rw [hst,need_some]
 have oA2:=own_put oA1 (fdc (fdOf m nm t))
 have cA2:Chg [] h8 (((h8.push (.row (fdc fd0) .own)).put h8.next (.row (fdc r) .own)).put h8.next (.row (fdc (fdOf m nm t)) .own)):=cA1.put (.inr (Nat.le_refl _)) _
 generalize ((h8.push (.row (fdc fd0) .own)).put h8.next (.row (fdc r) .own)).put h8.next (.row (fdc (fdOf m nm t)) .own)=h11 at *
 have x11:=x8.chg cA2
 have c11:Chg [P] h h11:=(c4.trans c8).trans (cA2.mono (by simp))
 have dd:Dt h11 (fun C=>h.next≤C) (fdD m nm (typS T 64 (wantS T [58] (textS T 1 (optS T [109,117,116] (i,none)).2).2)).1) (fdc (fdOf m nm t)):=dt_fd ((dt.chg cA2 (by simp)).weak (fun C hC _=>by omega))
 obtain ⟨H',eK,ci,g1,g2⟩:=x.close f o1 w1 app37 (by decide) (by decide) hl c11 x11 dd rfl
 simp only [Nat.zero_add,g1,bindV_some,cast_slice]
 rw [cells6 oA2]
 have hp:(paramS T (i,none))=(fdD m nm (typS T 64 (wantS T [58] (textS T 1 (optS T [109,117,116] (i,none)).2).2)).1,(fieldS T (optS T [109,117,116] (i,none)).2).2):=by
  simp only [paramS,fieldS,hm,hnm]
 rw [hp]
 exact ⟨H',eK _,ci⟩
theorem params_list (hT:Toks T) (hN:100≤N) {h0:Heap} {O Q:Nat} {row:SL→List AV} (f:CF P X h0 O Q 6 3 row) (x:CI T P X st h0 O Q 6 row h0 [] σ):∃ h',f147c157 N (some (P,0)) [44] ((some (Q,0)),(some (O,0)),()) h0=some ((),h')∧CI T P X st h0 O Q 6 row h' (listE T (paramS T) [44] σ).1 (listE T (paramS T) [44] σ).2:=by
 unfold f147c157
 obtain ⟨o,h',e,y⟩:=list_all (N:=N) hT hN (F:=fun h=>f157 N (some (Q,0)) (some (O,0)) h) (one:=paramS T) (Inv:=CI T P X st h0 O Q 6 row) (fun h xs σ c=>c.pc) (fun h h' xs σ σ' c d z=>c.step f d z) (fun h xs i c hl=>f157_ci hT hN f c hl) (sep:=[44]) (by decide) x
 simp only [f147c157_l1_eq]
 rw [e]
 simp only [bind3_some]
 cases eqOut o (.exit 0) <;> exact ⟨h',rfl,y⟩
end
end Go.Proofs.YtkcjphhjmlienaaGreatDoor.Qp

set_option linter.unusedVariables false
set_option linter.unusedSimpArgs false
open Go Go.Proofs.YtkcjphhjmlienaaGreatDoor.Ai Go.Proofs
namespace Go.Proofs.YtkcjphhjmlienaaGreatDoor.Qp
def pathS (T:List Tok):Nat→St→List Bs×St
 | 0,σ=>let b:=optS T [46] σ;if b.1=true then ([],failS T 5 b.2) else ([],b.2)
 | g+1,σ=>
  let b:=optS T [46] σ
  if b.1=true then
   let c:=optS T [42] b.2
   if c.1=true then ([42]::(pathS T g c.2).1,(pathS T g c.2).2)
   else let x:=textS T 1 c.2;(x.1::(pathS T g x.2).1,(pathS T g x.2).2)
  else ([],b.2)
def placeS (T:List Tok) (σ:St):D×St:=
 let a:=textS T 1 σ
 let p:=pathS T 64 a.2
 (pairD a.1 (p.1.map D.s),p.2)
def pl0:D:=pairD [] []
def opD (k n:Int) (pl:D):D:=.t [.i k,.i n,pl]
def op0:D:=opD 0 0 pl0
def operS (T:List Tok) (σ:St):D×St:=
 let a:=optS T [116,114,117,101] σ
 if a.1=true then (opD 2 1 pl0,a.2) else
 let b:=optS T [102,97,108,115,101] a.2
 if b.1=true then (opD 2 0 pl0,b.2) else
 if (tk T b.2.1).1=4 then (opD 1 ((valN (textS T 4 b.2).1 0:Nat):Int) pl0,(textS T 4 b.2).2)
 else (opD 3 0 (placeS T b.2).1,(placeS T b.2).2)
def behindS (T:List Tok) (w:Bs) (σ:St):Bool:=σ.2.isNone&&(decide ((tk T σ.1).1=1)&&(decide ((tk T (σ.1+1)).1=5)&&eqBytes (tk T (σ.1+1)).2.1 w))
section
variable {N:Nat} {T:List Tok} {P:Nat} {X:List Nat} {st:Int} {h:Heap} {σ:St}
theorem path_loop (hT:Toks T) {h0:Heap} {O:Nat} {R:Option (Nat×Nat)} {nm:Bs} (hO:P<O∧O<h0.next) (hX:O∈X):∀ (g M:Nat) (h:Heap) (σ:St) (v:SL) (xs:List Bs),g<M→g≤64→xs.length=64-g→PC T P X h σ st→Chg [P,O] h0 h→h.own O (lfc (nm,v,()))→Ow h0.next h v 1 (xs.map D.s)→
  ∃ v' h',f221_l1 N M (some (P,0)) R (some (O,0)) h=some (.exit 0,(R,some (O,0),()),h')∧PC T P X h' (pathS T g σ).2 st∧Chg [P,O] h0 h'∧h'.own O (lfc (nm,v',()))∧Ow h0.next h' v' 1 ((xs++(pathS T g σ).1).map D.s):=by
 intro g
 induction g with
 | zero=>
  intro M h σ v xs hM hg hx x c oO w
  obtain ⟨M,rfl⟩:∃ m,M=m+1:=⟨M-1,by omega⟩
  rw [f221_l1_succ]
  unfold f221_l1_b
  obtain ⟨h7,e7,c7,x7⟩:=f93_pc (N:=N) hT x (w:=[46]) (by decide)
  rw [e7,bind2_some]
  have o7:=oO.chg c7 (by simp;omega)
  have w7:=w.chg c7 (by intro A hA;rw [List.mem_singleton] at hA;omega)
  have c07:=c.trans (c7.mono (N:=[P,O]) (by simp))
  simp only [pathS]
  cases hb:(optS T [46] σ).1 with
  | false=>
   simp only [cond_false,Bool.false_eq_true,if_false]
   exact ⟨v,h7,rfl,x7,c07,o7,by rw [List.append_nil];exact w7⟩
  | true=>
   simp only [cond_true,if_true]
   have r7:h7.cell (O,1)=some (.slice v.a v.len v.cap v.sz):=o7.cell 1
   have hv:v.len=64:=by rw [w7.len,List.length_map,hx]
   simp only [need_some,Nat.zero_add,r7,bindV_some,cast_slice]
   have hs:=(optS_none hb).1
   rw [hs] at x7 ⊢
   obtain ⟨h11,e11,c11,x11⟩:=f188_pc (N:=N) x7 v.len
   rw [show Int.ofNat v.len=(v.len:Int) from rfl,e11,bind2_some]
   rw [hv] at x11 ⊢
   simp only [Nat.le_refl,if_true,failS,Option.isNone_some,cond_false] at x11 ⊢
   exact ⟨v,h11,rfl,x11,c07.trans (c11.mono (by simp)),o7.chg c11 (by simp;omega),by rw [List.append_nil];exact w7.chg c11 (by intro A hA;rw [List.mem_singleton] at hA;omega)⟩
 | succ g ih=>
  intro M h σ v xs hM hg hx x c oO w
  obtain ⟨M,rfl⟩:∃ m,M=m+1:=⟨M-1,by omega⟩
  rw [f221_l1_succ]
  unfold f221_l1_b
  obtain ⟨h7,e7,c7,x7⟩:=f93_pc (N:=N) hT x (w:=[46]) (by decide)
  rw [e7,bind2_some]
  have o7:=oO.chg c7 (by simp;omega)
  have w7:=w.chg c7 (by intro A hA;rw [List.mem_singleton] at hA;omega)
  have c07:=c.trans (c7.mono (N:=[P,O]) (by simp))
  simp only [pathS]
  cases hb:(optS T [46] σ).1 with
  | false=>
   simp only [cond_false,Bool.false_eq_true,if_false]
   exact ⟨v,h7,rfl,x7,c07,o7,by rw [List.append_nil];exact w7⟩
  | true=>
   simp only [cond_true,if_true]
   have r7:h7.cell (O,1)=some (.slice v.a v.len v.cap v.sz):=o7.cell 1
   have hv:v.len=64-(g+1):=by rw [w7.len,List.length_map,hx]
   simp only [need_some,Nat.zero_add,r7,bindV_some,cast_slice]
   have hs:=(optS_none hb).1
   rw [hs] at x7 ⊢
   obtain ⟨h11,e11,c11,x11⟩:=f188_pc (N:=N) x7 v.len
   rw [show Int.ofNat v.len=(v.len:Int) from rfl,e11,bind2_some]
   have z:¬ 64≤v.len:=by omega
   simp only [z,if_false,Option.isNone_none,cond_true] at x11 ⊢
   obtain ⟨h13,e13,c13,x13⟩:=f93_pc (N:=N) hT x11 (w:=[42]) (by decide)
   rw [e13,bind2_some]
   have c713:=c11.trans c13
   have o13:=o7.chg c713 (by simp;omega)
   have w13:=w7.chg c713 (by intro A hA;rw [List.mem_singleton] at hA;omega)
   have c013:=c07.trans (c713.mono (N:=[P,O]) (by simp))
   have hlt:∀ A,v.blk=some A→h0.next≤A∧A<h13.next:=w13.ge
   have r13:h13.cell (O,1)=some (.slice v.a v.len v.cap v.sz):=o13.cell 1
   have hll:(xs.length+1) * 100≤1073741824:=by omega
   cases hb2:(optS T [42] (σ.1+1,none)).1 with
   | true=>
    simp only [cond_true,if_true,r13,bindV_some,cast_slice]
    have hs2:=(optS_none hb2).1
    rw [hs2] at x13 ⊢
    have xf:=x13.free (X':=v.blk.toList++X) fun A hA=>by
     rcases List.mem_append.1 hA with hA | hA
     ·have:=hlt A (by simpa using hA);omega
     ·exact x13.pa.xl A hA
    obtain ⟨v',H',eK,o',w',c'⟩:=app_at app38 (by decide) c013 o13 (j:=1) rfl w13 hO.2 (dt_str h13 _ ([42]:Bs)) rfl (by rw [List.length_map];exact hll)
    have hM':∀ A∈O::v.blk.toList,A∈v.blk.toList++X:=fun A hA=>by
     rcases List.mem_cons.1 hA with rfl | hA
     ·exact List.mem_append_right _ hX
     ·exact List.mem_append_left _ hA
    have xH:=(xf.chgM c' hM').sub (X':=X) fun A hA=>List.mem_append_right _ hA
    have cH:Chg [P,O] h0 H':=c013.step c' fun A hA hl=>by
     rcases List.mem_cons.1 hA with rfl | hA
     ·simp
     ·have:=hlt A (by simpa using hA);omega
    rw [eK]
    have w'':Ow h0.next H' v' 1 ((xs++[[42]]).map D.s):=by rw [List.map_append];exact w'
    have:=ih M H' _ v' (xs++[[42]]) (by omega) (by omega) (by simp;omega) xH cH o' w''
    simpa only [List.append_assoc,List.singleton_append] using this
   | false=>
    simp only [cond_false,Bool.false_eq_true,if_false,r13,bindV_some,cast_slice]
    rw [optS_false hb2] at x13 ⊢
    have xf:=x13.free (X':=v.blk.toList++X) fun A hA=>by
     rcases List.mem_append.1 hA with hA | hA
     ·have:=hlt A (by simpa using hA);omega
     ·exact x13.pa.xl A hA
    obtain ⟨h24,e24,c24,x24⟩:=f94_pc (N:=N) hT xf (k:=1) (by decide)
    rw [e24,bind2_some]
    have o24:=o13.chg c24 (by simp;omega)
    have w24:=w13.chg c24 (by intro A hA;rw [List.mem_singleton] at hA;omega)
    have c024:=c013.trans (c24.mono (N:=[P,O]) (by simp))
    generalize hxx:(textS T 1 (σ.1+1,none)).1=xx at *
    obtain ⟨v',H',eK,o',w',c'⟩:=app_at app38 (by decide) c024 o24 (j:=1) rfl w24 hO.2 (dt_str h24 _ xx) rfl (by rw [List.length_map];exact hll)
    have hM':∀ A∈O::v.blk.toList,A∈v.blk.toList++X:=fun A hA=>by
     rcases List.mem_cons.1 hA with rfl | hA
     ·exact List.mem_append_right _ hX
     ·exact List.mem_append_left _ hA
    have xH:=(x24.chgM c' hM').sub (X':=X) fun A hA=>List.mem_append_right _ hA
    have cH:Chg [P,O] h0 H':=c024.step c' fun A hA hl=>by
     rcases List.mem_cons.1 hA with rfl | hA
     ·simp
     ·have:=hlt A (by simpa using hA);omega
    have r24:h24.cell (O,1)=some (.slice v.a v.len v.cap v.sz):=o24.cell 1
    have r25:(h24.push (.row [(.str xx)] .own)).cell (O,1)=some (.slice v.a v.len v.cap v.sz):=(o24.chg (chg_push h24 _) (by simp)).cell 1
    simp only [r25,r24,sameO_some,cond_true,guardB_true]
    rw [eK]
    have w'':Ow h0.next H' v' 1 ((xs++[xx]).map D.s):=by rw [List.map_append];exact w'
    have:=ih M H' _ v' (xs++[xx]) (by omega) (by omega) (by simp;omega) xH cH o' w''
    simpa only [List.append_assoc,List.singleton_append] using this
theorem f221_pc (hT:Toks T) (hN:100≤N) (x:PC T P X h σ st):∃ r h',f221 N (some (P,0)) h=some (r,h')∧PC T P X h' (placeS T σ).2 st∧Chg [P] h h'∧Dt h' (fun C=>h.next≤C) (placeS T σ).1 (lfc r):=by
 unfold f221
 have hP:=x.P_lt
 have oR:=own_push h (lfc lf0)
 have cR:=chg_push h (.row (lfc lf0) .own)
 have eR:h.push (.row [(.str []),(.slice none 0 0 0)] .own)=h.push (.row (lfc lf0) .own):=rfl
 have nR:(h.push (.row (lfc lf0) .own)).next=h.next+1:=rfl
 have x1:=x.add cR (A:=h.next) (Nat.le_refl _) (Nat.lt_succ_self _)
 rw [eR]
 generalize h.push (.row (lfc lf0) .own)=h1 at *
 dsimp only
 obtain ⟨h3,e3,c3,x3⟩:=f94_pc (N:=N) hT x1 (k:=1) (by decide)
 rw [e3,bind2_some]
 have oR3:=oR.chg c3 (by simp;omega)
 have hn3:=c3.next
 generalize hnm:(textS T 1 σ).1=nm at *
 have oO0:=own_push h3 (lfc lf0)
 have cO0:=chg_push h3 (.row (lfc lf0) .own)
 have eO:h3.push (.row [(.str []),(.slice none 0 0 0)] .own)=h3.push (.row (lfc lf0) .own):=rfl
 have hstO:(h3.push (.row (lfc lf0) .own)).store (h3.next,0) [(.str nm),(.slice none 0 0 0)]=some ((h3.push (.row (lfc lf0) .own)).put h3.next (.row (lfc (nm,sl0,())) .own)):=oO0.store rfl
 rw [eO,hstO,need_some]
 have oO:=own_put oO0 (lfc (nm,sl0,()))
 have cO:Chg [] h3 ((h3.push (.row (lfc lf0) .own)).put h3.next (.row (lfc (nm,sl0,())) .own)):=cO0.put (.inr (Nat.le_refl _)) _
 have nO:((h3.push (.row (lfc lf0) .own)).put h3.next (.row (lfc (nm,sl0,())) .own)).next=h3.next+1:=rfl
 have x5:=x3.add cO (A:=h3.next) (Nat.le_refl _) (Nat.lt_succ_self _)
 have oR5:=oR3.chg cO (by simp)
 generalize (h3.push (.row (lfc lf0) .own)).put h3.next (.row (lfc (nm,sl0,())) .own)=h5 at *
 obtain ⟨v,h32,e32,x32,c32,oO32,w32⟩:=path_loop (N:=N) hT (h0:=h5) (O:=h3.next) (R:=some (h.next,0)) (by omega) (by simp) 64 N h5 _ sl0 [] (by omega) (Nat.le_refl _) rfl x5 (Chg.refl _ _) oO (Ow.nil _ _ _ _)
 rw [e32]
 simp only [bind3_some,need_some]
 have hn32:=c32.next
 rw [cells2 oO32]
 have oR32:=oR5.chg c32 (by simp;omega)
 have cZ:=oR32.put (lfc (nm,v,()))
 have c032:Chg [P] h h32:=(((cR.mono (by simp)).trans c3).trans (cO.mono (by simp))).step c32 (fun A hA hl=>by
  simp only [List.mem_cons,List.not_mem_nil,or_false] at hA ⊢;omega)
 simp only [placeS,hnm]
 rw [List.nil_append] at w32
 refine ⟨(nm,v,()),_,fin2 oR32 (nm,v,()) (fun x h=>some (x,h)),(x32.chg1 cZ (by simp)).sub (by simp +contextual),c032.step cZ (fun A hA hl=>by rw [List.mem_singleton] at hA;omega),dt_pair ?_⟩
 exact (w32.sl.chg cZ (fun C hC=>by simp;omega)).weak (fun C hC _=>by omega)
abbrev OpV:=Int×Int×List UInt8×SL×Unit
def opc (x:OpV):List AV:=[.int .i64 x.1,.int .i64 x.2.1,.str x.2.2.1,SL.av x.2.2.2.1]
theorem aggO {β:Type} (r:OpV) (K:OpV→Option β):bindV (.val (.agg [(.int .i64),(.int .i64),.str,.slice])) (some (.agg (opc r))) K=K r:=by
 obtain ⟨k,n,x,s,_⟩:=r
 simp [opc,SL.av]
theorem cellsO {H:Heap} {A:Nat} {r:OpV} (o:H.own A (opc r)) {β:Type} (K:OpV→Option β):bindV (.val (.agg [(.int .i64),(.int .i64),.str,.slice])) (H.cells (A,0) 4) K=K r:=by
 have:H.cells (A,0) 4=some (.agg (opc r)):=o.cells (j:=0) (m:=4) (Nat.le_refl _)
 rw [this,aggO]
theorem finO {H:Heap} {A:Nat} {r0:OpV} (o:H.own A (opc r0)) (r:OpV) {β:Type} (K:OpV→Heap→Option β) :
  (need (H.store (A,0) [.int .i64 r.1,.int .i64 r.2.1,.str r.2.2.1,.slice r.2.2.2.1.a r.2.2.2.1.len r.2.2.2.1.cap r.2.2.2.1.sz]) fun h7=>bindV (.val (.agg [(.int .i64),(.int .i64),.str,.slice])) (h7.cells (A,0) 4) fun x8=>K x8 h7)=K r (H.put A (.row (opc r) .own)):=by
 have:H.store (A,0) [.int .i64 r.1,.int .i64 r.2.1,.str r.2.2.1,.slice r.2.2.2.1.a r.2.2.2.1.len r.2.2.2.1.cap r.2.2.2.1.sz]=some (H.put A (.row (opc r) .own)):=o.store rfl
 rw [this,need_some,cellsO (own_put o _)]
theorem dt_op {h:Heap} {V:Nat→Prop} {k n:Int} {pl:D} {p:LfV} (x:Dt h V pl (lfc p)):Dt h V (opD k n pl) (opc (k,n,p.1,p.2.1,())):=
 dt_t (dp_cons (a:=[_]) (dt_i h V k) (dp_cons (a:=[_]) (dt_i h V n) (dp_cons (a:=lfc p) (b:=[]) x (dp_nil h V))))
theorem dt_pl0 (h:Heap) (V:Nat→Prop):Dt h V pl0 (lfc lf0):=dt_pair (Sl.nil _ _ _)
theorem f208_pc (hT:Toks T) (hN:100≤N) (x:PC T P X h σ st):∃ r h',f208 N (some (P,0)) h=some (r,h')∧PC T P X h' (operS T σ).2 st∧Chg [P] h h'∧Dt h' (fun C=>h.next≤C) (operS T σ).1 (opc r):=by
 unfold f208
 have hP:=x.P_lt
 have oR:=own_push h (opc (0,0,[],sl0,()))
 have cR:=chg_push h (.row (opc (0,0,[],sl0,())) .own)
 have eR:h.push (.row [(.int .i64 0),(.int .i64 0),(.str []),(.slice none 0 0 0)] .own)=h.push (.row (opc (0,0,[],sl0,())) .own):=rfl
 have nR:(h.push (.row (opc (0,0,[],sl0,())) .own)).next=h.next+1:=rfl
 have x1:=x.add cR (A:=h.next) (Nat.le_refl _) (Nat.lt_succ_self _)
 rw [eR]
 generalize h.push (.row (opc (0,0,[],sl0,())) .own)=h1 at *
 dsimp only
 have fin:∀ {h':Heap} {σ':St} (c:Chg [P] h1 h') (y:PC T P (h.next::X) h' σ' st) (o:h'.own h.next (opc (0,0,[],sl0,()))) (r:OpV) {d:D} (_:Dt h' (fun C=>h.next+1≤C) d (opc r)),PC T P X (h'.put h.next (.row (opc r) .own)) σ' st∧Chg [P] h (h'.put h.next (.row (opc r) .own))∧Dt (h'.put h.next (.row (opc r) .own)) (fun C=>h.next≤C) d (opc r):=fun c y o r d hd=>
  ⟨(y.chg1 (o.put (opc r)) (by simp)).sub (by simp +contextual),((cR.mono (by simp)).trans c).put (.inr (Nat.le_refl _)) _,(hd.chg (o.put (opc r)) (fun C hC=>by simp;omega)).weak (fun C hC _=>by omega)⟩
 obtain ⟨h3,e3,c3,x3⟩:=f92_pc (N:=N) hT x1 (w:=[116,114,117,101]) (by decide)
 rw [e3,bind2_some]
 have o3:=oR.chg c3 (by simp;omega)
 simp only [operS]
 cases hb:(optS T [116,114,117,101] σ).1 with
 | true=>
  simp only [cond_true,if_true]
  obtain ⟨f1,f2,f3⟩:=fin c3 x3 o3 (2,1,[],sl0,()) (dt_op (dt_pl0 h3 _))
  exact ⟨(2,1,[],sl0,()),_,finO o3 (2,1,[],sl0,()) (fun x h=>some (x,h)),f1,f2,f3⟩
 | false=>
  simp only [cond_false,Bool.false_eq_true,if_false]
  obtain ⟨h7,e7,c7,x7⟩:=f92_pc (N:=N) hT x3 (w:=[102,97,108,115,101]) (by decide)
  rw [e7,bind2_some]
  have c17:=c3.trans c7
  have o7:=o3.chg c7 (by simp;omega)
  cases hb2:(optS T [102,97,108,115,101] (optS T [116,114,117,101] σ).2).1 with
  | true=>
   simp only [cond_true,if_true]
   obtain ⟨f1,f2,f3⟩:=fin c17 x7 o7 (2,0,[],sl0,()) (dt_op (dt_pl0 h7 _))
   exact ⟨(2,0,[],sl0,()),_,finO o7 (2,0,[],sl0,()) (fun x h=>some (x,h)),f1,f2,f3⟩
  | false=>
   simp only [cond_false,Bool.false_eq_true,if_false]
   generalize (optS T [102,97,108,115,101] (optS T [116,114,117,101] σ).2).2=τ at *
   obtain ⟨h11,e11,c11⟩:=f56_eq (N:=N) x7.pa
   rw [e11,bind2_some]
   have x11:=x7.chg c11
   have o11:=o7.chg c11 (by simp)
   have c111:=c17.trans (c11.mono (N:=[P]) (by simp))
   simp only [ttOf,eqI]
   by_cases q:(tk T τ.1).1=4
   ·simp only [q,decide_true,cond_true,if_true]
    obtain ⟨h14,e14,c14,x14⟩:=f94_pc (N:=N) hT x11 (k:=4) (by decide)
    rw [e14,bind2_some]
    have o14:=o11.chg c14 (by simp;omega)
    have at16:∃ u h16,f220 N (textS T 4 τ).1 h14=some ((((valN (textS T 4 τ).1 0:Nat):Int),u,()),h16)∧Chg [] h14 h16:=by
     obtain ⟨i,e⟩:=τ
     cases e with
     | none=>
      have ok:=tkOK hT x7.lt
      have hk:=ok.num q
      have et:(textS T 4 (i,none)).1=(tk T i).2.1:=by simp only [textS];rw [if_pos q]
      rw [et]
      obtain ⟨h',e',c'⟩:=f220_num (N:=N) (h:=h14) (by omega) hk.1 hk.2
      exact ⟨_,h',e',c'⟩
     | some p=>
      have et:(textS T 4 (i,some p)).1=[]:=rfl
      rw [et]
      obtain ⟨u,h',e',c'⟩:=f220_empty (N:=N) x14.pin
      exact ⟨u,h',e',c'⟩
    obtain ⟨u,h16,e16,c16⟩:=at16
    rw [e16,bind2_some]
    have x16:=x14.chg c16
    have o16:=o14.chg c16 (by simp)
    obtain ⟨f1,f2,f3⟩:=fin ((c111.trans c14).trans (c16.mono (by simp))) x16 o16 (1,((valN (textS T 4 τ).1 0:Nat):Int),[],sl0,()) (dt_op (dt_pl0 h16 _))
    exact ⟨(1,((valN (textS T 4 τ).1 0:Nat):Int),[],sl0,()),_,finO o16 (1,((valN (textS T 4 τ).1 0:Nat):Int),[],sl0,()) (fun x h=>some (x,h)),f1,f2,f3⟩
   ·simp only [q,decide_false,cond_false,if_false]
    obtain ⟨r,h20,e20,x20,c20,d20⟩:=f221_pc (N:=N) hT hN x11
    rw [e20,bind2_some]
    have o20:=o11.chg c20 (by simp;omega)
    have hn11:=c111.next
    obtain ⟨f1,f2,f3⟩:=fin (c111.trans c20) x20 o20 (3,0,r.1,r.2.1,()) (dt_op (d20.weak fun C hC _=>by omega))
    exact ⟨(3,0,r.1,r.2.1,()),_,finO o20 (3,0,r.1,r.2.1,()) (fun x h=>some (x,h)),f1,f2,f3⟩
theorem f231_pc (hT:Toks T) (x:PC T P X h σ st) (w:Bs):∃ h',f231 N (some (P,0)) w h=some (behindS T w σ,h')∧Chg [] h h':=by
 unfold f231
 obtain ⟨v,k3,hv⟩:=x.pa.readE
 simp only [need_some,Nat.zero_add,k3,bindV_some,cast_any,hv.ne 9,cast_bool,behindS]
 cases hn:σ.2 with
 | some q=>simp only [Option.isSome_some,cond_true,Option.isNone_some,Bool.false_and];exact ⟨_,rfl,Chg.refl _ _⟩
 | none=>
  simp only [Option.isSome_none,cond_false,Option.isNone_none,Bool.true_and]
  obtain ⟨h5,e5,c5⟩:=f56_eq (N:=N) x.pa
  rw [e5,bind2_some]
  simp only [ttOf,eqI]
  by_cases q:(tk T σ.1).1=1
  ·simp only [q,decide_true,Bool.not_true,cond_false,Bool.true_and]
   have hnx:=tkNext hT x.lt (by rw [q];decide)
   have x5:=x.pa.chg c5
   obtain ⟨⟨s,v',g1,g2,g3,g4⟩,g5,g6⟩:=x5
   have k0:h5.cell (P,0)=some (.slice s.a s.len s.cap s.sz):=g1.cell 0
   have k1:h5.cell (P,1)=some (.int .i64 (σ.1:Int)):=g1.cell 1
   obtain ⟨d1,d2,d3⟩:=dt_tokAt g2 g3 hnx
   simp only [Nat.add_zero,k0,k1,bindV_some,cast_slice,cast_int]
   rw [wrapI hT x.lt,ixK_at d2 d3,d1,agg3]
   obtain ⟨h8,e8,c8,o8⟩:=tokRow h5 (tk T (σ.1+1))
   have c7:=chg_push h5 (.row [(.int .i64 0),(.str []),(.int .i64 0)] .own)
   have g1':=g1.chg c7 (by simp)
   have t0:(h5.push (.row [(.int .i64 0),(.str []),(.int .i64 0)] .own)).cell (P,0)=some (.slice s.a s.len s.cap s.sz):=g1'.cell 0
   have t1:(h5.push (.row [(.int .i64 0),(.str []),(.int .i64 0)] .own)).cell (P,1)=some (.int .i64 (σ.1:Int)):=g1'.cell 1
   have t2:=(dt_tokAt (g2.chg c7 (by simp)) g3 hnx).1
   simp only [ttOf] at e8
   rw [e8]
   simp only [need_some,tkc] at t2 d1 ⊢
   simp only [t0,t1,t2,k0,k1,d1,sameO_some,cond_true,guardB_true]
   have q0:h8.cell (h5.next,0)=some (.int .i64 (tk T (σ.1+1)).1):=o8.cell 0
   have q1:h8.cell (h5.next,1)=some (.str (tk T (σ.1+1)).2.1):=o8.cell 1
   simp only [q0,q1,bindV_some,cast_int,cast_str]
   by_cases z5:(tk T (σ.1+1)).1=5
   ·simp only [z5,decide_true,cond_true,Bool.true_and];exact ⟨_,rfl,c5.trans c8⟩
   ·simp only [z5,decide_false,cond_false,Bool.false_and];exact ⟨_,rfl,c5.trans c8⟩
  ·simp only [q,decide_false,Bool.not_false,cond_true,Bool.false_and]
   exact ⟨_,rfl,c5⟩
def callsS (T:List Tok) (σ:St):Bool:=behindS T [58,58] σ||behindS T [40] σ
theorem f222_pc (hT:Toks T) (x:PC T P X h σ st):∃ h',f222 N (some (P,0)) h=some (callsS T σ,h')∧Chg [] h h':=by
 unfold f222 callsS
 obtain ⟨h2,e2,c2⟩:=f231_pc (N:=N) hT x [58,58]
 rw [e2,bind2_some]
 cases hb:behindS T [58,58] σ with
 | true=>simp only [cond_true,Bool.true_or];exact ⟨_,rfl,c2⟩
 | false=>
  simp only [cond_false,Bool.false_or]
  obtain ⟨h4,e4,c4⟩:=f231_pc (N:=N) hT (x.chg c2) [40]
  rw [e4,bind2_some]
  exact ⟨_,rfl,c2.trans c4⟩
end
end Go.Proofs.YtkcjphhjmlienaaGreatDoor.Qp

namespace Go.Proofs.YtkcjphhjmlienaaGreatDoor.Ai
def OwV (V:Nat→Prop) (h:Heap) (s:SL) (n:Nat) (xs:List D):Prop:=
 (s.a=none∧s.len=0∧s.cap=0∧xs=[])∨
 ∃ A cs st vs,s.a=some (A,0)∧s.sz=n∧V A∧A<h.next∧h.g A=some (.row cs st)∧s.len=xs.length∧cs.take vs.length=vs∧De h (fun C=>V C∧C≠A) n xs vs∧s.len≤s.cap∧(st=.grown∨(st=.own∧s.cap * n=cs.length))
section
variable {E:Env} {V:Nat→Prop} {h h':Heap} {s:SL} {n:Nat} {xs:List D} {M:List Nat}
theorem OwV.weak {W:Nat→Prop} (x:OwV V h s n xs) (hW:∀ C,V C→C<h.next→W C):OwV W h s n xs:=by
 rcases x with h1 | ⟨A,cs,st,vs,h1,h2,h3,h4,h5,h6,h7,h8,h9⟩
 ·exact .inl h1
 ·exact .inr ⟨A,cs,st,vs,h1,h2,hW A h3 h4,h4,h5,h6,h7,De.weak (fun C hC hl=>⟨hW C hC.1 hl,hC.2⟩) h8,h9⟩
theorem OwV.nil (V:Nat→Prop) (h:Heap) (z n:Nat):OwV V h ⟨none,0,0,z⟩ n []:=.inl ⟨rfl,rfl,rfl,rfl⟩
theorem OwV.len (x:OwV V h s n xs):s.len=xs.length:=by
 rcases x with ⟨_,h1,_,rfl⟩ | ⟨A,cs,st,vs,_,_,_,_,_,h1,_⟩
 ·exact h1
 ·exact h1
theorem OwV.ge (x:OwV V h s n xs):∀ A,s.blk=some A→V A∧A<h.next:=by
 intro A hA
 rcases x with ⟨h1,_⟩ | ⟨A',cs,st,vs,h1,_,h3,h4,_⟩
 ·simp [SL.blk,h1] at hA
 ·simp [SL.blk,h1] at hA;subst hA;exact ⟨h3,h4⟩
theorem OwV.sl (x:OwV V h s n xs):Sl h V s xs:=by
 rcases x with ⟨h1,h2,h3,rfl⟩ | ⟨A,cs,st,vs,h1,h2,h3,h4,h5,h6,h7,h8,h9,h10⟩
 ·exact ⟨h2,by omega,fun A hA=>by simp [SL.blk,h1] at hA,[],⟨by simp [h2],fun _=>h2,fun A off ha=>by rw [h1] at ha;cases ha⟩,by simp [De]⟩
 ·refine ⟨h6,h9,fun C hC=>?_,vs,⟨?_,fun ha=>(by rw [h1] at ha;cases ha),fun A' off ha=>?_⟩,?_⟩
  ·simp [SL.blk,h1] at hC;subst hC;exact h3
  ·rw [h8.length,h6,h2]
  ·rw [h1] at ha
   simp only [Option.some.injEq,Prod.mk.injEq] at ha
   obtain ⟨rfl,rfl⟩:=ha
   refine ⟨h4,cs,?_,by rw [List.drop_zero];exact h7⟩
   rw [h5]
   rcases h10 with rfl | ⟨rfl,_⟩ <;> rfl
  ·rw [h2];exact De.weak (fun C hC _=>hC.1) h8
theorem OwV.chg (x:OwV V h s n xs) (c:Chg M h h') (hM:∀ A,V A→A<h.next→A ∉ M):OwV V h' s n xs:=by
 rcases x with h1 | ⟨A,cs,st,vs,h1,h2,h3,h4,h5,h6,h7,h8,h9⟩
 ·exact .inl h1
 ·refine .inr ⟨A,cs,st,vs,h1,h2,h3,Nat.lt_of_lt_of_le h4 c.next,by rw [c.g A h4 (hM A h3 h4)];exact h5,h6,h7,?_,h9⟩
  have h8':De h (fun C=>(V C∧C≠A)∧C<h.next) n xs vs:=De.weak (fun C hC hl=>⟨hC,hl⟩) h8
  exact De.weak (fun C hC _=>hC.1) (De.chg c (fun C hC=>hM C hC.1.1 hC.2) h8')
theorem append_owV {st e:TypeId} {W:Nat} (ha:AppN E st e n W) (hn:0<n) (x:OwV V h s n xs) {d:D} {cs:List AV} (hd:Dt h (fun C=>V C∧s.blk≠some C) d cs) (hcs:cs.length=n) (hB:∀ A,h.next≤A→V A) (hl:(xs.length+1) * W≤1073741824) :
  ∃ s' h',appendA E st st (.slice s.a s.len s.cap s.sz) (.slice (some (h.next,0)) 1 1 n) (h.push (.row cs .own))=some (.slice s'.a s'.len s'.cap s'.sz,h')∧OwV V h' s' n (xs++[d])∧Chg (s.blk.toList) h h'∧(∀ A,s'.blk=some A→s.blk=some A∨h.next≤A):=by
 obtain ⟨hu,⟨i,hi,hi1,hi2⟩,⟨z,hz,hz1⟩⟩:=ha
 have hr:(h.push (.row cs .own)).read h.next 0 (1 * n)=some cs:=by
  have:(h.push (.row cs .own)).row h.next=some cs:=(Heap.is_push h cs).row
  simp only [Heap.read,this,List.drop_zero,Nat.one_mul]
  rw [takeN_of _ _ (by omega),List.take_of_length_le (by omega)]
 have hlen:=x.len
 have hroom:Nat.ble ((s.len+1) * (i.bytes+i.size+1)) roomA=true:=by
  have h1:(s.len+1) * (i.bytes+i.size+1)≤(xs.length+1) * W:=Nat.mul_le_mul (by omega) (by omega)
  simp only [roomA,Nat.ble_eq];omega
 have hsz:(Nat.beq s.sz i.size||s.a.isNone)=true:=by
  rcases x with ⟨h1,_⟩ | ⟨A,cs,st',vs,h1,h2,_⟩
  ·simp [h1]
  ·simp [hi1,h2]
 have hall:cs.all AV.single=true:=by rw [List.all_eq_true];exact hd.single
 have key:∀ K,growA (h.push (.row cs .own)) s.a s.len s.cap n 1 cs=K→appendA E st st (.slice s.a s.len s.cap s.sz) (.slice (some (h.next,0)) 1 1 n) (h.push (.row cs .own))=K:=by
  intro K hK
  have hz2:Nat.beq z.cells.length i.size=true:=by rw [hz1,hi1];exact Nat.beq_refl _
  have hnl:Nat.beq cs.length (1 * i.size)=true:=by rw [hi1,hcs,Nat.one_mul];exact Nat.beq_refl _
  simp only [appendA,hu,isIntD,isStrD,cond_false,hi,hz,lenOfA,firstCellsA]
  rw [hi1] at hroom hsz hz2 hnl ⊢
  simp only [hr,show Nat.beq 1 0=false from rfl,cond_false,hroom,hsz,hz2,hnl,hall,Bool.and_self,cond_true]
  exact hK
 have hd0:Dt h (fun C=>(V C∧s.blk≠some C)∧C<h.next) d cs:=hd.weak fun C hC hl=>⟨hC,hl⟩
 rcases x with ⟨h1,h2,h3,rfl⟩ | ⟨A,bs,st',vs,h1,h2,h3,h4,h5,h6,h7,h8,h9,h10⟩
 ·have c0:Chg [] h ((h.push (.row cs .own)).push (.row cs .grown)):=((Chg.refl [] h).push _).push _
  refine ⟨⟨some (h.next+1,0),1,1,n⟩,(h.push (.row cs .own)).push (.row cs .grown),key _ (by simp only [growA,h1,h2];rfl),.inr ⟨h.next+1,cs,.grown,cs,rfl,rfl,hB _ (by omega),by simp,g_push_eq _ rfl,rfl,by simp,?_,Nat.le_refl _,.inl rfl⟩,c0.mono (by simp),fun A hA=>.inr (by simp [SL.blk] at hA;omega)⟩
  simp only [List.nil_append,De]
  exact ⟨cs,[],by simp,hcs,Dt.weak (fun C hC _=>⟨hC.1.1,by omega⟩) (Dt.chg c0 (by simp) hd0),rfl⟩
 ·have hvl:=h8.length
  have hbl:s.blk=some A:=by simp [SL.blk,h1]
  have hcl:vs.length≤bs.length:=by
   have:(bs.take vs.length).length=vs.length:=by rw [h7]
   rw [List.length_take] at this;omega
  have hg:(h.push (.row cs .own)).t.get A=some (.row bs st'):=by
   have:=g_push_ne (h:=h) (A:=A) (.row cs .own) (by omega)
   unfold Heap.g at this h5
   rw [this,h5]
  have h8':De h (fun C=>(V C∧C≠A)∧C<h.next) n xs vs:=De.weak (fun C hC hl=>⟨hC,hl⟩) h8
  have hd':Dt h (fun C=>(V C∧C≠A)∧C<h.next) d cs:=Dt.weak (fun C hC hl=>⟨⟨hC.1,fun e=>hC.2 (by rw [hbl,e])⟩,hl⟩) hd
  have hall2:=h8'.snoc hd' hcs
  have htk:takeN (s.len * n) bs=some vs:=by rw [takeN_of _ _ (by rw [h6];omega),h6,← hvl,h7]
  -- a new block
  have fresh:∀ H:Heap,H.next=h.next+1→Chg [A] h H→OwV V (H.push (.row (vs++cs) .grown)) ⟨some (h.next+1,0),s.len+1,s.len+1,n⟩ n (xs++[d]):=by
   intro H hH cH
   refine .inr ⟨h.next+1,vs++cs,.grown,vs++cs,rfl,rfl,hB _ (by omega),by simp [hH],g_push_eq _ hH.symm,by simp [h6],List.take_of_length_le (Nat.le_refl _),?_,Nat.le_refl _,.inl rfl⟩
   exact De.weak (fun C hC _=>⟨hC.1.1,by omega⟩) (De.chg (cH.push _) (fun C hC=>by simp;exact hC.1.2) hall2)
  rcases h10 with rfl | ⟨rfl,h10⟩
  ·have cH:Chg [A] h ((h.push (.row cs .own)).put A (.row bs .dead)):=((Chg.refl [A] h).push _).put (.inl (by simp)) _
   refine ⟨⟨some (h.next+1,0),s.len+1,s.len+1,n⟩,((h.push (.row cs .own)).put A (.row bs .dead)).push (.row (vs++cs) .grown),key _ ?_,fresh _ rfl cH,(cH.push _).mono (by simp [hbl]),fun C hC=>.inr (by simp [SL.blk] at hC;omega)⟩
   simp only [growA,h1,hg,List.drop_zero,htk];rfl
  ·by_cases hc:s.len+1≤s.cap
   ·have hb1:Nat.ble (s.len+1) s.cap=true:=by simpa using hc
    have hroom2:s.len * n+cs.length≤bs.length:=by
     rw [hcs,← Nat.succ_mul,← h10];exact Nat.mul_le_mul_right _ hc
    have hov:=over_at bs cs (s.len * n) hroom2
    have cH:Chg [A] h ((h.push (.row cs .own)).put A (.row (bs.take (s.len * n)++cs++bs.drop (s.len * n+cs.length)) .own)):=((Chg.refl [A] h).push _).put (.inl (by simp)) _
    have e1:bs.take (s.len * n)=vs:=by rw [h6,← hvl,h7]
    refine ⟨⟨some (A,0),s.len+1,s.cap,n⟩,_,key _ ?_,.inr ⟨A,_,.own,vs++cs,rfl,rfl,h3,by simp;omega,g_put_eq _ rfl,by simp [h6],?_,?_,hc,.inr ⟨rfl,?_⟩⟩,cH.mono (by simp [hbl]),fun C hC=>.inl (by simp [SL.blk] at hC;rw [hbl,hC])⟩
    ·simp only [growA,h1,hg,List.drop_zero,htk,hb1,cond_true,Nat.zero_add,hov]
    ·rw [e1,List.append_assoc,← List.append_assoc,List.take_append_of_le_length (Nat.le_refl _),List.take_of_length_le (Nat.le_refl _)]
    ·exact De.weak (fun C hC _=>hC.1) (De.chg cH (fun C hC=>by simp;exact hC.1.2) hall2)
    ·show s.cap * n=_
     rw [h10];simp only [List.length_append,List.length_take,List.length_drop];omega
   ·have hb1:Nat.ble (s.len+1) s.cap=false:=by
     cases hx:Nat.ble (s.len+1) s.cap with
     | false=>rfl
     | true=>exact absurd (by simpa using hx) hc
    have cH:Chg [A] h (h.push (.row cs .own)):=(Chg.refl [A] h).push _
    refine ⟨⟨some (h.next+1,0),s.len+1,s.len+1,n⟩,(h.push (.row cs .own)).push (.row (vs++cs) .grown),key _ ?_,fresh _ rfl cH,(cH.push _).mono (by simp [hbl]),fun C hC=>.inr (by simp [SL.blk] at hC;omega)⟩
    simp only [growA,h1,hg,List.drop_zero,htk,hb1,cond_false];rfl
end
end Go.Proofs.YtkcjphhjmlienaaGreatDoor.Ai

set_option linter.unusedVariables false
set_option linter.unusedSimpArgs false
open Go Go.Proofs.YtkcjphhjmlienaaGreatDoor.Ai Go.Proofs
namespace Go.Proofs.YtkcjphhjmlienaaGreatDoor.Qp
section
variable {T:List Tok} {P:Nat} {X:List Nat} {st:Int} {h0 h h' h6:Heap} {O Q n j:Nat} {row:SL→List AV} {xs:List D} {σ σ':St}
theorem CI.close2 {i:Nat} (f:CF P X h0 O Q n j row) (x:CI T P X st h0 O Q n row h xs (i,none)) {v:SL} (o1:h.own O (row v)) (w1:Ow h0.next h v n xs) {t e:TypeId} {W:Nat} (ha:AppN E t e n W) (hn:0<n) (hW:W≤10000000) (hl:xs.length≤64) (c:Chg [P] h h6) (y:PC T P (v.blk.toList++X) h6 σ' st) {d:D} {cs:List AV} (hd:Dt h6 (fun C=>h.next≤C) d cs) (hcs:cs.length=n) :
  ∃ v' h13,(∀ {β:Type} (K:SL→Heap→Option β),bindT (.val (.one .slice)) (appendA E t t (.slice v.a v.len v.cap v.sz) (.slice (some (h6.next,0)) 1 1 n) (h6.push (.row cs .own))) K=K v' h13)∧h13.store (O,j) [.slice v'.a v'.len v'.cap v'.sz]=some (h13.put O (.row (row v') .own))∧CI T P X st h0 O Q n row (h13.put O (.row (row v') .own)) (xs++[d]) σ'∧h6.cell (O,j)=some (.slice v.a v.len v.cap v.sz)∧(h6.push (.row cs .own)).cell (O,j)=some (.slice v.a v.len v.cap v.sz)∧Chg v.blk.toList h6 h13∧(∀ A∈v.blk.toList,h0.next≤A):=by
 have hO:=f.o;have hQ:=f.q
 have hlt:∀ A,v.blk=some A→h0.next≤A∧A<h.next:=w1.ge
 have c06:Chg [P,O] h0 h6:=x.chg.trans (c.mono (by simp))
 have o6:h6.own O (row v):=o1.chg c (by simp;omega)
 have w6:Ow h0.next h6 v n xs:=w1.chg c (by intro A hA;rw [List.mem_singleton] at hA;omega)
 have hn0:=x.chg.next
 have hd6:Dt h6 (fun C=>h0.next≤C∧v.blk≠some C) d cs:=hd.weak fun C hC _=>⟨by omega,fun e=>by have:=hlt C e;omega⟩
 have hll:(xs.length+1) * W≤1073741824:=by
  have:(xs.length+1) * W≤65 * 10000000:=Nat.mul_le_mul (by omega) hW
  omega
 obtain ⟨v',h13,e',w',c',hb⟩:=app_sl ha hn c06 w6 hd6 hcs hll
 have hge:∀ A∈v.blk.toList,h0.next≤A∧A<h.next:=fun A hA=>hlt A (by simpa using hA)
 have o13:h13.own O (row v):=o6.chg c' (fun hm=>by have:=hge O hm;omega)
 have hjl:j<(row v).length:=(List.getElem?_eq_some_iff.1 (f.rj v)).1
 have hst:h13.store (O,j) [SL.av v']=some (h13.put O (.row ((row v).set j (SL.av v')) .own)):=o13.store1 hjl _
 rw [f.rs] at hst
 have cp:=o13.put (row v')
 have y13:=y.chgM c' (fun A hA=>List.mem_append_left _ hA)
 have y':=y13.chg1 cp (List.mem_append_right _ f.x)
 have c013:Chg [P,O] h0 h13:=c06.step c' (fun A hA hlt'=>by have:=hge A hA;omega)
 refine ⟨v',h13,fun K=>e' K,hst,⟨y'.sub fun A hA=>List.mem_append_right _ hA,c013.trans (cp.mono (by simp)),((x.q.chg c (by simp;omega)).chg c' fun hm=>?_).chg cp (by simp;omega),v',own_put o13 _,w'.chg cp (by intro A hA;rw [List.mem_singleton] at hA;omega)⟩,by rw [o6.cell j,f.rj v];rfl,by rw [(o6.chg (chg_push h6 _) (by simp)).cell j,f.rj v];rfl,c',fun A hA=>(hge A hA).1⟩
 have:=hge Q hm;omega
end
def argsS (T:List Tok) (σ:St):List D×St:=
 let b:=optS T [41] (wantS T [40] σ)
 if b.1=true then ([],b.2) else let l:=listE T (operS T) [44] b.2;(l.1,wantS T [41] l.2)
def pairS (T:List Tok) (σ:St):D×St:=
 let a:=textS T 1 σ
 let o:=operS T (wantS T [58] a.2)
 (.t [.s a.1,o.1],o.2)
def madeS (T:List Tok) (σ:St):List D×St:=
 let b:=optS T [125] (wantS T [123] σ)
 if b.1=true then ([],b.2) else let l:=listE T (pairS T) [44] b.2;(l.1,wantS T [125] l.2)
def d1:D→D | .t (a::_)=>a | _=>.i 0
def d2:D→D | .t (_::b::_)=>b | _=>.i 0
theorem app102:AppN E 102 101 4 1000:=AppN.of (by kernel_rfl)
structure CVI (T:List Tok) (P:Nat) (X:List Nat) (st:Int) (h0:Heap) (O Q V off n:Nat) (row:SL→List AV) (h:Heap) (xs:List D) (σ:St):Prop where
 ci:CI T P X st h0 O Q n row h xs σ
 v:h.own V [.ptr (some (O,off))]
section
variable {N:Nat} {T:List Tok} {P:Nat} {X:List Nat} {st:Int} {h:Heap} {σ:St}
theorem f147c235_l1_eq (P:Option (Nat×Nat)) (sep:Bs) (V Q:Option (Nat×Nat)):∀ (M:Nat) (n:Int) (h:Heap),f147c235_l1 N M P sep (V,Q,()) n h=listK N P sep (fun h=>f235 N V Q h) M n h
 | 0,n,h=>rfl
 | M+1,n,h=>by
  rw [f147c235_l1_succ]
  unfold f147c235_l1_b
  simp only [listK]
  simp only [f147c235_l1_eq P sep V Q M]
theorem f147c256_l1_eq (P:Option (Nat×Nat)) (sep:Bs) (V Q:Option (Nat×Nat)):∀ (M:Nat) (n:Int) (h:Heap),f147c256_l1 N M P sep (V,Q,()) n h=listK N P sep (fun h=>f256 N V Q h) M n h
 | 0,n,h=>rfl
 | M+1,n,h=>by
  rw [f147c256_l1_succ]
  unfold f147c256_l1_b
  simp only [listK]
  simp only [f147c256_l1_eq P sep V Q M]
theorem f235_cv (hT:Toks T) (hN:100≤N) {h0:Heap} {O Q V off:Nat} {row:SL→List AV} (f:CF P X h0 O Q 4 (off+14) row) (hV:V≠P∧V≠O∧V<h0.next) {xs:List D} {i:Nat} (x:CVI T P X st h0 O Q V off 4 row h xs (i,none)) (hl:xs.length≤64):∃ h',f235 N (some (V,0)) (some (Q,0)) h=some ((),h')∧CVI T P X st h0 O Q V off 4 row h' (xs++[(operS T (i,none)).1]) (operS T (i,none)).2:=by
 unfold f235
 obtain ⟨v,o1,w1,y,r1,r2⟩:=x.ci.open f
 obtain ⟨r,h6,e6,x6,c6,d6⟩:=f208_pc (N:=N) hT hN y
 obtain ⟨v',h13,eA,eS,ci,g1,g2,cB,hge⟩:=x.ci.close2 f o1 w1 app102 (by decide) (by decide) hl c6 x6 d6 rfl
 have vV6:=x.v.chg c6 (by simp;omega)
 have vV11:=vV6.chg (chg_push h6 (.row (opc r) .own)) (by simp)
 have vV13:=vV6.chg cB (fun hm=>by have:=hge V hm;omega)
 have k0:h.cell (V,0)=some (.ptr (some (O,off))):=x.v.cell 0
 have k6:h6.cell (V,0)=some (.ptr (some (O,off))):=vV6.cell 0
 have k11:(h6.push (.row [(.int .i64 r.1),(.int .i64 r.2.1),(.str r.2.2.1),(.slice r.2.2.2.1.a r.2.2.2.1.len r.2.2.2.1.cap r.2.2.2.1.sz)] .own)).cell (V,0)=some (.ptr (some (O,off))):=vV11.cell 0
 have k13:h13.cell (V,0)=some (.ptr (some (O,off))):=vV13.cell 0
 have g2':(h6.push (.row [(.int .i64 r.1),(.int .i64 r.2.1),(.str r.2.2.1),(.slice r.2.2.2.1.a r.2.2.2.1.len r.2.2.2.1.cap r.2.2.2.1.sz)] .own)).cell (O,off+14)=some (.slice v.a v.len v.cap v.sz):=g2
 have eA':∀ {β:Type} (K:SL→Heap→Option β),bindT (.val (.one .slice)) (appendA E 102 102 (.slice v.a v.len v.cap v.sz) (.slice (some (h6.next,0)) 1 1 4) (h6.push (.row [(.int .i64 r.1),(.int .i64 r.2.1),(.str r.2.2.1),(.slice r.2.2.2.1.a r.2.2.2.1.len r.2.2.2.1.cap r.2.2.2.1.sz)] .own))) K=K v' h13:=eA
 simp only [need_some,k0,r1,r2,bindV_some,cast_slice,cast_ptr]
 rw [e6,bind2_some]
 rw [eA',eS,need_some]
 simp only [needB,r2,g2',g1,r1,k0,k6,k11,k13,sameO_some,cond_true,guardB_true]
 exact ⟨_,rfl,ci,vV13.chg (by
  obtain ⟨_,o13,_⟩:=ci.ex
  exact (Chg.refl [O] h13).put (.inl (by simp)) _) (by simp;omega)⟩
theorem args_list (hT:Toks T) (hN:100≤N) {h0:Heap} {O Q V off:Nat} {row:SL→List AV} (f:CF P X h0 O Q 4 (off+14) row) (hV:V≠P∧V≠O∧V<h0.next) (x:CVI T P X st h0 O Q V off 4 row h0 [] σ):∃ h',f147c235 N (some (P,0)) [44] ((some (V,0)),(some (Q,0)),()) h0=some ((),h')∧CVI T P X st h0 O Q V off 4 row h' (listE T (operS T) [44] σ).1 (listE T (operS T) [44] σ).2:=by
 unfold f147c235
 obtain ⟨o,h',e,y⟩:=list_all (N:=N) hT hN (F:=fun h=>f235 N (some (V,0)) (some (Q,0)) h) (one:=operS T) (Inv:=CVI T P X st h0 O Q V off 4 row) (fun h xs σ c=>c.ci.pc) (fun h h' xs σ σ' c d z=>⟨c.ci.step f d z,c.v.chg d (by simp;omega)⟩) (fun h xs i c hl=>f235_cv hT hN f hV c hl) (sep:=[44]) (by decide) x
 simp only [f147c235_l1_eq]
 rw [e]
 simp only [bind3_some]
 cases eqOut o (.exit 0) <;> exact ⟨h',rfl,y⟩
theorem f223_pc (hT:Toks T) (hN:100≤N) (x:PC T P X h σ st) {O off:Nat} {row:SL→List AV} (hO:P<O) (hX:O∈X) (rj:∀ v,(row v)[off+14]? = some (SL.av v)) (rs:∀ v v',(row v).set (off+14) (SL.av v')=row v') (oO:h.own O (row sl0)):∃ v h',f223 N (some (P,0)) (some (O,off)) h=some ((),h')∧PC T P X h' (argsS T σ).2 st∧Chg [P,O] h h'∧h'.own O (row v)∧Sl h' (fun C=>h.next≤C) v (argsS T σ).1:=by
 unfold f223
 have hP:=x.P_lt
 have hOl:=oO.2
 have oQ:=own_push h [AV.ptr (some (P,0))]
 have cQ:=chg_push h (.row [AV.ptr (some (P,0))] .own)
 have nQ:(h.push (.row [AV.ptr (some (P,0))] .own)).next=h.next+1:=rfl
 dsimp only
 generalize h.push (.row [AV.ptr (some (P,0))] .own)=h1 at *
 have oV:=own_push h1 [AV.ptr (some (O,off))]
 have cV:=chg_push h1 (.row [AV.ptr (some (O,off))] .own)
 have nV:(h1.push (.row [AV.ptr (some (O,off))] .own)).next=h1.next+1:=rfl
 have x2:=x.chg (cQ.trans cV)
 have oQ2:=oQ.chg cV (by simp)
 have oO2:=oO.chg (cQ.trans cV) (by simp)
 have c02:=cQ.trans cV
 generalize h1.push (.row [AV.ptr (some (O,off))] .own)=h2 at *
 have r2:h2.cell (h.next,0)=some (.ptr (some (P,0))):=oQ2.cell 0
 simp only [r2,bindV_some,cast_ptr]
 obtain ⟨h5,e5,c5,x5⟩:=f149_pc (N:=N) hT x2 (w:=[40]) (by decide)
 rw [e5,bind2_some]
 have oQ5:=oQ2.chg c5 (by simp;omega)
 have r5:h5.cell (h.next,0)=some (.ptr (some (P,0))):=oQ5.cell 0
 simp only [r5,bindV_some,cast_ptr]
 obtain ⟨h8,e8,c8,x8⟩:=f93_pc (N:=N) hT x5 (w:=[41]) (by decide)
 rw [e8,bind2_some]
 have c58:=c5.trans c8
 have oQ8:=oQ5.chg c8 (by simp;omega)
 have oV8:=oV.chg c58 (by simp;omega)
 have oO8:=oO2.chg c58 (by simp;omega)
 have hn8:=c58.next
 have c08:Chg [P] h h8:=(c02.mono (by simp)).trans c58
 simp only [argsS]
 cases hb:(optS T [41] (wantS T [40] σ)).1 with
 | true=>
  simp only [Bool.not_true,cond_false,if_true]
  exact ⟨sl0,h8,rfl,x8,c08.mono (by simp),oO8,Sl.nil _ _ _⟩
 | false=>
  simp only [Bool.not_false,cond_true,Bool.false_eq_true,if_false]
  have r8:h8.cell (h.next,0)=some (.ptr (some (P,0))):=oQ8.cell 0
  simp only [r8,bindV_some,cast_ptr]
  have f:CF P X h8 O h.next 4 (off+14) row:=⟨by omega,by omega,hX,rj,rs⟩
  obtain ⟨h12,e12,cv⟩:=args_list (N:=N) hT hN (V:=h1.next) (off:=off) f (by omega) ⟨⟨x8,Chg.refl _ _,oQ8,sl0,oO8,Ow.nil _ _ _ _⟩,oV8⟩
  rw [e12,bind2_some]
  obtain ⟨v,oO12,w12⟩:=cv.ci.ex
  have r12:h12.cell (h.next,0)=some (.ptr (some (P,0))):=cv.ci.q.cell 0
  simp only [r12,bindV_some,cast_ptr]
  obtain ⟨h15,e15,c15,x15⟩:=f149_pc (N:=N) hT cv.ci.pc (w:=[41]) (by decide)
  rw [e15,bind2_some]
  have w15:=w12.chg c15 (by intro A hA;rw [List.mem_singleton] at hA;omega)
  exact ⟨v,h15,rfl,x15,((c08.mono (N:=[P,O]) (by simp)).trans cv.ci.chg).trans (c15.mono (by simp)),oO12.chg c15 (by simp;omega),w15.sl.weak (fun C hC _=>by omega)⟩
end
end Go.Proofs.YtkcjphhjmlienaaGreatDoor.Qp

set_option linter.unusedVariables false
set_option linter.unusedSimpArgs false
open Go Go.Proofs.YtkcjphhjmlienaaGreatDoor.Ai Go.Proofs
namespace Go.Proofs.YtkcjphhjmlienaaGreatDoor.Qp
structure MF (P:Nat) (X:List Nat) (h0:Heap) (O Q V off:Nat) (row:SL→SL→List AV):Prop where
 o:P<O∧O<h0.next
 q:Q≠P∧Q≠O∧Q<h0.next
 v:V≠P∧V≠O∧V<h0.next
 x:O∈X
 rj:∀ v w,(row v w)[off+13]? = some (SL.av v)
 rk:∀ v w,(row v w)[off+14]? = some (SL.av w)
 rs:∀ v w v',(row v w).set (off+13) (SL.av v')=row v' w
 rt:∀ v w w',(row v w).set (off+14) (SL.av w')=row v w'
structure MI (T:List Tok) (P:Nat) (X:List Nat) (st:Int) (h0:Heap) (O Q V off:Nat) (row:SL→SL→List AV) (h:Heap) (zs:List D) (σ:St):Prop where
 pc:PC T P X h σ st
 chg:Chg [P,O] h0 h
 q:h.own Q [.ptr (some (P,0))]
 v:h.own V [.ptr (some (O,off))]
 ex:∃ v w,h.own O (row v w)∧OwV (fun C=>h0.next≤C∧w.blk≠some C) h v 1 (zs.map d1)∧OwV (fun C=>h0.next≤C∧v.blk≠some C) h w 4 (zs.map d2)
section
variable {N:Nat} {T:List Tok} {P:Nat} {X:List Nat} {st:Int} {h0 h h':Heap} {O Q V off:Nat} {row:SL→SL→List AV} {zs:List D} {σ σ':St}
theorem MI.step (f:MF P X h0 O Q V off row) (x:MI T P X st h0 O Q V off row h zs σ) (c:Chg [P] h h') (y:PC T P X h' σ' st):MI T P X st h0 O Q V off row h' zs σ':=by
 obtain ⟨v,w,o1,w1,w2⟩:=x.ex
 have:=f.o;have:=f.q;have:=f.v
 exact ⟨y,x.chg.trans (c.mono (by simp)),x.q.chg c (by simp;omega),x.v.chg c (by simp;omega),v,w,o1.chg c (by simp;omega),w1.chg c (by intro C hC _;simp;omega),w2.chg c (by intro C hC _;simp;omega)⟩
theorem f256_mi (hT:Toks T) (hN:100≤N) (f:MF P X h0 O Q V off row) {i:Nat} (x:MI T P X st h0 O Q V off row h zs (i,none)) (hl:zs.length≤64):∃ h',f256 N (some (V,0)) (some (Q,0)) h=some ((),h')∧MI T P X st h0 O Q V off row h' (zs++[(pairS T (i,none)).1]) (pairS T (i,none)).2:=by
 unfold f256
 have hO:=f.o;have hQ:=f.q;have hV:=f.v
 obtain ⟨v,w,o1,w1,w2⟩:=x.ex
 have hv:∀ A∈v.blk.toList,h0.next≤A∧A<h.next∧w.blk≠some A:=fun A hA=>by
  have:=w1.ge A (by simpa using hA);exact ⟨this.1.1,this.2,this.1.2⟩
 have hw:∀ A∈w.blk.toList,h0.next≤A∧A<h.next∧v.blk≠some A:=fun A hA=>by
  have:=w2.ge A (by simpa using hA);exact ⟨this.1.1,this.2,this.1.2⟩
 have y:PC T P (v.blk.toList++(w.blk.toList++X)) h (i,none) st:=x.pc.free fun A hA=>by
  rcases List.mem_append.1 hA with hA | hA
  ·have:=hv A hA;omega
  ·rcases List.mem_append.1 hA with hA | hA
   ·have:=hw A hA;omega
   ·exact x.pc.pa.xl A hA
 have hn0:=x.chg.next
 have kV:h.cell (V,0)=some (.ptr (some (O,off))):=x.v.cell 0
 have kQ:h.cell (Q,0)=some (.ptr (some (P,0))):=x.q.cell 0
 have kv:h.cell (O,off+13)=some (.slice v.a v.len v.cap v.sz):=by rw [o1.cell,f.rj];rfl
 simp only [need_some,kV,kQ,kv,bindV_some,cast_slice,cast_ptr]
 obtain ⟨h10,e10,c10,x10⟩:=f94_pc (N:=N) hT y (k:=1) (by decide)
 rw [e10,bind2_some]
 generalize hnm:(textS T 1 (i,none)).1=nm at *
 generalize hτ:(textS T 1 (i,none)).2=τ at *
 have o10:=o1.chg c10 (by simp;omega)
 have w1_10:=w1.chg c10 (by intro C hC _;simp;omega)
 have w2_10:=w2.chg c10 (by intro C hC _;simp;omega)
 have q10:=x.q.chg c10 (by simp;omega)
 have v10:=x.v.chg c10 (by simp;omega)
 have hn10:=c10.next
 have hl1:((zs.map d1).length+1) * 100≤1073741824:=by rw [List.length_map];omega
 obtain ⟨v',h13,eA,w1_13,c13,hb13⟩:=append_owV (cs:=[AV.str nm]) app38 (by decide) w1_10 (dt_str h10 _ nm) rfl (fun A hA=>⟨by omega,fun e=>by have:=hw A (by simpa using e);omega⟩) hl1
 have hn13:=c13.next
 have c11:=chg_push h10 (.row [AV.str nm] .own)
 have o11:=o10.chg c11 (by simp)
 have v11:=v10.chg c11 (by simp)
 have o13:=o10.chg c13 (fun hm=>by have:=hv O hm;omega)
 have q13:=q10.chg c13 (fun hm=>by have:=hv Q hm;omega)
 have v13:=v10.chg c13 (fun hm=>by have:=hv V hm;omega)
 have w2_13:OwV (fun C=>h0.next≤C∧v'.blk≠some C) h13 w 4 (zs.map d2):=by
  have a1:OwV (fun C=>(h0.next≤C∧v.blk≠some C)∧C<h10.next) h10 w 4 (zs.map d2):=w2_10.weak fun C hC hl=>⟨hC,hl⟩
  have a2:=a1.chg c13 (by intro C hC _ hm;exact hC.1.2 (by simpa using hm))
  exact a2.weak fun C hC _=>⟨hC.1.1,fun e=>by rcases hb13 C e with e | e;exact hC.1.2 e;omega⟩
 rw [eA,bindT_some,cast_slice]
 have hjl:off+13<(row v w).length:=(List.getElem?_eq_some_iff.1 (f.rj v w)).1
 have hst:h13.store (O,off+13) [.slice v'.a v'.len v'.cap v'.sz]=some (h13.put O (.row (row v' w) .own)):=by
  have:=o13.store1 hjl (SL.av v')
  rw [f.rs] at this;exact this
 simp only [need_some,hst]
 have cp:=o13.put (row v' w)
 have o15:=own_put o13 (row v' w)
 have x13:=x10.chgM c13 (fun A hA=>List.mem_append_left _ hA)
 have x15:=x13.chg1 cp (List.mem_append_right _ (List.mem_append_right _ f.x))
 have q15:=q13.chg cp (by simp;omega)
 have v15:=v13.chg cp (by simp;omega)
 have w1_15:=w1_13.chg cp (by intro C hC _;simp;omega)
 have w2_15:=w2_13.chg cp (by intro C hC _;simp;omega)
 have n15:(h13.put O (.row (row v' w) .own)).next=h13.next:=rfl
 have c015:Chg [P,O] h0 (h13.put O (.row (row v' w) .own)):=((x.chg.trans (c10.mono (by simp))).step c13 (fun A hA hl=>by have:=hv A hA;omega)).trans (cp.mono (by simp))
 generalize h13.put O (.row (row v' w) .own)=h15 at *
 have k10V:h10.cell (V,0)=some (.ptr (some (O,off))):=v10.cell 0
 have k11V:(h10.push (.row [AV.str nm] .own)).cell (V,0)=some (.ptr (some (O,off))):=v11.cell 0
 have k13V:h13.cell (V,0)=some (.ptr (some (O,off))):=v13.cell 0
 have k10v:h10.cell (O,off+13)=some (.slice v.a v.len v.cap v.sz):=by rw [o10.cell,f.rj];rfl
 have k11v:(h10.push (.row [AV.str nm] .own)).cell (O,off+13)=some (.slice v.a v.len v.cap v.sz):=by rw [o11.cell,f.rj];rfl
 have k15Q:h15.cell (Q,0)=some (.ptr (some (P,0))):=q15.cell 0
 simp only [needB,kQ,kV,kv,k10V,k11V,k13V,k10v,k11v,sameO_some,cond_true,guardB_true,k15Q,bindV_some,cast_ptr]
 obtain ⟨h19,e19,c19,x19⟩:=f149_pc (N:=N) hT x15 (w:=[58]) (by decide)
 rw [e19,bind2_some]
 have o19:=o15.chg c19 (by simp;omega)
 have q19:=q15.chg c19 (by simp;omega)
 have v19:=v15.chg c19 (by simp;omega)
 have w1_19:=w1_15.chg c19 (by intro C hC _;simp;omega)
 have w2_19:=w2_15.chg c19 (by intro C hC _;simp;omega)
 have hn19:=c19.next
 have k19V:h19.cell (V,0)=some (.ptr (some (O,off))):=v19.cell 0
 have k19Q:h19.cell (Q,0)=some (.ptr (some (P,0))):=q19.cell 0
 have k19w:h19.cell (O,off+14)=some (.slice w.a w.len w.cap w.sz):=by rw [o19.cell,f.rk];rfl
 simp only [need_some,k19V,k19Q,k19w,bindV_some,cast_slice,cast_ptr]
 obtain ⟨r,h29,e29,x29,c29,d29⟩:=f208_pc (N:=N) hT hN x19
 rw [e29,bind2_some]
 have o29:=o19.chg c29 (by simp;omega)
 have q29:=q19.chg c29 (by simp;omega)
 have v29:=v19.chg c29 (by simp;omega)
 have w1_29:=w1_19.chg c29 (by intro C hC _;simp;omega)
 have w2_29:=w2_19.chg c29 (by intro C hC _;simp;omega)
 have hn29:=c29.next
 have hv':∀ A∈v'.blk.toList,A<h15.next:=fun A hA=>(w1_15.ge A (by simpa using hA)).2
 have hl2:((zs.map d2).length+1) * 1000≤1073741824:=by rw [List.length_map];omega
 obtain ⟨w',h32,eB,w2_32,c32,hb32⟩:=append_owV (cs:=opc r) app102 (by decide) w2_29 (d29.weak fun C hC _=>⟨⟨by omega,fun e=>by have:=hv' C (by simpa using e);omega⟩,fun e=>by have:=hw C (by simpa using e);omega⟩) rfl (fun A hA=>⟨by omega,fun e=>by have:=hv' A (by simpa using e);omega⟩) hl2
 have eB':appendA E 102 102 (.slice w.a w.len w.cap w.sz) (.slice (some (h29.next,0)) 1 1 4) (h29.push (.row [(.int .i64 r.1),(.int .i64 r.2.1),(.str r.2.2.1),(.slice r.2.2.2.1.a r.2.2.2.1.len r.2.2.2.1.cap r.2.2.2.1.sz)] .own))=some (.slice w'.a w'.len w'.cap w'.sz,h32):=eB
 rw [eB',bindT_some,cast_slice]
 have c30:=chg_push h29 (.row (opc r) .own)
 have o30:=o29.chg c30 (by simp)
 have v30:=v29.chg c30 (by simp)
 have o32:=o29.chg c32 (fun hm=>by have:=hw O hm;omega)
 have q32:=q29.chg c32 (fun hm=>by have:=hw Q hm;omega)
 have v32:=v29.chg c32 (fun hm=>by have:=hw V hm;omega)
 have w1_32:OwV (fun C=>h0.next≤C∧w'.blk≠some C) h32 v' 1 (zs.map d1++[.s nm]):=by
  have a1:OwV (fun C=>(h0.next≤C∧w.blk≠some C)∧C<h29.next) h29 v' 1 (zs.map d1++[.s nm]):=w1_29.weak fun C hC hl=>⟨hC,hl⟩
  have a2:=a1.chg c32 (by intro C hC _ hm;exact hC.1.2 (by simpa using hm))
  exact a2.weak fun C hC _=>⟨hC.1.1,fun e=>by rcases hb32 C e with e | e;exact hC.1.2 e;omega⟩
 have hkl:off+14<(row v' w).length:=(List.getElem?_eq_some_iff.1 (f.rk v' w)).1
 have hst2:h32.store (O,off+14) [.slice w'.a w'.len w'.cap w'.sz]=some (h32.put O (.row (row v' w') .own)):=by
  have:=o32.store1 hkl (SL.av w')
  rw [f.rt] at this;exact this
 simp only [hst2,need_some]
 have k29V:h29.cell (V,0)=some (.ptr (some (O,off))):=v29.cell 0
 have k30V:(h29.push (.row [(.int .i64 r.1),(.int .i64 r.2.1),(.str r.2.2.1),(.slice r.2.2.2.1.a r.2.2.2.1.len r.2.2.2.1.cap r.2.2.2.1.sz)] .own)).cell (V,0)=some (.ptr (some (O,off))):=v30.cell 0
 have k32V:h32.cell (V,0)=some (.ptr (some (O,off))):=v32.cell 0
 have k29w:h29.cell (O,off+14)=some (.slice w.a w.len w.cap w.sz):=by rw [o29.cell,f.rk];rfl
 have k30w:(h29.push (.row [(.int .i64 r.1),(.int .i64 r.2.1),(.str r.2.2.1),(.slice r.2.2.2.1.a r.2.2.2.1.len r.2.2.2.1.cap r.2.2.2.1.sz)] .own)).cell (O,off+14)=some (.slice w.a w.len w.cap w.sz):=by
  have:=o30.cell (off+14)
  rw [f.rk] at this;exact this
 simp only [k19V,k19Q,k19w,k29V,k30V,k32V,k29w,k30w,sameO_some,cond_true,guardB_true]
 have cp2:=o32.put (row v' w')
 have x32:=x29.chgM c32 (fun A hA=>List.mem_append_right _ (List.mem_append_left _ hA))
 have x34:=x32.chg1 cp2 (List.mem_append_right _ (List.mem_append_right _ f.x))
 have c034:Chg [P,O] h0 (h32.put O (.row (row v' w') .own)):=((c015.trans ((c19.trans c29).mono (by simp))).step c32 (fun A hA hl=>by have:=hw A hA;omega)).trans (cp2.mono (by simp))
 simp only [pairS,hnm,hτ]
 refine ⟨_,rfl,x34.sub (fun A hA=>List.mem_append_right _ (List.mem_append_right _ hA)),c034,q32.chg cp2 (by simp;omega),v32.chg cp2 (by simp;omega),v',w',own_put o32 _,?_,?_⟩
 ·rw [List.map_append]
  exact w1_32.chg cp2 (by intro C hC _;simp;omega)
 ·rw [List.map_append]
  exact w2_32.chg cp2 (by intro C hC _;simp;omega)
theorem made_list (hT:Toks T) (hN:100≤N) (f:MF P X h0 O Q V off row) (x:MI T P X st h0 O Q V off row h0 [] σ):∃ h',f147c256 N (some (P,0)) [44] ((some (V,0)),(some (Q,0)),()) h0=some ((),h')∧MI T P X st h0 O Q V off row h' (listE T (pairS T) [44] σ).1 (listE T (pairS T) [44] σ).2:=by
 unfold f147c256
 obtain ⟨o,h',e,y⟩:=list_all (N:=N) hT hN (F:=fun h=>f256 N (some (V,0)) (some (Q,0)) h) (one:=pairS T) (Inv:=MI T P X st h0 O Q V off row) (fun h xs σ c=>c.pc) (fun h h' xs σ σ' c d z=>c.step f d z) (fun h xs i c hl=>f256_mi hT hN f c hl) (sep:=[44]) (by decide) x
 simp only [f147c256_l1_eq]
 rw [e]
 simp only [bind3_some]
 cases eqOut o (.exit 0) <;> exact ⟨h',rfl,y⟩
theorem f244_pc (hT:Toks T) (hN:100≤N) (x:PC T P X h σ st) (hO:P<O) (hX:O∈X) (rj:∀ v w,(row v w)[off+13]? = some (SL.av v)) (rk:∀ v w,(row v w)[off+14]? = some (SL.av w)) (rs:∀ v w v',(row v w).set (off+13) (SL.av v')=row v' w) (rt:∀ v w w',(row v w).set (off+14) (SL.av w')=row v w') (oO:h.own O (row sl0 sl0)):∃ v w h',f244 N (some (P,0)) (some (O,off)) h=some ((),h')∧PC T P X h' (madeS T σ).2 st∧Chg [P,O] h h'∧h'.own O (row v w)∧Sl h' (fun C=>h.next≤C) v ((madeS T σ).1.map d1)∧Sl h' (fun C=>h.next≤C) w ((madeS T σ).1.map d2):=by
 unfold f244
 have hP:=x.P_lt
 have hOl:=oO.2
 have oQ:=own_push h [AV.ptr (some (P,0))]
 have cQ:=chg_push h (.row [AV.ptr (some (P,0))] .own)
 have nQ:(h.push (.row [AV.ptr (some (P,0))] .own)).next=h.next+1:=rfl
 dsimp only
 generalize h.push (.row [AV.ptr (some (P,0))] .own)=h1 at *
 have oV:=own_push h1 [AV.ptr (some (O,off))]
 have cV:=chg_push h1 (.row [AV.ptr (some (O,off))] .own)
 have nV:(h1.push (.row [AV.ptr (some (O,off))] .own)).next=h1.next+1:=rfl
 have x2:=x.chg (cQ.trans cV)
 have oQ2:=oQ.chg cV (by simp)
 have oO2:=oO.chg (cQ.trans cV) (by simp)
 have c02:=cQ.trans cV
 generalize h1.push (.row [AV.ptr (some (O,off))] .own)=h2 at *
 have r2:h2.cell (h.next,0)=some (.ptr (some (P,0))):=oQ2.cell 0
 simp only [r2,bindV_some,cast_ptr]
 obtain ⟨h5,e5,c5,x5⟩:=f149_pc (N:=N) hT x2 (w:=[123]) (by decide)
 rw [e5,bind2_some]
 have oQ5:=oQ2.chg c5 (by simp;omega)
 have r5:h5.cell (h.next,0)=some (.ptr (some (P,0))):=oQ5.cell 0
 simp only [r5,bindV_some,cast_ptr]
 obtain ⟨h8,e8,c8,x8⟩:=f93_pc (N:=N) hT x5 (w:=[125]) (by decide)
 rw [e8,bind2_some]
 have c58:=c5.trans c8
 have oQ8:=oQ5.chg c8 (by simp;omega)
 have oV8:=oV.chg c58 (by simp;omega)
 have oO8:=oO2.chg c58 (by simp;omega)
 have hn8:=c58.next
 have c08:Chg [P] h h8:=(c02.mono (by simp)).trans c58
 simp only [madeS]
 cases hb:(optS T [125] (wantS T [123] σ)).1 with
 | true=>
  simp only [Bool.not_true,cond_false,if_true]
  exact ⟨sl0,sl0,h8,rfl,x8,c08.mono (by simp),oO8,Sl.nil _ _ _,Sl.nil _ _ _⟩
 | false=>
  simp only [Bool.not_false,cond_true,Bool.false_eq_true,if_false]
  have r8:h8.cell (h.next,0)=some (.ptr (some (P,0))):=oQ8.cell 0
  simp only [r8,bindV_some,cast_ptr]
  have f:MF P X h8 O h.next h1.next off row:=⟨by omega,by omega,by omega,hX,rj,rk,rs,rt⟩
  obtain ⟨h12,e12,mi⟩:=made_list (N:=N) hT hN f ⟨x8,Chg.refl _ _,oQ8,oV8,sl0,sl0,oO8,OwV.nil _ _ _ _,OwV.nil _ _ _ _⟩
  rw [e12,bind2_some]
  obtain ⟨v,w,oO12,w1_12,w2_12⟩:=mi.ex
  have r12:h12.cell (h.next,0)=some (.ptr (some (P,0))):=mi.q.cell 0
  simp only [r12,bindV_some,cast_ptr]
  obtain ⟨h15,e15,c15,x15⟩:=f149_pc (N:=N) hT mi.pc (w:=[125]) (by decide)
  rw [e15,bind2_some]
  have w1_15:=w1_12.chg c15 (by intro C hC _;simp;omega)
  have w2_15:=w2_12.chg c15 (by intro C hC _;simp;omega)
  exact ⟨v,w,h15,rfl,x15,((c08.mono (N:=[P,O]) (by simp)).trans mi.chg).trans (c15.mono (by simp)),oO12.chg c15 (by simp;omega),w1_15.sl.weak (fun C hC _=>by have:=hC.1;omega),w2_15.sl.weak (fun C hC _=>by have:=hC.1;omega)⟩
end
end Go.Proofs.YtkcjphhjmlienaaGreatDoor.Qp

set_option linter.unusedVariables false
set_option linter.unusedSimpArgs false
open Go Go.Proofs.YtkcjphhjmlienaaGreatDoor.Ai Go.Proofs
namespace Go.Proofs.YtkcjphhjmlienaaGreatDoor.Qp
abbrev VaV:=Int×Int×Int×List UInt8×SL×Int×Int×List UInt8×SL×Int×List UInt8×SL×List UInt8×SL×SL×Unit
def vac (x:VaV):List AV:=[.int .i64 x.1,.int .i64 x.2.1,.int .i64 x.2.2.1,.str x.2.2.2.1,.slice x.2.2.2.2.1.a x.2.2.2.2.1.len x.2.2.2.2.1.cap x.2.2.2.2.1.sz,.int .i64 x.2.2.2.2.2.1,.int .i64 x.2.2.2.2.2.2.1,.str x.2.2.2.2.2.2.2.1,.slice x.2.2.2.2.2.2.2.2.1.a x.2.2.2.2.2.2.2.2.1.len x.2.2.2.2.2.2.2.2.1.cap x.2.2.2.2.2.2.2.2.1.sz,.int .i64 x.2.2.2.2.2.2.2.2.2.1,.str x.2.2.2.2.2.2.2.2.2.2.1,.slice x.2.2.2.2.2.2.2.2.2.2.2.1.a x.2.2.2.2.2.2.2.2.2.2.2.1.len x.2.2.2.2.2.2.2.2.2.2.2.1.cap x.2.2.2.2.2.2.2.2.2.2.2.1.sz,.str x.2.2.2.2.2.2.2.2.2.2.2.2.1,.slice x.2.2.2.2.2.2.2.2.2.2.2.2.2.1.a x.2.2.2.2.2.2.2.2.2.2.2.2.2.1.len x.2.2.2.2.2.2.2.2.2.2.2.2.2.1.cap x.2.2.2.2.2.2.2.2.2.2.2.2.2.1.sz,.slice x.2.2.2.2.2.2.2.2.2.2.2.2.2.2.1.a x.2.2.2.2.2.2.2.2.2.2.2.2.2.2.1.len x.2.2.2.2.2.2.2.2.2.2.2.2.2.2.1.cap x.2.2.2.2.2.2.2.2.2.2.2.2.2.2.1.sz]
abbrev op00:OpV:=(0,0,[],sl0,())
def vaOf (k:Int) (a b:OpV) (op:Int) (pl:LfV) (nm:Bs) (ns ag:SL):VaV:=(k,a.1,a.2.1,a.2.2.1,a.2.2.2.1,b.1,b.2.1,b.2.2.1,b.2.2.2.1,op,pl.1,pl.2.1,nm,ns,ag,())
abbrev va0:VaV:=vaOf 0 op00 op00 0 lf0 [] sl0 sl0
def vaD (k:Int) (a b:D) (op:Int) (pl:D) (nm:Bs) (ns ag:List D):D:=.t [.i k,a,b,.i op,pl,.s nm,.l ns,.l ag]
theorem aggV {β:Type} (r:VaV) (K:VaV→Option β):bindV (.val (.agg [(.int .i64),(.int .i64),(.int .i64),.str,.slice,(.int .i64),(.int .i64),.str,.slice,(.int .i64),.str,.slice,.str,.slice,.slice])) (some (.agg (vac r))) K=K r:=by
 obtain ⟨x1,x2,x3,x4,x5,x6,x7,x8,x9,x10,x11,x12,x13,x14,x15,_⟩:=r
 simp [vac]
theorem cellsV {H:Heap} {A:Nat} {r:VaV} (o:H.own A (vac r)) {β:Type} (K:VaV→Option β):bindV (.val (.agg [(.int .i64),(.int .i64),(.int .i64),.str,.slice,(.int .i64),(.int .i64),.str,.slice,(.int .i64),.str,.slice,.str,.slice,.slice])) (H.cells (A,0) 15) K=K r:=by
 have:H.cells (A,0) 15=some (.agg (vac r)):=o.cells (j:=0) (m:=15) (Nat.le_refl _)
 rw [this,aggV]
theorem storeV {H:Heap} {A:Nat} {r0:VaV} (o:H.own A (vac r0)) (r:VaV):H.store (A,0) [.int .i64 r.1,.int .i64 r.2.1,.int .i64 r.2.2.1,.str r.2.2.2.1,.slice r.2.2.2.2.1.a r.2.2.2.2.1.len r.2.2.2.2.1.cap r.2.2.2.2.1.sz,.int .i64 r.2.2.2.2.2.1,.int .i64 r.2.2.2.2.2.2.1,.str r.2.2.2.2.2.2.2.1,.slice r.2.2.2.2.2.2.2.2.1.a r.2.2.2.2.2.2.2.2.1.len r.2.2.2.2.2.2.2.2.1.cap r.2.2.2.2.2.2.2.2.1.sz,.int .i64 r.2.2.2.2.2.2.2.2.2.1,.str r.2.2.2.2.2.2.2.2.2.2.1,.slice r.2.2.2.2.2.2.2.2.2.2.2.1.a r.2.2.2.2.2.2.2.2.2.2.2.1.len r.2.2.2.2.2.2.2.2.2.2.2.1.cap r.2.2.2.2.2.2.2.2.2.2.2.1.sz,.str r.2.2.2.2.2.2.2.2.2.2.2.2.1,.slice r.2.2.2.2.2.2.2.2.2.2.2.2.2.1.a r.2.2.2.2.2.2.2.2.2.2.2.2.2.1.len r.2.2.2.2.2.2.2.2.2.2.2.2.2.1.cap r.2.2.2.2.2.2.2.2.2.2.2.2.2.1.sz,.slice r.2.2.2.2.2.2.2.2.2.2.2.2.2.2.1.a r.2.2.2.2.2.2.2.2.2.2.2.2.2.2.1.len r.2.2.2.2.2.2.2.2.2.2.2.2.2.2.1.cap r.2.2.2.2.2.2.2.2.2.2.2.2.2.2.1.sz]=some (H.put A (.row (vac r) .own)):=o.store rfl
theorem finV {H:Heap} {A:Nat} {r0:VaV} (o:H.own A (vac r0)) (r:VaV) {β:Type} (K:VaV→Heap→Option β) :
  (need (H.store (A,0) [.int .i64 r.1,.int .i64 r.2.1,.int .i64 r.2.2.1,.str r.2.2.2.1,.slice r.2.2.2.2.1.a r.2.2.2.2.1.len r.2.2.2.2.1.cap r.2.2.2.2.1.sz,.int .i64 r.2.2.2.2.2.1,.int .i64 r.2.2.2.2.2.2.1,.str r.2.2.2.2.2.2.2.1,.slice r.2.2.2.2.2.2.2.2.1.a r.2.2.2.2.2.2.2.2.1.len r.2.2.2.2.2.2.2.2.1.cap r.2.2.2.2.2.2.2.2.1.sz,.int .i64 r.2.2.2.2.2.2.2.2.2.1,.str r.2.2.2.2.2.2.2.2.2.2.1,.slice r.2.2.2.2.2.2.2.2.2.2.2.1.a r.2.2.2.2.2.2.2.2.2.2.2.1.len r.2.2.2.2.2.2.2.2.2.2.2.1.cap r.2.2.2.2.2.2.2.2.2.2.2.1.sz,.str r.2.2.2.2.2.2.2.2.2.2.2.2.1,.slice r.2.2.2.2.2.2.2.2.2.2.2.2.2.1.a r.2.2.2.2.2.2.2.2.2.2.2.2.2.1.len r.2.2.2.2.2.2.2.2.2.2.2.2.2.1.cap r.2.2.2.2.2.2.2.2.2.2.2.2.2.1.sz,.slice r.2.2.2.2.2.2.2.2.2.2.2.2.2.2.1.a r.2.2.2.2.2.2.2.2.2.2.2.2.2.2.1.len r.2.2.2.2.2.2.2.2.2.2.2.2.2.2.1.cap r.2.2.2.2.2.2.2.2.2.2.2.2.2.2.1.sz]) fun h7=>bindV (.val (.agg [(.int .i64),(.int .i64),(.int .i64),.str,.slice,(.int .i64),(.int .i64),.str,.slice,(.int .i64),.str,.slice,.str,.slice,.slice])) (h7.cells (A,0) 15) fun x8=>K x8 h7)=K r (H.put A (.row (vac r) .own)):=by
 rw [storeV o,need_some,cellsV (own_put o _)]
theorem dt_va {h:Heap} {V:Nat→Prop} {k op:Int} {a b pl:D} {nm:Bs} {ns ag:List D} {ra rb:OpV} {rp:LfV} {s1 s2:SL} (xa:Dt h V a (opc ra)) (xb:Dt h V b (opc rb)) (xp:Dt h V pl (lfc rp)) (x1:Sl h V s1 ns) (x2:Sl h V s2 ag):Dt h V (vaD k a b op pl nm ns ag) (vac (vaOf k ra rb op rp nm s1 s2)):=
 dt_t (dp_cons (a:=[_]) (dt_i h V k) (dp_cons (a:=opc ra) xa (dp_cons (a:=opc rb) xb (dp_cons (a:=[_]) (dt_i h V op) (dp_cons (a:=lfc rp) xp (dp_cons (a:=[_]) (dt_str h V nm) (dp_cons (a:=[_]) (dt_av.2 x1) (dp_cons (a:=[_]) (b:=[]) (dt_av.2 x2) (dp_nil h V)))))))))
theorem dt_op0 (h:Heap) (V:Nat→Prop):Dt h V op0 (opc op00):=dt_op (dt_pl0 h V)
section
variable {k op:Int} {a b:OpV} {pl:LfV} {nm:Bs}
theorem va13 (v w:SL):(vac (vaOf k a b op pl nm v w))[0+13]? = some (SL.av v):=by simp [vac,vaOf,SL.av]
theorem va14 (v w:SL):(vac (vaOf k a b op pl nm v w))[0+14]? = some (SL.av w):=by simp [vac,vaOf,SL.av]
theorem vs13 (v w v':SL):(vac (vaOf k a b op pl nm v w)).set (0+13) (SL.av v')=vac (vaOf k a b op pl nm v' w):=by simp [vac,vaOf,SL.av]
theorem vs14 (v w w':SL):(vac (vaOf k a b op pl nm v w)).set (0+14) (SL.av w')=vac (vaOf k a b op pl nm v w'):=by simp [vac,vaOf,SL.av]
end
def namedS (T:List Tok) (σ:St):D×St:=
 let a:=nameS T σ
 if (optS T [123] a.2).1=true then
  let l:=madeS T a.2
  (vaD 7 op0 op0 0 pl0 a.1 (l.1.map d1) (l.1.map d2),l.2)
 else
  let l:=argsS T a.2
  (vaD 6 op0 op0 0 pl0 a.1 [] l.1,l.2)
def opS (T:List Tok):List Bs→Int→St→Option (Int×D)×St
 | [],_,σ=>(none,σ)
 | s::r,k,σ=>let b:=optS T s σ;if b.1=true then (some (k,(operS T b.2).1),(operS T b.2).2) else opS T r (k+1) b.2
def signsL:List Bs:=[[43],[45],[60],[61,61]]
def opV (o:D):Option (Int×D)→D
 | none=>vaD 1 o op0 0 pl0 [] [] []
 | some (k,b)=>vaD 5 o b k pl0 [] [] []
def valueS (T:List Tok) (σ:St):D×St:=
 let a:=optS T [38] σ
 if a.1=true then
  let m:=optS T [109,117,116] a.2
  let p:=placeS T m.2
  (vaD (if m.1=true then 3 else 2) op0 op0 0 p.1 [] [] [],p.2)
 else
  let b:=optS T [33] a.2
  if b.1=true then (vaD 4 (operS T b.2).1 op0 0 pl0 [] [] [],(operS T b.2).2)
  else if (callsS T b.2||behindS T [123] b.2)=true then namedS T b.2
  else
   let o:=operS T b.2
   let s:=opS T signsL 1 o.2
   (opV o.1 s.1,s.2)
section
variable {N:Nat} {T:List Tok} {P:Nat} {X:List Nat} {st:Int} {h:Heap} {σ:St}
theorem f146_pc (hT:Toks T) (x:PC T P X h σ st) {w:Bs} (hw:isWord w=false):∃ h',f146 N (some (P,0)) 5 w h=some ((optS T w σ).1,h')∧Chg [] h h':=by
 obtain ⟨h',e,c⟩:=f146_eq (N:=N) x.pa 5 w
 refine ⟨h',?_,c⟩
 rw [e]
 obtain ⟨i,er⟩:=σ
 cases er with
 | some q=>rfl
 | none=>
  have:=isS_sign (T:=T) (i:=i) (tkOK hT x.lt) hw
  simp only [optS,Option.isNone_none,Bool.true_and,← this]
  cases isS T w i <;> rfl
theorem f232_pc (hT:Toks T) (hN:100≤N) (x:PC T P X h σ st):∃ r h',f232 N (some (P,0)) h=some (r,h')∧PC T P X h' (namedS T σ).2 st∧Chg [P] h h'∧Dt h' (fun C=>h.next≤C) (namedS T σ).1 (vac r):=by
 unfold f232
 have hP:=x.P_lt
 have oR:=own_push h (vac va0)
 have cR:=chg_push h (.row (vac va0) .own)
 have eR:h.push (.row [.int .i64 0,.int .i64 0,.int .i64 0,.str [],.slice none 0 0 0,.int .i64 0,.int .i64 0,.str [],.slice none 0 0 0,.int .i64 0,.str [],.slice none 0 0 0,.str [],.slice none 0 0 0,.slice none 0 0 0] .own)=h.push (.row (vac va0) .own):=rfl
 have nR:(h.push (.row (vac va0) .own)).next=h.next+1:=rfl
 have x1:=x.add cR (A:=h.next) (Nat.le_refl _) (Nat.lt_succ_self _)
 rw [eR]
 generalize h.push (.row (vac va0) .own)=h1 at *
 dsimp only
 obtain ⟨h3,e3,c3,x3⟩:=f95_pc (N:=N) hT x1
 rw [e3,bind2_some]
 have oR3:=oR.chg c3 (by simp;omega)
 have hn3:=c3.next
 simp only [namedS]
 generalize (nameS T σ).1=nm at *
 generalize (nameS T σ).2=τ at *
 have oO0:=own_push h3 (vac va0)
 have cO0:=chg_push h3 (.row (vac va0) .own)
 have eO:h3.push (.row [.int .i64 0,.int .i64 0,.int .i64 0,.str [],.slice none 0 0 0,.int .i64 0,.int .i64 0,.str [],.slice none 0 0 0,.int .i64 0,.str [],.slice none 0 0 0,.str [],.slice none 0 0 0,.slice none 0 0 0] .own)=h3.push (.row (vac va0) .own):=rfl
 have hstO:(h3.push (.row (vac va0) .own)).store (h3.next,0) [(.int .i64 6),(.int .i64 0),(.int .i64 0),(.str []),(.slice none 0 0 0),(.int .i64 0),(.int .i64 0),(.str []),(.slice none 0 0 0),(.int .i64 0),(.str []),(.slice none 0 0 0),(.str nm),(.slice none 0 0 0),(.slice none 0 0 0)]=some ((h3.push (.row (vac va0) .own)).put h3.next (.row (vac (vaOf 6 op00 op00 0 lf0 nm sl0 sl0)) .own)):=oO0.store rfl
 rw [eO,hstO,need_some]
 have oO:=own_put oO0 (vac (vaOf 6 op00 op00 0 lf0 nm sl0 sl0))
 have cO:Chg [] h3 ((h3.push (.row (vac va0) .own)).put h3.next (.row (vac (vaOf 6 op00 op00 0 lf0 nm sl0 sl0)) .own)):=cO0.put (.inr (Nat.le_refl _)) _
 have nO:((h3.push (.row (vac va0) .own)).put h3.next (.row (vac (vaOf 6 op00 op00 0 lf0 nm sl0 sl0)) .own)).next=h3.next+1:=rfl
 have x5:=x3.add cO (A:=h3.next) (Nat.le_refl _) (Nat.lt_succ_self _)
 have oR5:=oR3.chg cO (by simp)
 generalize (h3.push (.row (vac va0) .own)).put h3.next (.row (vac (vaOf 6 op00 op00 0 lf0 nm sl0 sl0)) .own)=h5 at *
 obtain ⟨h7,e7,c7⟩:=f146_pc (N:=N) hT x5 (w:=[123]) (by decide)
 rw [e7,bind2_some]
 have x7:=x5.chg c7
 have oO7:=oO.chg c7 (by simp)
 have oR7:=oR5.chg c7 (by simp)
 have hn7:=c7.next
 have c07:Chg [P] h h7:=(((cR.mono (by simp)).trans c3).trans (cO.mono (by simp))).trans (c7.mono (by simp))
 cases hb:(optS T [123] τ).1 with
 | true=>
  simp only [cond_true,if_true,Nat.add_zero]
  have hst:h7.store (h3.next,0) [.int .i64 7]=some (h7.put h3.next (.row (vac (vaOf 7 op00 op00 0 lf0 nm sl0 sl0)) .own)):=own_storeN oO7 rfl
  rw [hst,need_some]
  have cp:=oO7.put (vac (vaOf 7 op00 op00 0 lf0 nm sl0 sl0))
  have oO8:=own_put oO7 (vac (vaOf 7 op00 op00 0 lf0 nm sl0 sl0))
  have oR8:=oR7.chg cp (by simp;omega)
  have x8:=x7.chg1 cp (by simp)
  have n8:(h7.put h3.next (.row (vac (vaOf 7 op00 op00 0 lf0 nm sl0 sl0)) .own)).next=h7.next:=rfl
  have c08:Chg [P] h (h7.put h3.next (.row (vac (vaOf 7 op00 op00 0 lf0 nm sl0 sl0)) .own)):=c07.step cp (fun A hA hl=>by rw [List.mem_singleton] at hA;omega)
  generalize h7.put h3.next (.row (vac (vaOf 7 op00 op00 0 lf0 nm sl0 sl0)) .own)=h8 at *
  obtain ⟨v,w,h10,e10,x10,c10,oO10,sv,sw⟩:=f244_pc (N:=N) (off:=0) (row:=fun v w=>vac (vaOf 7 op00 op00 0 lf0 nm v w)) hT hN x8 (O:=h3.next) (by omega) (by simp) (fun v w=>va13 v w) (fun v w=>va14 v w) (fun v w v'=>vs13 v w v') (fun v w w'=>vs14 v w w') oO8
  rw [e10,bind2_some]
  have hn10:=c10.next
  have oR10:=oR8.chg c10 (by simp;omega)
  rw [cellsV oO10]
  have cZ:=oR10.put (vac (vaOf 7 op00 op00 0 lf0 nm v w))
  have c010:Chg [P] h h10:=c08.step c10 (fun A hA hl=>by
   simp only [List.mem_cons,List.not_mem_nil,or_false] at hA ⊢;omega)
  refine ⟨vaOf 7 op00 op00 0 lf0 nm v w,_,finV oR10 (vaOf 7 op00 op00 0 lf0 nm v w) (fun x h=>some (x,h)),(x10.chg1 cZ (by simp)).sub (by simp +contextual),c010.step cZ (fun A hA hl=>by rw [List.mem_singleton] at hA;omega),dt_va (dt_op0 _ _) (dt_op0 _ _) (dt_pl0 _ _) ?_ ?_⟩
  ·exact (sv.chg cZ (fun C hC=>by simp;omega)).weak (fun C hC _=>by omega)
  ·exact (sw.chg cZ (fun C hC=>by simp;omega)).weak (fun C hC _=>by omega)
 | false=>
  simp only [cond_false,Bool.false_eq_true,if_false]
  obtain ⟨v,h15,e15,x15,c15,oO15,sv⟩:=f223_pc (N:=N) (off:=0) (row:=fun v=>vac (vaOf 6 op00 op00 0 lf0 nm sl0 v)) hT hN x7 (O:=h3.next) (by omega) (by simp) (fun v=>va14 sl0 v) (fun v v'=>vs14 sl0 v v') oO7
  rw [e15,bind2_some]
  have hn15:=c15.next
  have oR15:=oR7.chg c15 (by simp;omega)
  rw [cellsV oO15]
  have cZ:=oR15.put (vac (vaOf 6 op00 op00 0 lf0 nm sl0 v))
  have c015:Chg [P] h h15:=c07.step c15 (fun A hA hl=>by
   simp only [List.mem_cons,List.not_mem_nil,or_false] at hA ⊢;omega)
  refine ⟨vaOf 6 op00 op00 0 lf0 nm sl0 v,_,finV oR15 (vaOf 6 op00 op00 0 lf0 nm sl0 v) (fun x h=>some (x,h)),(x15.chg1 cZ (by simp)).sub (by simp +contextual),c015.step cZ (fun A hA hl=>by rw [List.mem_singleton] at hA;omega),dt_va (dt_op0 _ _) (dt_op0 _ _) (dt_pl0 _ _) (Sl.nil _ _ _) ?_⟩
  exact (sv.chg cZ (fun C hC=>by simp;omega)).weak (fun C hC _=>by omega)
theorem ops_loop (hT:Toks T) (hN:100≤N) {h0:Heap} {O S:Nat} {R:Option (Nat×Nat)} {ra:OpV} (hO:P<O∧O<h0.next) (hX:O∈X) (hS:S≠P∧S≠O∧S<h0.next):∀ (l:List Bs) (p M:Nat) (h:Heap) (σ:St),l.length<M→p+l.length=4→signsL.drop p=l→PC T P X h σ st→Chg [P,O] h0 h→h.own O (vac (vaOf 1 ra op00 0 lf0 [] sl0 sl0))→h.own S [.str [43],.str [45],.str [60],.str [61,61]]→
  ∃ h' k rb op,f219_l1 N M (some (P,0)) R (some (O,0)) ⟨some (S,0),4,4,1⟩ (Int.ofNat 4) (p:Int) h=some (.exit 1,(R,some (O,0),()),h')∧PC T P X h' (opS T l ((p:Int)+1) σ).2 st∧Chg [P,O] h0 h'∧h'.own O (vac (vaOf k ra rb op lf0 [] sl0 sl0))∧
   (((opS T l ((p:Int)+1) σ).1=none∧k=1∧rb=op00∧op=0)∨(∃ b,(opS T l ((p:Int)+1) σ).1=some (op,b)∧k=5∧Dt h' (fun C=>h0.next≤C) b (opc rb))):=by
 intro l
 induction l with
 | nil=>
  intro p M h σ hM hp hd x c oO oS
  obtain ⟨M,rfl⟩:∃ m,M=m+1:=⟨M-1,by omega⟩
  rw [f219_l1_succ]
  unfold f219_l1_b
  have hp4:p=4:=by simpa using hp
  subst hp4
  simp only [show ltInt ((4:Nat):Int) (Int.ofNat 4)=false from rfl,cond_false,opS]
  exact ⟨h,1,op00,0,rfl,x,c,oO,.inl (by simp)⟩
 | cons s l ih=>
  intro p M h σ hM hp hd x c oO oS
  simp only [List.length_cons] at hM hp
  obtain ⟨M,rfl⟩:∃ m,M=m+1:=⟨M-1,by omega⟩
  rw [f219_l1_succ]
  unfold f219_l1_b
  have hn0:=c.next
  have hp4:p<4:=by omega
  have hlt:ltInt (p:Int) (Int.ofNat 4)=true:=by rw [ltI];exact decide_eq_true (by show (p:Int)<((4:Nat):Int);omega)
  have hsp:signsL[p]? = some s:=by rw [← List.head?_drop,hd];rfl
  have hd':signsL.drop (p+1)=l:=by rw [← List.drop_drop,hd];rfl
  have hcell:h.cell (SL.at ⟨some (S,0),4,4,1⟩ p 1)=some (.str s):=by
   show h.cell (S,0+p * 1)=_
   rw [Nat.zero_add,Nat.mul_one,oS.cell p,show ([.str [43],.str [45],.str [60],.str [61,61]]:List AV)=signsL.map AV.str from rfl,List.getElem?_map,hsp];rfl
  have hws:isWord s=false:=by
   have:s∈signsL:=List.mem_of_getElem? hsp
   simp only [signsL,List.mem_cons,List.not_mem_nil,or_false] at this
   rcases this with rfl | rfl | rfl | rfl <;> decide
  rw [hlt]
  simp only [cond_true]
  rw [ixK_at (s:=⟨some (S,0),4,4,1⟩) rfl hp4,hcell]
  simp only [bindV_some,cast_str]
  obtain ⟨h40,e40,c40,x40⟩:=f93_pc (N:=N) hT x (w:=s) hws
  rw [e40,bind2_some]
  have o40:=oO.chg c40 (by simp;omega)
  have s40:=oS.chg c40 (by simp;omega)
  have c040:=c.trans (c40.mono (N:=[P,O]) (by simp))
  simp only [opS]
  cases hb:(optS T s σ).1 with
  | true=>
   simp only [cond_true,if_true]
   obtain ⟨r,h43,e43,x43,c43,d43⟩:=f208_pc (N:=N) hT hN x40
   rw [e43,bind2_some]
   have o43:=o40.chg c43 (by simp;omega)
   have hn43:=c040.next
   simp only [need_some,Nat.zero_add,Nat.add_zero]
   have hw1:wrapA .i64 (1+(p:Int))=(p:Int)+1:=by rw [wrapA_small (by omega) (by omega)];omega
   rw [hw1]
   have st1:h43.store (O,0) [.int .i64 5]=some (h43.put O (.row (vac (vaOf 5 ra op00 0 lf0 [] sl0 sl0)) .own)):=own_storeN o43 rfl
   rw [st1,need_some]
   have p1:=own_put o43 (vac (vaOf 5 ra op00 0 lf0 [] sl0 sl0))
   have st2:(h43.put O (.row (vac (vaOf 5 ra op00 0 lf0 [] sl0 sl0)) .own)).store (O,9) [.int .i64 ((p:Int)+1)]=some ((h43.put O (.row (vac (vaOf 5 ra op00 0 lf0 [] sl0 sl0)) .own)).put O (.row (vac (vaOf 5 ra op00 ((p:Int)+1) lf0 [] sl0 sl0)) .own)):=own_storeN p1 rfl
   rw [st2,need_some]
   have p2:=own_put p1 (vac (vaOf 5 ra op00 ((p:Int)+1) lf0 [] sl0 sl0))
   have st3:((h43.put O (.row (vac (vaOf 5 ra op00 0 lf0 [] sl0 sl0)) .own)).put O (.row (vac (vaOf 5 ra op00 ((p:Int)+1) lf0 [] sl0 sl0)) .own)).store (O,5) [.int .i64 r.1,.int .i64 r.2.1,.str r.2.2.1,.slice r.2.2.2.1.a r.2.2.2.1.len r.2.2.2.1.cap r.2.2.2.1.sz]=some (((h43.put O (.row (vac (vaOf 5 ra op00 0 lf0 [] sl0 sl0)) .own)).put O (.row (vac (vaOf 5 ra op00 ((p:Int)+1) lf0 [] sl0 sl0)) .own)).put O (.row (vac (vaOf 5 ra r ((p:Int)+1) lf0 [] sl0 sl0)) .own)):=own_storeN p2 rfl
   rw [st3,need_some]
   have p3:=own_put p2 (vac (vaOf 5 ra r ((p:Int)+1) lf0 [] sl0 sl0))
   have cp:Chg [O] h43 (((h43.put O (.row (vac (vaOf 5 ra op00 0 lf0 [] sl0 sl0)) .own)).put O (.row (vac (vaOf 5 ra op00 ((p:Int)+1) lf0 [] sl0 sl0)) .own)).put O (.row (vac (vaOf 5 ra r ((p:Int)+1) lf0 [] sl0 sl0)) .own)):=((o43.put _).trans (p1.put _)).trans (p2.put _)
   refine ⟨_,5,r,(p:Int)+1,rfl,x43.chg1 cp hX,(c040.trans (c43.mono (by simp))).trans (cp.mono (by simp)),p3,.inr ⟨_,rfl,rfl,(d43.chg cp (fun C hC=>by simp;omega)).weak fun C hC _=>by omega⟩⟩
  | false=>
   simp only [cond_false,Bool.false_eq_true,if_false]
   rw [wrap_succ (by omega)]
   have:=ih (p+1) M h40 _ (by omega) (by omega) hd' x40 c040 o40 s40
   rw [show (((p+1:Nat):Int))=(p:Int)+1 from by omega] at this
   exact this
theorem f219_pc (hT:Toks T) (hN:100≤N) (x:PC T P X h σ st):∃ r h',f219 N (some (P,0)) h=some (r,h')∧PC T P X h' (valueS T σ).2 st∧Chg [P] h h'∧Dt h' (fun C=>h.next≤C) (valueS T σ).1 (vac r):=by
 unfold f219
 have hP:=x.P_lt
 have oR:=own_push h (vac va0)
 have cR:=chg_push h (.row (vac va0) .own)
 have eR:h.push (.row [.int .i64 0,.int .i64 0,.int .i64 0,.str [],.slice none 0 0 0,.int .i64 0,.int .i64 0,.str [],.slice none 0 0 0,.int .i64 0,.str [],.slice none 0 0 0,.str [],.slice none 0 0 0,.slice none 0 0 0] .own)=h.push (.row (vac va0) .own):=rfl
 have nR:(h.push (.row (vac va0) .own)).next=h.next+1:=rfl
 have x1:=x.add cR (A:=h.next) (Nat.le_refl _) (Nat.lt_succ_self _)
 rw [eR]
 generalize h.push (.row (vac va0) .own)=h1 at *
 dsimp only
 obtain ⟨h3,e3,c3,x3⟩:=f93_pc (N:=N) hT x1 (w:=[38]) (by decide)
 rw [e3,bind2_some]
 have oR3:=oR.chg c3 (by simp;omega)
 have c03:Chg [P] h h3:=(cR.mono (by simp)).trans c3
 have hn3:=c3.next
 have fin:∀ {h':Heap} {σ':St} (c:Chg [P] h h') (y:PC T P (h.next::X) h' σ' st) (o:h'.own h.next (vac va0)) (hn:h.next+1≤h'.next) (r:VaV) {d:D} (_:Dt h' (fun C=>h.next+1≤C) d (vac r)),PC T P X (h'.put h.next (.row (vac r) .own)) σ' st∧Chg [P] h (h'.put h.next (.row (vac r) .own))∧Dt (h'.put h.next (.row (vac r) .own)) (fun C=>h.next≤C) d (vac r)∧(h'.put h.next (.row (vac r) .own)).own h.next (vac r):=fun c y o hn r d hd=>
  ⟨(y.chg1 (o.put (vac r)) (by simp)).sub (by simp +contextual),c.put (.inr (Nat.le_refl _)) _,(hd.chg (o.put (vac r)) (fun C hC=>by simp;omega)).weak (fun C hC _=>by omega),own_put o _⟩
 simp only [valueS]
 cases hb:(optS T [38] σ).1 with
 | true=>
  simp only [cond_true,if_true]
  obtain ⟨h5,e5,c5,x5⟩:=f92_pc (N:=N) hT x3 (w:=[109,117,116]) (by decide)
  rw [e5,bind2_some]
  have oR5:=oR3.chg c5 (by simp;omega)
  have c05:=c03.trans c5
  have hn5:=c5.next
  cases hm:(optS T [109,117,116] (optS T [38] σ).2).1 with
  | true=>
   simp only [cond_true,if_true,bind2_some]
   obtain ⟨rp,h9,e9,x9,c9,d9⟩:=f221_pc (N:=N) hT hN x5
   rw [e9,bind2_some]
   have oR9:=oR5.chg c9 (by simp;omega)
   have hn9:=c9.next
   obtain ⟨f1,f2,f3,f4⟩:=fin (c05.trans c9) x9 oR9 (by omega) (vaOf 3 op00 op00 0 rp [] sl0 sl0) (dt_va (dt_op0 _ _) (dt_op0 _ _) (d9.weak fun C hC _=>by omega) (Sl.nil _ _ _) (Sl.nil _ _ _))
   have hst:h9.store (h.next,0) [(.int .i64 3),(.int .i64 0),(.int .i64 0),(.str []),(.slice none 0 0 0),(.int .i64 0),(.int .i64 0),(.str []),(.slice none 0 0 0),(.int .i64 0),(.str rp.1),(.slice rp.2.1.a rp.2.1.len rp.2.1.cap rp.2.1.sz),(.str []),(.slice none 0 0 0),(.slice none 0 0 0)]=some (h9.put h.next (.row (vac (vaOf 3 op00 op00 0 rp [] sl0 sl0)) .own)):=oR9.store rfl
   simp only [need_some,hst,jcase_inr,jcase_inl]
   exact ⟨vaOf 3 op00 op00 0 rp [] sl0 sl0,_,cellsV f4 (fun x=>some (x,_)),f1,f2,f3⟩
  | false=>
   simp only [cond_false,Bool.false_eq_true,if_false,bind2_some]
   obtain ⟨rp,h9,e9,x9,c9,d9⟩:=f221_pc (N:=N) hT hN x5
   rw [e9,bind2_some]
   have oR9:=oR5.chg c9 (by simp;omega)
   have hn9:=c9.next
   obtain ⟨f1,f2,f3,f4⟩:=fin (c05.trans c9) x9 oR9 (by omega) (vaOf 2 op00 op00 0 rp [] sl0 sl0) (dt_va (dt_op0 _ _) (dt_op0 _ _) (d9.weak fun C hC _=>by omega) (Sl.nil _ _ _) (Sl.nil _ _ _))
   have hst:h9.store (h.next,0) [(.int .i64 2),(.int .i64 0),(.int .i64 0),(.str []),(.slice none 0 0 0),(.int .i64 0),(.int .i64 0),(.str []),(.slice none 0 0 0),(.int .i64 0),(.str rp.1),(.slice rp.2.1.a rp.2.1.len rp.2.1.cap rp.2.1.sz),(.str []),(.slice none 0 0 0),(.slice none 0 0 0)]=some (h9.put h.next (.row (vac (vaOf 2 op00 op00 0 rp [] sl0 sl0)) .own)):=oR9.store rfl
   simp only [need_some,hst,jcase_inr,jcase_inl]
   exact ⟨vaOf 2 op00 op00 0 rp [] sl0 sl0,_,cellsV f4 (fun x=>some (x,_)),f1,f2,f3⟩
 | false=>
  simp only [cond_false,Bool.false_eq_true,if_false]
  obtain ⟨h13,e13,c13,x13⟩:=f93_pc (N:=N) hT x3 (w:=[33]) (by decide)
  rw [e13,bind2_some]
  have oR13:=oR3.chg c13 (by simp;omega)
  have c013:=c03.trans c13
  have hn13:=c13.next
  cases hb2:(optS T [33] (optS T [38] σ).2).1 with
  | true=>
   simp only [cond_true,if_true]
   obtain ⟨ra,h15,e15,x15,c15,d15⟩:=f208_pc (N:=N) hT hN x13
   rw [e15,bind2_some]
   have oR15:=oR13.chg c15 (by simp;omega)
   have hn15:=c15.next
   obtain ⟨f1,f2,f3,f4⟩:=fin (c013.trans c15) x15 oR15 (by omega) (vaOf 4 ra op00 0 lf0 [] sl0 sl0) (dt_va (d15.weak fun C hC _=>by omega) (dt_op0 _ _) (dt_pl0 _ _) (Sl.nil _ _ _) (Sl.nil _ _ _))
   have hst:h15.store (h.next,0) [(.int .i64 4),(.int .i64 ra.1),(.int .i64 ra.2.1),(.str ra.2.2.1),(.slice ra.2.2.2.1.a ra.2.2.2.1.len ra.2.2.2.1.cap ra.2.2.2.1.sz),(.int .i64 0),(.int .i64 0),(.str []),(.slice none 0 0 0),(.int .i64 0),(.str []),(.slice none 0 0 0),(.str []),(.slice none 0 0 0),(.slice none 0 0 0)]=some (h15.put h.next (.row (vac (vaOf 4 ra op00 0 lf0 [] sl0 sl0)) .own)):=oR15.store rfl
   simp only [need_some,hst,jcase_inr,jcase_inl]
   exact ⟨vaOf 4 ra op00 0 lf0 [] sl0 sl0,_,cellsV f4 (fun x=>some (x,_)),f1,f2,f3⟩
  | false=>
   simp only [cond_false,Bool.false_eq_true,if_false]
   generalize (optS T [33] (optS T [38] σ).2).2=τ at *
   have hcall:∃ h22,(bind2 (f222 N (some (P,0)) h13) fun (x17:Bool) h18=>
     (bif x17 then
      some ((some (P,0),(some (h.next,0)),true,()),h18)
     else
      (bind2 (f231 N (some (P,0)) [123] h18) fun (x19:Bool) h20=>
      some ((some (P,0),(some (h.next,0)),x19,()),h20))))=some ((some (P,0),some (h.next,0),(callsS T τ||behindS T [123] τ),()),h22)∧Chg [] h13 h22:=by
    obtain ⟨h18,e18,c18⟩:=f222_pc (N:=N) hT x13
    rw [e18,bind2_some]
    cases hc:callsS T τ with
    | true=>simp only [cond_true,Bool.true_or];exact ⟨_,rfl,c18⟩
    | false=>
     simp only [cond_false,Bool.false_or]
     obtain ⟨h20,e20,c20⟩:=f231_pc (N:=N) hT (x13.chg c18) [123]
     rw [e20,bind2_some]
     exact ⟨_,rfl,c18.trans c20⟩
   obtain ⟨h22,e22,c22⟩:=hcall
   rw [e22,bind2_some]
   have x22:=x13.chg c22
   have oR22:=oR13.chg c22 (by simp)
   have c022:=c013.trans (c22.mono (N:=[P]) (by simp))
   have hn22:=c22.next
   dsimp only
   cases hc:(callsS T τ||behindS T [123] τ) with
   | true=>
    simp only [cond_true,if_true]
    obtain ⟨rv,h24,e24,x24,c24,d24⟩:=f232_pc (N:=N) hT hN x22
    rw [e24,bind2_some]
    have oR24:=oR22.chg c24 (by simp;omega)
    have hn24:=c24.next
    obtain ⟨f1,f2,f3,f4⟩:=fin (c022.trans c24) x24 oR24 (by omega) rv (d24.weak fun C hC _=>by omega)
    simp only [need_some,storeV oR24,jcase_inr,jcase_inl]
    exact ⟨rv,_,cellsV f4 (fun x=>some (x,_)),f1,f2,f3⟩
   | false=>
    simp only [cond_false,Bool.false_eq_true,if_false,need_some,jcase_inl]
    obtain ⟨ra,h32,e32,x32,c32,d32⟩:=f208_pc (N:=N) hT hN x22
    rw [e32,bind2_some]
    have oR32:=oR22.chg c32 (by simp;omega)
    have d32:=d32.weak (W:=fun C=>h22.next≤C∧C<h32.next) (fun C hC hl=>⟨hC,hl⟩)
    have c032:=c022.trans c32
    have hn32:=c32.next
    have oO0:=own_push h32 (vac va0)
    have cO0:=chg_push h32 (.row (vac va0) .own)
    have eO:h32.push (.row [.int .i64 0,.int .i64 0,.int .i64 0,.str [],.slice none 0 0 0,.int .i64 0,.int .i64 0,.str [],.slice none 0 0 0,.int .i64 0,.str [],.slice none 0 0 0,.str [],.slice none 0 0 0,.slice none 0 0 0] .own)=h32.push (.row (vac va0) .own):=rfl
    have hstO:(h32.push (.row (vac va0) .own)).store (h32.next,0) [(.int .i64 1),(.int .i64 ra.1),(.int .i64 ra.2.1),(.str ra.2.2.1),(.slice ra.2.2.2.1.a ra.2.2.2.1.len ra.2.2.2.1.cap ra.2.2.2.1.sz),(.int .i64 0),(.int .i64 0),(.str []),(.slice none 0 0 0),(.int .i64 0),(.str []),(.slice none 0 0 0),(.str []),(.slice none 0 0 0),(.slice none 0 0 0)]=some ((h32.push (.row (vac va0) .own)).put h32.next (.row (vac (vaOf 1 ra op00 0 lf0 [] sl0 sl0)) .own)):=oO0.store rfl
    rw [eO,hstO,need_some]
    have oO:=own_put oO0 (vac (vaOf 1 ra op00 0 lf0 [] sl0 sl0))
    have cO:Chg [] h32 ((h32.push (.row (vac va0) .own)).put h32.next (.row (vac (vaOf 1 ra op00 0 lf0 [] sl0 sl0)) .own)):=cO0.put (.inr (Nat.le_refl _)) _
    have nO:((h32.push (.row (vac va0) .own)).put h32.next (.row (vac (vaOf 1 ra op00 0 lf0 [] sl0 sl0)) .own)).next=h32.next+1:=rfl
    have x34:=x32.add cO (A:=h32.next) (Nat.le_refl _) (Nat.lt_succ_self _)
    have oR34:=oR32.chg cO (by simp)
    have d34:=d32.chg cO (by simp)
    have c034:=c032.trans (cO.mono (N:=[P]) (by simp))
    generalize (h32.push (.row (vac va0) .own)).put h32.next (.row (vac (vaOf 1 ra op00 0 lf0 [] sl0 sl0)) .own)=h34 at *
    have oS:=own_push h34 [.str [43],.str [45],.str [60],.str [61,61]]
    have cS:=chg_push h34 (.row [.str [43],.str [45],.str [60],.str [61,61]] .own)
    have nS:(h34.push (.row [.str [43],.str [45],.str [60],.str [61,61]] .own)).next=h34.next+1:=rfl
    have x35:=x34.chg cS
    have oR35:=oR34.chg cS (by simp)
    have oO35:=oO.chg cS (by simp)
    have d35:=d34.chg cS (by simp)
    have c035:=c034.trans (cS.mono (N:=[P]) (by simp))
    generalize h34.push (.row [.str [43],.str [45],.str [60],.str [61,61]] .own)=h35 at *
    obtain ⟨h53,k,rb,op,e53,x53,c53,o53,hres⟩:=ops_loop (N:=N) hT hN (h0:=h35) (O:=h32.next) (S:=h34.next) (R:=some (h.next,0)) (ra:=ra) (by omega) (by simp) (by omega) signsL 0 N h35 _ (by simp [signsL];omega) rfl rfl x35 (Chg.refl _ _) oO35 oS
    rw [show ((0:Nat):Int)=0 from rfl] at e53 x53 hres
    rw [Int.zero_add] at x53 hres
    rw [e53]
    simp only [bind3_some,need_some]
    have hn53:=c53.next
    rw [cellsV o53]
    have oR53:=oR35.chg c53 (by simp;omega)
    have c053:Chg [P] h h53:=c035.step c53 (fun A hA hl=>by
     simp only [List.mem_cons,List.not_mem_nil,or_false] at hA ⊢;omega)
    have cZ:=oR53.put (vac (vaOf k ra rb op lf0 [] sl0 sl0))
    have x53':=x53.sub (X':=h.next::X) (by simp +contextual)
    have d53:=(d35.chg c53 (by intro C hC;simp;omega)).weak (W:=fun C=>h.next+1≤C) (fun C hC _=>by omega)
    rcases hres with ⟨e1,rfl,rfl,rfl⟩ | ⟨b,e1,rfl,db⟩
    ·obtain ⟨f1,f2,f3,f4⟩:=fin c053 x53' oR53 (by omega) (vaOf 1 ra op00 0 lf0 [] sl0 sl0) (dt_va d53 (dt_op0 _ _) (dt_pl0 _ _) (Sl.nil _ _ _) (Sl.nil _ _ _))
     rw [e1]
     exact ⟨vaOf 1 ra op00 0 lf0 [] sl0 sl0,_,finV oR53 (vaOf 1 ra op00 0 lf0 [] sl0 sl0) (fun x h=>some (x,h)),f1,f2,f3⟩
    ·obtain ⟨f1,f2,f3,f4⟩:=fin c053 x53' oR53 (by omega) (vaOf 5 ra rb op lf0 [] sl0 sl0) (dt_va d53 (db.weak fun C hC _=>by omega) (dt_pl0 _ _) (Sl.nil _ _ _) (Sl.nil _ _ _))
     rw [e1]
     exact ⟨vaOf 5 ra rb op lf0 [] sl0 sl0,_,finV oR53 (vaOf 5 ra rb op lf0 [] sl0 sl0) (fun x h=>some (x,h)),f1,f2,f3⟩
end
end Go.Proofs.YtkcjphhjmlienaaGreatDoor.Qp
