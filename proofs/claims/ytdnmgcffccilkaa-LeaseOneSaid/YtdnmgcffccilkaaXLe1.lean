import Derived.Test.YtdnmgcffccilkaaAi2
import Derived.Test.YtdnmgcffccilkaaProg
import Derived.Test.YtdnmgcffccilkaaAi3
/- Functions of the program as plain functions, and what they come to; part 1. -/
set_option linter.unusedVariables false
set_option linter.unusedSimpArgs false
set_option maxRecDepth 100000
open Go Go.Proofs.Ytdnmgcffccilkaa.Ai Go.Proofs
namespace Go.Proofs.Ytdnmgcffccilkaa.Le
noncomputable def E : Env := envOf Try.prog [42] noNative
theorem envOK : EnvOK E Try.prog := envOf_ok (by kernel_rfl) (by kernel_rfl)
theorem hmix : Try.prog.follows .mixedOrders = true := by kernel_rfl
/- usufruct/fault.New -/
noncomputable def f19 (N : Nat) (a0 : Int) (a1 : Int) (h : Heap) : Option (AV × Heap) :=
  let x1 : Bool := eqInt a0 0
  (bif x1 then
   some (AV.nilIface, h)
  else
   let h2 : Heap := h.push (.row [(.int .i64 a0), (.int .i64 a1), (AV.iface 50 (.int .i64 a0))] .own)
   some ((AV.iface 60 (.ptr (some (h.next, 0)))), h2))
noncomputable def ann19 : Ann := .n
theorem f19_ok (N : Nat) : FnOK Try.prog 19 [(.one (.int .i64)), (.one (.int .i64))] (.val (.one .any)) (fun x h => f19 N x.1 x.2.1 h) :=
  runK_ok envOK hmix noCalls_ok (N := N) (x := ann19) (fn := Try.f19) (c := Try.f19.body.getD .skip) (by kernel_rfl) (by kernel_rfl) (by kernel_rfl) (by kernel_rfl) (fun _ _ => by kernel_rfl)

/- usufruct/lease.New -/
noncomputable def f8 (N : Nat) (a0 : Int) (a1 : Int) (h : Heap) : Option ((Option (Nat × Nat) × AV × Unit) × Heap) :=
  let x1 : Bool := ltInt a0 0
  (bif x1 then
   (bind2 (f19 N 2 0 h) fun (x2 : AV) h3 =>
   some ((none, x2, ()), h3))
  else
   let x4 : Bool := ltInt 64 a0
   (bif x4 then
    (bind2 (f19 N 2 0 h) fun (x5 : AV) h6 =>
    some ((none, x5, ()), h6))
   else
    let x7 : Bool := ltInt a1 1
    (bif x7 then
     (bind2 (f19 N 2 0 h) fun (x8 : AV) h9 =>
     some ((none, x8, ()), h9))
    else
     let x10 : Bool := ltInt 1000 a1
     (bif x10 then
      (bind2 (f19 N 2 0 h) fun (x11 : AV) h12 =>
      some ((none, x11, ()), h12))
     else
      (bindT (.val (.one .slice)) (makeSliceA E 51 (.int .i64 a0) (.int .i64 a0) h) fun (x13 : SL) h14 =>
      let h15 : Heap := h14.push (.row [(.int .i64 a1), (.int .i64 0), (.slice x13.a x13.len x13.cap x13.sz)] .own)
      some (((some (h14.next, 0)), AV.nilIface, ()), h15))))))
noncomputable def ann8 : Ann := .n
theorem f8_ok (N : Nat) : FnOK Try.prog 8 [(.one (.int .i64)), (.one (.int .i64))] (.tup [(.one .ptr), (.one .any)]) (fun x h => f8 N x.1 x.2.1 h) :=
  runK_ok envOK hmix (addCall_ok (f19_ok N) noCalls_ok) (N := N) (x := ann8) (fn := Try.f8) (c := Try.f8.body.getD .skip) (by kernel_rfl) (by kernel_rfl) (by kernel_rfl) (by kernel_rfl) (fun _ _ => by kernel_rfl)

/- (*usufruct/lease.Table).at -/
noncomputable def f20 (N : Nat) (a0 : Option (Nat × Nat)) (a1 : Int) (h : Heap) : Option (Option (Nat × Nat) × Heap) :=
  (bif a0.isNone then
   some (none, h)
  else
   let x1 : Bool := ltInt a1 0
   (bif x1 then
    some (none, h)
   else
    (need a0 fun q2 =>
    (bindV (.val (.one .slice)) (h.cell (q2.1, q2.2 + 2)) fun (x3 : SL) =>
    let x4 : Bool := leInt (Int.ofNat x3.len) a1
    (bif x4 then
     some (none, h)
    else
     (need a0 fun q5 =>
     (bindV (.val (.one .slice)) (h.cell (q5.1, q5.2 + 2)) fun (x6 : SL) =>
     (ixK x6.a x6.len a1 8 fun q7 =>
     some ((some q7), h)))))))))
noncomputable def ann20 : Ann := .n
theorem f20_ok (N : Nat) : FnOK Try.prog 20 [(.one .ptr), (.one (.int .i64))] (.val (.one .ptr)) (fun x h => f20 N x.1 x.2.1 h) :=
  runK_ok envOK hmix noCalls_ok (N := N) (x := ann20) (fn := Try.f20) (c := Try.f20.body.getD .skip) (by kernel_rfl) (by kernel_rfl) (by kernel_rfl) (by kernel_rfl) (fun _ _ => by kernel_rfl)

/- (*usufruct/lease.Table).Of -/
noncomputable def f14 (N : Nat) (a0 : Option (Nat × Nat)) (a1 : Int) (h : Heap) : Option (((Int × Int × Int × Int × Unit) × Bool × Unit) × Heap) :=
  let h1 : Heap := h.push (.row [(.int .i64 0), (.int .i64 0), (.int .i64 0), (.int .i64 0)] .own)
  (bind2 (f20 N a0 a1 h1) fun (x2 : Option (Nat × Nat)) h3 =>
  (bif x2.isNone then
   (need (h3.store (h.next, 0) [(.int .i64 0), (.int .i64 0), (.int .i64 0), (.int .i64 0)]) fun h4 =>
   (bindV (.val (.agg [(.int .i64), (.int .i64), (.int .i64), (.int .i64)])) (h4.cells (h.next, 0) 4) fun (x5 : (Int × Int × Int × Int × Unit)) =>
   some (((x5.1, x5.2.1, x5.2.2.1, x5.2.2.2.1, ()), false, ()), h4)))
  else
   (need x2 fun q6 =>
   (bindV (.val (.one .bool)) (h3.cell (q6.1, q6.2 + 0)) fun (x7 : Bool) =>
   let x8 : Bool := !x7
   (bif x8 then
    (need (h3.store (h.next, 0) [(.int .i64 0), (.int .i64 0), (.int .i64 0), (.int .i64 0)]) fun h9 =>
    (bindV (.val (.agg [(.int .i64), (.int .i64), (.int .i64), (.int .i64)])) (h9.cells (h.next, 0) 4) fun (x10 : (Int × Int × Int × Int × Unit)) =>
    some (((x10.1, x10.2.1, x10.2.2.1, x10.2.2.2.1, ()), false, ()), h9)))
   else
    (need x2 fun q11 =>
    (bindV (.val (.agg [(.int .i64), (.int .i64), (.int .i64), (.int .i64)])) (h3.cells (q11.1, q11.2 + 2) 4) fun (x12 : (Int × Int × Int × Int × Unit)) =>
    (need (h3.store (h.next, 0) [(.int .i64 x12.1), (.int .i64 x12.2.1), (.int .i64 x12.2.2.1), (.int .i64 x12.2.2.2.1)]) fun h13 =>
    (bindV (.val (.agg [(.int .i64), (.int .i64), (.int .i64), (.int .i64)])) (h13.cells (h.next, 0) 4) fun (x14 : (Int × Int × Int × Int × Unit)) =>
    some (((x14.1, x14.2.1, x14.2.2.1, x14.2.2.2.1, ()), true, ()), h13))))))))))
noncomputable def ann14 : Ann := .n
theorem f14_ok (N : Nat) : FnOK Try.prog 14 [(.one .ptr), (.one (.int .i64))] (.tup [(.agg [(.int .i64), (.int .i64), (.int .i64), (.int .i64)]), (.one .bool)]) (fun x h => f14 N x.1 x.2.1 h) :=
  runK_ok envOK hmix (addCall_ok (f20_ok N) noCalls_ok) (N := N) (x := ann14) (fn := Try.f14) (c := Try.f14.body.getD .skip) (by kernel_rfl) (by kernel_rfl) (by kernel_rfl) (by kernel_rfl) (fun _ _ => by kernel_rfl)

/- (*usufruct/lease.Table).Held -/
noncomputable def f15_l1_b (N : Nat) (go : Int → Option (Nat × Nat) → Bool → SL → Int → Int → Heap → Option (Out × (Option (Nat × Nat) × Bool × Unit) × Heap)) (v1 : Int) (v4 : Option (Nat × Nat)) (v5 : Bool) (v13 : SL) (v14 : Int) (v15 : Int) (h : Heap) : Option (Out × (Option (Nat × Nat) × Bool × Unit) × Heap) :=
  let x5 : Bool := ltInt v15 v14
  (bif x5 then
   (ixK v13.a v13.len v15 8 fun q6 =>
   (bindV (.val (.agg [.bool, .bool, (.int .i64), (.int .i64), (.int .i64), (.int .i64), (.int .i64), (.int .i64)])) (h.cells q6 8) fun (x7 : (Bool × Bool × Int × Int × Int × Int × Int × Int × Unit)) =>
   let h8 : Heap := h.push (.row [(.bool false), (.bool false), (.int .i64 0), (.int .i64 0), (.int .i64 0), (.int .i64 0), (.int .i64 0), (.int .i64 0)] .own)
   (need (h8.store (h.next, 0) [(.bool x7.1), (.bool x7.2.1), (.int .i64 x7.2.2.1), (.int .i64 x7.2.2.2.1), (.int .i64 x7.2.2.2.2.1), (.int .i64 x7.2.2.2.2.2.1), (.int .i64 x7.2.2.2.2.2.2.1), (.int .i64 x7.2.2.2.2.2.2.2.1)]) fun h9 =>
   (bindV (.val (.one .bool)) (h9.cell ((h.next, 0).1, (h.next, 0).2 + 0)) fun (x10 : Bool) =>
   (bif x10 then
    (bindV (.val (.one (.int .i64))) (h9.cell (((h.next, 0).1, (h.next, 0).2 + 2).1, ((h.next, 0).1, (h.next, 0).2 + 2).2 + 1)) fun (x11 : Int) =>
    let x12 : Bool := eqInt x11 v1
    (bif x12 then
     (bindV (.val (.agg [(.int .i64), (.int .i64), (.int .i64), (.int .i64)])) (h9.cells ((h.next, 0).1, (h.next, 0).2 + 2) 4) fun (x13 : (Int × Int × Int × Int × Unit)) =>
     (need v4 fun q15 =>
     (need (h9.store q15 [(.int .i64 x13.1), (.int .i64 x13.2.1), (.int .i64 x13.2.2.1), (.int .i64 x13.2.2.2.1)]) fun h14 =>
     some (Out.ret, (v4, true, ()), h14))))
    else
     let x16 : Int := wrapA .i64 (v15 + 1)
     go v1 v4 v5 v13 v14 x16 h9))
   else
    let x17 : Int := wrapA .i64 (v15 + 1)
    go v1 v4 v5 v13 v14 x17 h9)))))
  else
   some ((Out.exit 0), (v4, v5, ()), h))
noncomputable def f15_l1 (N M : Nat) (v1 : Int) (v4 : Option (Nat × Nat)) (v5 : Bool) (v13 : SL) (v14 : Int) (v15 : Int) (h : Heap) : Option (Out × (Option (Nat × Nat) × Bool × Unit) × Heap) := iter (fun go s h => f15_l1_b N (fun v1 v4 v5 v13 v14 v15 h => go (v1, v4, v5, v13, v14, v15, ()) h) s.1 s.2.1 s.2.2.1 s.2.2.2.1 s.2.2.2.2.1 s.2.2.2.2.2.1 h) M (v1, v4, v5, v13, v14, v15, ()) h
theorem f15_l1_succ (N M : Nat) (v1 : Int) (v4 : Option (Nat × Nat)) (v5 : Bool) (v13 : SL) (v14 : Int) (v15 : Int) (h : Heap) : f15_l1 N (M + 1) v1 v4 v5 v13 v14 v15 h = f15_l1_b N (f15_l1 N M) v1 v4 v5 v13 v14 v15 h := rfl
theorem f15_l1_zero (N : Nat) (v1 : Int) (v4 : Option (Nat × Nat)) (v5 : Bool) (v13 : SL) (v14 : Int) (v15 : Int) (h : Heap) : f15_l1 N 0 v1 v4 v5 v13 v14 v15 h = none := rfl
noncomputable def f15 (N : Nat) (a0 : Option (Nat × Nat)) (a1 : Int) (h : Heap) : Option (((Int × Int × Int × Int × Unit) × Bool × Unit) × Heap) :=
  let h1 : Heap := h.push (.row [(.int .i64 0), (.int .i64 0), (.int .i64 0), (.int .i64 0)] .own)
  let x2 : Bool := (!a0.isNone)
  (bif x2 then
   (need a0 fun q3 =>
   (bindV (.val (.one .slice)) (h1.cell (q3.1, q3.2 + 2)) fun (x4 : SL) =>
   (bind3 (f15_l1 N N a1 (some (h.next, 0)) false x4 (Int.ofNat x4.len) 0 h1) fun o18 (j19 : (Option (Nat × Nat) × Bool × Unit)) h20 =>
   (bif eqOut o18 (.exit 0) then
    (need j19.1 fun q22 =>
    (need (h20.store q22 [(.int .i64 0), (.int .i64 0), (.int .i64 0), (.int .i64 0)]) fun h21 =>
    (need j19.1 fun q23 =>
    (bindV (.val (.agg [(.int .i64), (.int .i64), (.int .i64), (.int .i64)])) (h21.cells q23 4) fun (x24 : (Int × Int × Int × Int × Unit)) =>
    some (((x24.1, x24.2.1, x24.2.2.1, x24.2.2.2.1, ()), false, ()), h21)))))
   else
    (need j19.1 fun q25 =>
    (bindV (.val (.agg [(.int .i64), (.int .i64), (.int .i64), (.int .i64)])) (h20.cells q25 4) fun (x26 : (Int × Int × Int × Int × Unit)) =>
    some (((x26.1, x26.2.1, x26.2.2.1, x26.2.2.2.1, ()), j19.2.1, ()), h20)))))))
  else
   (need (h1.store (h.next, 0) [(.int .i64 0), (.int .i64 0), (.int .i64 0), (.int .i64 0)]) fun h27 =>
   (bindV (.val (.agg [(.int .i64), (.int .i64), (.int .i64), (.int .i64)])) (h27.cells (h.next, 0) 4) fun (x28 : (Int × Int × Int × Int × Unit)) =>
   some (((x28.1, x28.2.1, x28.2.2.1, x28.2.2.2.1, ()), false, ()), h27))))
noncomputable def ann15 : Ann := (.two .n (.two (.two .n (.two (.two .n (.two (.loop [(1, (.one (.int .i64))), (4, (.one .ptr)), (5, (.one .bool)), (13, (.one .slice)), (14, (.one (.int .i64))), (15, (.one (.int .i64)))] [(.exit 0), .ret] [(4, (.one .ptr)), (5, (.one .bool))] .n) .n)) .n)) .n))
theorem f15_ok (N : Nat) : FnOK Try.prog 15 [(.one .ptr), (.one (.int .i64))] (.tup [(.agg [(.int .i64), (.int .i64), (.int .i64), (.int .i64)]), (.one .bool)]) (fun x h => f15 N x.1 x.2.1 h) :=
  runK_ok envOK hmix noCalls_ok (N := N) (x := ann15) (fn := Try.f15) (c := Try.f15.body.getD .skip) (by kernel_rfl) (by kernel_rfl) (by kernel_rfl) (by kernel_rfl) (fun _ _ => by kernel_rfl)

/- usufruct/lease.timed -/
noncomputable def f21 (N : Nat) (a0 : Int) (h : Heap) : Option (Bool × Heap) :=
  let x1 : Bool := leInt 0 a0
  (bif x1 then
   let x2 : Bool := leInt a0 1099511627776
   some (x2, h)
  else
   some (false, h))
noncomputable def ann21 : Ann := .n
theorem f21_ok (N : Nat) : FnOK Try.prog 21 [(.one (.int .i64))] (.val (.one .bool)) (fun x h => f21 N x.1 h) :=
  runK_ok envOK hmix noCalls_ok (N := N) (x := ann21) (fn := Try.f21) (c := Try.f21.body.getD .skip) (by kernel_rfl) (by kernel_rfl) (by kernel_rfl) (by kernel_rfl) (fun _ _ => by kernel_rfl)

/- (*usufruct/lease.Table).Free -/
noncomputable def f11 (N : Nat) (a0 : Option (Nat × Nat)) (a1 : Int) (a2 : Int) (h : Heap) : Option (Bool × Heap) :=
  (bind2 (f20 N a0 a1 h) fun (x1 : Option (Nat × Nat)) h2 =>
  let x3 : Bool := (!x1.isNone)
  (bif x3 then
   (need x1 fun q4 =>
   (bindV (.val (.one .bool)) (h2.cell (q4.1, q4.2 + 0)) fun (x5 : Bool) =>
   let x6 : Bool := !x5
   (bif x6 then
    (need x1 fun q7 =>
    (bindV (.val (.one .bool)) (h2.cell (q7.1, q7.2 + 1)) fun (x8 : Bool) =>
    let x9 : Bool := !x8
    (bif x9 then
     (need x1 fun q10 =>
     (bindV (.val (.one (.int .i64))) (h2.cell (q10.1, q10.2 + 7)) fun (x11 : Int) =>
     let x12 : Bool := leInt x11 a2
     some (x12, h2)))
    else
     some (false, h2))))
   else
    some (false, h2))))
  else
   some (false, h2)))
noncomputable def ann11 : Ann := .n
theorem f11_ok (N : Nat) : FnOK Try.prog 11 [(.one .ptr), (.one (.int .i64)), (.one (.int .i64))] (.val (.one .bool)) (fun x h => f11 N x.1 x.2.1 x.2.2.1 h) :=
  runK_ok envOK hmix (addCall_ok (f20_ok N) noCalls_ok) (N := N) (x := ann11) (fn := Try.f11) (c := Try.f11.body.getD .skip) (by kernel_rfl) (by kernel_rfl) (by kernel_rfl) (by kernel_rfl) (fun _ _ => by kernel_rfl)

/- (*usufruct/lease.Table).Give -/
noncomputable def f9 (N : Nat) (a0 : Option (Nat × Nat)) (a1 : Int) (a2 : Int) (a3 : Int) (a4 : Int) (h : Heap) : Option (AV × Heap) :=
  (bind2 (f20 N a0 a1 h) fun (x1 : Option (Nat × Nat)) h2 =>
  (bind2 (f15 N a0 a2 h2) fun (x3 : ((Int × Int × Int × Int × Unit) × Bool × Unit)) h4 =>
  let h5 : Heap := h4.push (.row [(.int .i64 0), (.int .i64 0), (.int .i64 0), (.int .i64 0)] .own)
  (need (h5.store (h4.next, 0) [(.int .i64 x3.1.1), (.int .i64 x3.1.2.1), (.int .i64 x3.1.2.2.1), (.int .i64 x3.1.2.2.2.1)]) fun h6 =>
  (bif a0.isNone then
   (bind2 (f19 N 1 0 h6) fun (x7 : AV) h8 =>
   some (x7, h8))
  else
   (bif x1.isNone then
    (bind2 (f19 N 2 0 h6) fun (x9 : AV) h10 =>
    some (x9, h10))
   else
    let x11 : Bool := ltInt a2 1
    (bif x11 then
     (bind2 (f19 N 2 0 h6) fun (x12 : AV) h13 =>
     some (x12, h13))
    else
     let x14 : Bool := leInt 65 a2
     (bif x14 then
      (bind2 (f19 N 2 0 h6) fun (x15 : AV) h16 =>
      some (x15, h16))
     else
      let x17 : Bool := ltInt a3 1
      (bif x17 then
       (bind2 (f19 N 2 0 h6) fun (x18 : AV) h19 =>
       some (x18, h19))
      else
       let x20 : Bool := ltInt 1099511627776 a3
       (bif x20 then
        (bind2 (f19 N 2 0 h6) fun (x21 : AV) h22 =>
        some (x21, h22))
       else
        (bind2 (f21 N a4 h6) fun (x23 : Bool) h24 =>
        let x25 : Bool := !x23
        (bif x25 then
         (bind2 (f19 N 2 0 h24) fun (x26 : AV) h27 =>
         some (x26, h27))
        else
         (bind2 (f11 N a0 a1 a4 h24) fun (x28 : Bool) h29 =>
         let x30 : Bool := !x28
         (bif x30 then
          (bind2 (f19 N 13 0 h29) fun (x31 : AV) h32 =>
          some (x31, h32))
         else
          (bif x3.2.1 then
           (bind2 (f19 N 13 0 h29) fun (x33 : AV) h34 =>
           some (x33, h34))
          else
           (need a0 fun q35 =>
           (bindV (.val (.one (.int .i64))) (h29.cell (q35.1, q35.2 + 1)) fun (x36 : Int) =>
           let x37 : Bool := leInt a3 x36
           (bif x37 then
            (bind2 (f19 N 14 0 h29) fun (x38 : AV) h39 =>
            some (x38, h39))
           else
            (need a0 fun q40 =>
            (need (h29.store (q40.1, q40.2 + 1) [(.int .i64 a3)]) fun h41 =>
            (need x1 fun q42 =>
            (need (h41.store (q42.1, q42.2 + 0) [(.bool true)]) fun h43 =>
            (need a0 fun q44 =>
            (bindV (.val (.one (.int .i64))) (h43.cell (q44.1, q44.2 + 0)) fun (x45 : Int) =>
            let x46 : Int := wrapA .i64 (a4 + x45)
            (need x1 fun q47 =>
            (need (h43.store (q47.1, q47.2 + 2) [(.int .i64 a1), (.int .i64 a2), (.int .i64 a3), (.int .i64 x46)]) fun h48 =>
            some (AV.nilIface, h48))))))))))))))))))))))))))
noncomputable def ann9 : Ann := .n
theorem f9_ok (N : Nat) : FnOK Try.prog 9 [(.one .ptr), (.one (.int .i64)), (.one (.int .i64)), (.one (.int .i64)), (.one (.int .i64))] (.val (.one .any)) (fun x h => f9 N x.1 x.2.1 x.2.2.1 x.2.2.2.1 x.2.2.2.2.1 h) :=
  runK_ok envOK hmix (addCall_ok (f21_ok N) (addCall_ok (f20_ok N) (addCall_ok (f19_ok N) (addCall_ok (f15_ok N) (addCall_ok (f11_ok N) noCalls_ok))))) (N := N) (x := ann9) (fn := Try.f9) (c := Try.f9.body.getD .skip) (by kernel_rfl) (by kernel_rfl) (by kernel_rfl) (by kernel_rfl) (fun _ _ => by kernel_rfl)

/- (*usufruct/lease.Table).Beat -/
noncomputable def f10 (N : Nat) (a0 : Option (Nat × Nat)) (a1 : Int) (a2 : Int) (a3 : Int) (h : Heap) : Option (AV × Heap) :=
  (bind2 (f20 N a0 a1 h) fun (x1 : Option (Nat × Nat)) h2 =>
  (bif a0.isNone then
   (bind2 (f19 N 1 0 h2) fun (x3 : AV) h4 =>
   some (x3, h4))
  else
   (bif x1.isNone then
    (bind2 (f19 N 2 0 h2) fun (x5 : AV) h6 =>
    some (x5, h6))
   else
    (bind2 (f21 N a3 h2) fun (x7 : Bool) h8 =>
    let x9 : Bool := !x7
    (bif x9 then
     (bind2 (f19 N 2 0 h8) fun (x10 : AV) h11 =>
     some (x10, h11))
    else
     (need x1 fun q12 =>
     (bindV (.val (.one .bool)) (h8.cell (q12.1, q12.2 + 0)) fun (x13 : Bool) =>
     let x14 : Bool := !x13
     (bif x14 then
      (bind2 (f19 N 10 0 h8) fun (x15 : AV) h16 =>
      some (x15, h16))
     else
      (need x1 fun q17 =>
      (bindV (.val (.one (.int .i64))) (h8.cell ((q17.1, q17.2 + 2).1, (q17.1, q17.2 + 2).2 + 2)) fun (x18 : Int) =>
      let x19 : Bool := !eqInt x18 a2
      (bif x19 then
       (bind2 (f19 N 14 0 h8) fun (x20 : AV) h21 =>
       some (x20, h21))
      else
       (need x1 fun q22 =>
       (bindV (.val (.one (.int .i64))) (h8.cell ((q22.1, q22.2 + 2).1, (q22.1, q22.2 + 2).2 + 3)) fun (x23 : Int) =>
       (need a0 fun q24 =>
       (bindV (.val (.one (.int .i64))) (h8.cell (q24.1, q24.2 + 0)) fun (x25 : Int) =>
       let x26 : Int := wrapA .i64 (a3 + x25)
       let x27 : Int := (bif ltInt x23 x26 then x26 else x23)
       (need x1 fun q28 =>
       (need (h8.store ((q28.1, q28.2 + 2).1, (q28.1, q28.2 + 2).2 + 3) [(.int .i64 x27)]) fun h29 =>
       some (AV.nilIface, h29))))))))))))))))))
noncomputable def ann10 : Ann := .n
theorem f10_ok (N : Nat) : FnOK Try.prog 10 [(.one .ptr), (.one (.int .i64)), (.one (.int .i64)), (.one (.int .i64))] (.val (.one .any)) (fun x h => f10 N x.1 x.2.1 x.2.2.1 x.2.2.2.1 h) :=
  runK_ok envOK hmix (addCall_ok (f21_ok N) (addCall_ok (f20_ok N) (addCall_ok (f19_ok N) noCalls_ok))) (N := N) (x := ann10) (fn := Try.f10) (c := Try.f10.body.getD .skip) (by kernel_rfl) (by kernel_rfl) (by kernel_rfl) (by kernel_rfl) (fun _ _ => by kernel_rfl)

/- usufruct/lease.Back -/
noncomputable def f6 (N : Nat) (a0 : Int) (h : Heap) : Option (Int × Heap) :=
  let x1 : Bool := ltInt a0 1
  (bif x1 then
   some (0, h)
  else
   let x2 : Bool := eqInt a0 3
   (bif x2 then
    let x3 : Int := wrapA .i64 (1 * 2)
    let x4 : Int := wrapA .i64 (x3 * 2)
    let x5 : Int := (bif ltInt 8 x4 then 8 else x4)
    some (x5, h)
   else
    let x6 : Bool := eqInt a0 2
    (bif x6 then
     let x7 : Int := wrapA .i64 (1 * 2)
     let x8 : Int := (bif ltInt 8 x7 then 8 else x7)
     some (x8, h)
    else
     let x9 : Bool := eqInt a0 1
     (bif x9 then
      let x10 : Int := (bif ltInt 8 1 then 8 else 1)
      some (x10, h)
     else
      let x11 : Int := wrapA .i64 (1 * 2)
      let x12 : Int := wrapA .i64 (x11 * 2)
      let x13 : Int := wrapA .i64 (x12 * 2)
      let x14 : Int := (bif ltInt 8 x13 then 8 else x13)
      some (x14, h)))))
noncomputable def ann6 : Ann := .n
theorem f6_ok (N : Nat) : FnOK Try.prog 6 [(.one (.int .i64))] (.val (.one (.int .i64))) (fun x h => f6 N x.1 h) :=
  runK_ok envOK hmix noCalls_ok (N := N) (x := ann6) (fn := Try.f6) (c := Try.f6.body.getD .skip) (by kernel_rfl) (by kernel_rfl) (by kernel_rfl) (by kernel_rfl) (fun _ _ => by kernel_rfl)

/- (*usufruct/lease.Table).Over -/
noncomputable def f12_l1_b (N : Nat) (go : Option (Nat × Nat) → Int → SL → Int → Int → Heap → Option (Out × (SL × Unit) × Heap)) (v0 : Option (Nat × Nat)) (v1 : Int) (v5 : SL) (v19 : Int) (v20 : Int) (h : Heap) : Option (Out × (SL × Unit) × Heap) :=
  let x6 : Bool := ltInt v20 v19
  (bif x6 then
   (need v0 fun q7 =>
   (bindV (.val (.one .slice)) (h.cell (q7.1, q7.2 + 2)) fun (x8 : SL) =>
   (ixK x8.a x8.len v20 8 fun q9 =>
   (bindV (.val (.one .bool)) (h.cell (q9.1, q9.2 + 0)) fun (x10 : Bool) =>
   let x11 : Bool := !x10
   (bif x11 then
    let x12 : Int := wrapA .i64 (v20 + 1)
    go v0 v1 v5 v19 x12 h
   else
    (bindV (.val (.one (.int .i64))) (h.cell ((q9.1, q9.2 + 2).1, (q9.1, q9.2 + 2).2 + 3)) fun (x13 : Int) =>
    let x14 : Bool := leInt v1 x13
    (bif x14 then
     let x15 : Int := wrapA .i64 (v20 + 1)
     go v0 v1 v5 v19 x15 h
    else
     (need (h.store (q9.1, q9.2 + 0) [(.bool false)]) fun h16 =>
     (need (h16.store (q9.1, q9.2 + 2) [(.int .i64 0), (.int .i64 0), (.int .i64 0), (.int .i64 0)]) fun h17 =>
     (bindV (.val (.one (.int .i64))) (h17.cell (q9.1, q9.2 + 6)) fun (x18 : Int) =>
     let x19 : Int := wrapA .i64 (x18 + 1)
     let x20 : Int := (bif ltInt 8 x19 then 8 else x19)
     (need (h17.store (q9.1, q9.2 + 6) [(.int .i64 x20)]) fun h21 =>
     (bindV (.val (.one (.int .i64))) (h21.cell (q9.1, q9.2 + 6)) fun (x22 : Int) =>
     (bind2 (f6 N x22 h21) fun (x23 : Int) h24 =>
     let x25 : Int := wrapA .i64 (v1 + x23)
     (need (h24.store (q9.1, q9.2 + 7) [(.int .i64 x25)]) fun h26 =>
     let h27 : Heap := h26.push (.row [(.int .i64 v20)] .own)
     (bindT (.val (.one .slice)) (appendA E 34 34 (.slice v5.a v5.len v5.cap v5.sz) (.slice (some (h26.next, 0)) 1 1 1) h27) fun (x28 : SL) h29 =>
     let x30 : Int := wrapA .i64 (v20 + 1)
     go v0 v1 x28 v19 x30 h29)))))))))))))))
  else
   some ((Out.exit 0), (v5, ()), h))
noncomputable def f12_l1 (N M : Nat) (v0 : Option (Nat × Nat)) (v1 : Int) (v5 : SL) (v19 : Int) (v20 : Int) (h : Heap) : Option (Out × (SL × Unit) × Heap) := iter (fun go s h => f12_l1_b N (fun v0 v1 v5 v19 v20 h => go (v0, v1, v5, v19, v20, ()) h) s.1 s.2.1 s.2.2.1 s.2.2.2.1 s.2.2.2.2.1 h) M (v0, v1, v5, v19, v20, ()) h
theorem f12_l1_succ (N M : Nat) (v0 : Option (Nat × Nat)) (v1 : Int) (v5 : SL) (v19 : Int) (v20 : Int) (h : Heap) : f12_l1 N (M + 1) v0 v1 v5 v19 v20 h = f12_l1_b N (f12_l1 N M) v0 v1 v5 v19 v20 h := rfl
theorem f12_l1_zero (N : Nat) (v0 : Option (Nat × Nat)) (v1 : Int) (v5 : SL) (v19 : Int) (v20 : Int) (h : Heap) : f12_l1 N 0 v0 v1 v5 v19 v20 h = none := rfl
noncomputable def f12 (N : Nat) (a0 : Option (Nat × Nat)) (a1 : Int) (h : Heap) : Option (SL × Heap) :=
  (bif a0.isNone then
   some (⟨none, 0, 0, 0⟩, h)
  else
   (bind2 (f21 N a1 h) fun (x1 : Bool) h2 =>
   let x3 : Bool := !x1
   (bif x3 then
    some (⟨none, 0, 0, 0⟩, h2)
   else
    (need a0 fun q4 =>
    (bindV (.val (.one .slice)) (h2.cell (q4.1, q4.2 + 2)) fun (x5 : SL) =>
    (bind3 (f12_l1 N N a0 a1 ⟨none, 0, 0, 0⟩ (Int.ofNat x5.len) 0 h2) fun _ (j32 : (SL × Unit)) h33 =>
    some (j32.1, h33)))))))
noncomputable def ann12 : Ann := (.two .n (.two .n (.two .n (.two (.two .n (.two (.loop [(0, (.one .ptr)), (1, (.one (.int .i64))), (5, (.one .slice)), (19, (.one (.int .i64))), (20, (.one (.int .i64)))] [(.exit 0)] [(5, (.one .slice))] .n) .n)) .n))))
theorem f12_ok (N : Nat) : FnOK Try.prog 12 [(.one .ptr), (.one (.int .i64))] (.val (.one .slice)) (fun x h => f12 N x.1 x.2.1 h) :=
  runK_ok envOK hmix (addCall_ok (f21_ok N) (addCall_ok (f6_ok N) noCalls_ok)) (N := N) (x := ann12) (fn := Try.f12) (c := Try.f12.body.getD .skip) (by kernel_rfl) (by kernel_rfl) (by kernel_rfl) (by kernel_rfl) (fun _ _ => by kernel_rfl)

/- (*usufruct/lease.Table).End -/
noncomputable def f16 (N : Nat) (a0 : Option (Nat × Nat)) (a1 : Int) (h : Heap) : Option (AV × Heap) :=
  (bind2 (f20 N a0 a1 h) fun (x1 : Option (Nat × Nat)) h2 =>
  (bif a0.isNone then
   (bind2 (f19 N 1 0 h2) fun (x3 : AV) h4 =>
   some (x3, h4))
  else
   (bif x1.isNone then
    (bind2 (f19 N 2 0 h2) fun (x5 : AV) h6 =>
    some (x5, h6))
   else
    (need x1 fun q7 =>
    (bindV (.val (.one .bool)) (h2.cell (q7.1, q7.2 + 1)) fun (x8 : Bool) =>
    (bif x8 then
     (bind2 (f19 N 13 0 h2) fun (x9 : AV) h10 =>
     some (x9, h10))
    else
     (need x1 fun q11 =>
     (need (h2.store (q11.1, q11.2 + 0) [(.bool false)]) fun h12 =>
     (need x1 fun q13 =>
     (need (h12.store (q13.1, q13.2 + 1) [(.bool true)]) fun h14 =>
     (need x1 fun q15 =>
     (need (h14.store (q15.1, q15.2 + 2) [(.int .i64 0), (.int .i64 0), (.int .i64 0), (.int .i64 0)]) fun h16 =>
     some (AV.nilIface, h16)))))))))))))
noncomputable def ann16 : Ann := .n
theorem f16_ok (N : Nat) : FnOK Try.prog 16 [(.one .ptr), (.one (.int .i64))] (.val (.one .any)) (fun x h => f16 N x.1 x.2.1 h) :=
  runK_ok envOK hmix (addCall_ok (f20_ok N) (addCall_ok (f19_ok N) noCalls_ok)) (N := N) (x := ann16) (fn := Try.f16) (c := Try.f16.body.getD .skip) (by kernel_rfl) (by kernel_rfl) (by kernel_rfl) (by kernel_rfl) (fun _ _ => by kernel_rfl)

/- usufruct/usufructlaw27.told -/
noncomputable def f7 (N : Nat) (h : Heap) : Option (Bool × Heap) := some (true, h)
theorem f7_ok (N : Nat) : FnOK Try.prog 7 [] (.val (.one .bool)) (fun _ h => f7 N h) :=
  fnOK_told envOK (fn := Try.f7) (by kernel_rfl) (by kernel_rfl) (calls_true envOK hmix noNative_ok (fn := Try.f7) (by kernel_rfl) (by kernel_rfl) (args := []) VRs.nil (n := 1000) (by kernel_rfl))

/- usufruct/usufructlaw27.LeaseOne -/
noncomputable def f5_l2_b (N : Nat) (go : SL → Bool → Option (Nat × Nat) → Int → Option (Nat × Nat) → Int → Option (Nat × Nat) → Int → Heap → Option (Out × (SL × Bool × Option (Nat × Nat) × Int × Option (Nat × Nat) × Int × Unit) × Heap)) (v1 : SL) (v4 : Bool) (v5 : Option (Nat × Nat)) (v7 : Int) (v8 : Option (Nat × Nat)) (v9 : Int) (v21 : Option (Nat × Nat)) (v22 : Int) (h : Heap) : Option (Out × (SL × Bool × Option (Nat × Nat) × Int × Option (Nat × Nat) × Int × Unit) × Heap) :=
  let x98 : Bool := ltInt v22 8
  (bif x98 then
   (need (α := Sum ((SL × Bool × Option (Nat × Nat) × Int × Option (Nat × Nat) × Int × Option (Nat × Nat) × Int × Unit) × Heap) (Sum ((SL × Bool × Option (Nat × Nat) × Int × Option (Nat × Nat) × Int × Unit) × Heap) (Empty))) (
    (bind2 (f14 N v5 v22 h) fun (x99 : ((Int × Int × Int × Int × Unit) × Bool × Unit)) h100 =>
    let h101 : Heap := h100.push (.row [(.int .i64 0), (.int .i64 0), (.int .i64 0), (.int .i64 0)] .own)
    (need (h101.store (h100.next, 0) [(.int .i64 x99.1.1), (.int .i64 x99.1.2.1), (.int .i64 x99.1.2.2.1), (.int .i64 x99.1.2.2.2.1)]) fun h102 =>
    let x103 : Bool := !x99.2.1
    (bif x103 then
     some (Sum.inl ((v1, v4, v5, v7, v8, v9, v21, v22, ()), h102))
    else
     (need (α := Sum ((SL × Bool × Option (Nat × Nat) × Int × Option (Nat × Nat) × Int × Option (Nat × Nat) × Int × Option (Nat × Nat) × Unit) × Heap) (Sum ((SL × Bool × Option (Nat × Nat) × Int × Option (Nat × Nat) × Int × Unit) × Heap) (Empty))) (
      (ixK v8 8 v22 1 fun q104 =>
      (bindV (.val (.one .bool)) (h102.cell q104) fun (x105 : Bool) =>
      (bif x105 then
       some (Sum.inr (Sum.inl ((v1, false, v5, v7, v8, v9, ()), h102)))
      else
       (bindV (.val (.one (.int .i64))) (h102.cell ((h100.next, 0).1, (h100.next, 0).2 + 0)) fun (x106 : Int) =>
       let x107 : Bool := !eqInt x106 v22
       (bif x107 then
        some (Sum.inr (Sum.inl ((v1, false, v5, v7, v8, v9, ()), h102)))
       else
        (bindV (.val (.one (.int .i64))) (h102.cell ((h100.next, 0).1, (h100.next, 0).2 + 1)) fun (x108 : Int) =>
        let x109 : Bool := ltInt x108 1
        (bif x109 then
         some (Sum.inr (Sum.inl ((v1, false, v5, v7, v8, v9, ()), h102)))
        else
         (bindV (.val (.one (.int .i64))) (h102.cell ((h100.next, 0).1, (h100.next, 0).2 + 1)) fun (x110 : Int) =>
         let x111 : Bool := ltInt 4 x110
         (bif x111 then
          some (Sum.inr (Sum.inl ((v1, false, v5, v7, v8, v9, ()), h102)))
         else
          (bindV (.val (.one (.int .i64))) (h102.cell ((h100.next, 0).1, (h100.next, 0).2 + 1)) fun (x112 : Int) =>
          (ixK v21 8 x112 1 fun q113 =>
          (bindV (.val (.one .bool)) (h102.cell q113) fun (x114 : Bool) =>
          (bif x114 then
           some (Sum.inr (Sum.inl ((v1, false, v5, v7, v8, v9, ()), h102)))
          else
           some (Sum.inl ((v1, v4, v5, v7, v8, v9, v21, v22, (some (h100.next, 0)), ()), h102)))))))))))))))) fun j115 =>
     (jcase j115 (fun (j116 : (SL × Bool × Option (Nat × Nat) × Int × Option (Nat × Nat) × Int × Option (Nat × Nat) × Int × Option (Nat × Nat) × Unit)) h117 =>
      (need j116.2.2.2.2.2.2.2.2.1 fun q119 =>
      (bindV (.val (.one (.int .i64))) (h117.cell (q119.1, q119.2 + 1)) fun (x120 : Int) =>
      (ixK j116.2.2.2.2.2.2.1 8 x120 1 fun q121 =>
      (need (h117.store q121 [(.bool true)]) fun h122 =>
      some (Sum.inl ((j116.1, j116.2.1, j116.2.2.1, j116.2.2.2.1, j116.2.2.2.2.1, j116.2.2.2.2.2.1, j116.2.2.2.2.2.2.1, j116.2.2.2.2.2.2.2.1, ()), h122))))))) fun j118 =>
     (jcase j118 (fun (j123 : (SL × Bool × Option (Nat × Nat) × Int × Option (Nat × Nat) × Int × Unit)) h124 =>
      some (Sum.inr (Sum.inl ((j123.1, j123.2.1, j123.2.2.1, j123.2.2.2.1, j123.2.2.2.2.1, j123.2.2.2.2.2.1, ()), h124)))) fun _ =>
     none))))))) fun j126 =>
   (jcase j126 (fun (j127 : (SL × Bool × Option (Nat × Nat) × Int × Option (Nat × Nat) × Int × Option (Nat × Nat) × Int × Unit)) h128 =>
    let x130 : Int := wrapA .i64 (j127.2.2.2.2.2.2.2.1 + 1)
    go j127.1 j127.2.1 j127.2.2.1 j127.2.2.2.1 j127.2.2.2.2.1 j127.2.2.2.2.2.1 j127.2.2.2.2.2.2.1 x130 h128) fun j129 =>
   (jcase j129 (fun (j131 : (SL × Bool × Option (Nat × Nat) × Int × Option (Nat × Nat) × Int × Unit)) h132 =>
    some (Out.ret, (j131.1, j131.2.1, j131.2.2.1, j131.2.2.2.1, j131.2.2.2.2.1, j131.2.2.2.2.2.1, ()), h132)) fun _ =>
   none)))
  else
   some ((Out.exit 3), (v1, v4, v5, v7, v8, v9, ()), h))
noncomputable def f5_l2 (N M : Nat) (v1 : SL) (v4 : Bool) (v5 : Option (Nat × Nat)) (v7 : Int) (v8 : Option (Nat × Nat)) (v9 : Int) (v21 : Option (Nat × Nat)) (v22 : Int) (h : Heap) : Option (Out × (SL × Bool × Option (Nat × Nat) × Int × Option (Nat × Nat) × Int × Unit) × Heap) := iter (fun go s h => f5_l2_b N (fun v1 v4 v5 v7 v8 v9 v21 v22 h => go (v1, v4, v5, v7, v8, v9, v21, v22, ()) h) s.1 s.2.1 s.2.2.1 s.2.2.2.1 s.2.2.2.2.1 s.2.2.2.2.2.1 s.2.2.2.2.2.2.1 s.2.2.2.2.2.2.2.1 h) M (v1, v4, v5, v7, v8, v9, v21, v22, ()) h
theorem f5_l2_succ (N M : Nat) (v1 : SL) (v4 : Bool) (v5 : Option (Nat × Nat)) (v7 : Int) (v8 : Option (Nat × Nat)) (v9 : Int) (v21 : Option (Nat × Nat)) (v22 : Int) (h : Heap) : f5_l2 N (M + 1) v1 v4 v5 v7 v8 v9 v21 v22 h = f5_l2_b N (f5_l2 N M) v1 v4 v5 v7 v8 v9 v21 v22 h := rfl
theorem f5_l2_zero (N : Nat) (v1 : SL) (v4 : Bool) (v5 : Option (Nat × Nat)) (v7 : Int) (v8 : Option (Nat × Nat)) (v9 : Int) (v21 : Option (Nat × Nat)) (v22 : Int) (h : Heap) : f5_l2 N 0 v1 v4 v5 v7 v8 v9 v21 v22 h = none := rfl
noncomputable def f5_l1_b (N : Nat) (go : SL → Bool → Option (Nat × Nat) → Int → Option (Nat × Nat) → Int → Heap → Option (Out × (Bool × Unit) × Heap)) (v1 : SL) (v4 : Bool) (v5 : Option (Nat × Nat)) (v7 : Int) (v8 : Option (Nat × Nat)) (v9 : Int) (h : Heap) : Option (Out × (Bool × Unit) × Heap) :=
  (need (α := Sum ((SL × Bool × Option (Nat × Nat) × Int × Option (Nat × Nat) × Int × Unit) × Heap) (Sum ((Bool × Unit) × Heap) (Empty))) (
   let x11 : Bool := ltInt v9 (Int.ofNat v1.len)
   (bif x11 then
    let x12 : Bool := ltInt v9 60
    (bif x12 then
     some (Sum.inl ((v1, v4, v5, v7, v8, v9, ()), h))
    else
     some (Sum.inr (Sum.inl ((v4, ()), h))))
   else
    some (Sum.inr (Sum.inl ((v4, ()), h))))) fun j13 =>
  (jcase j13 (fun (j14 : (SL × Bool × Option (Nat × Nat) × Int × Option (Nat × Nat) × Int × Unit)) h15 =>
   (need (α := Sum ((SL × Bool × Option (Nat × Nat) × Int × Option (Nat × Nat) × Int × Unit) × Heap) (Sum ((Bool × Unit) × Heap) (Empty))) (
    (ixK j14.1.a j14.1.len j14.2.2.2.2.2.1 6 fun q17 =>
    (bindV (.val (.agg [(.int .i64), (.int .i64), (.int .i64), (.int .i64), (.int .i64), .bool])) (h15.cells q17 6) fun (x18 : (Int × Int × Int × Int × Int × Bool × Unit)) =>
    let h19 : Heap := h15.push (.row [(.int .i64 0), (.int .i64 0), (.int .i64 0), (.int .i64 0), (.int .i64 0), (.bool false)] .own)
    (need (h19.store (h15.next, 0) [(.int .i64 x18.1), (.int .i64 x18.2.1), (.int .i64 x18.2.2.1), (.int .i64 x18.2.2.2.1), (.int .i64 x18.2.2.2.2.1), (.bool x18.2.2.2.2.2.1)]) fun h20 =>
    (bindV (.val (.one (.int .i64))) (h20.cell ((h15.next, 0).1, (h15.next, 0).2 + 1)) fun (x21 : Int) =>
    (bindV (.val (.one (.int .i64))) (bitsA .and .i64 x21 7) fun (x22 : Int) =>
    (bindV (.val (.one (.int .i64))) (h20.cell ((h15.next, 0).1, (h15.next, 0).2 + 2)) fun (x23 : Int) =>
    (bindV (.val (.one (.int .i64))) (bitsA .and .i64 x23 3) fun (x24 : Int) =>
    let x25 : Int := wrapA .i64 (1 + x24)
    (bindV (.val (.one (.int .i64))) (h20.cell ((h15.next, 0).1, (h15.next, 0).2 + 3)) fun (x26 : Int) =>
    (bindV (.val (.one (.int .i64))) (bitsA .and .i64 x26 63) fun (x27 : Int) =>
    let x28 : Int := wrapA .i64 (1 + x27)
    (bindV (.val (.one (.int .i64))) (h20.cell ((h15.next, 0).1, (h15.next, 0).2 + 4)) fun (x29 : Int) =>
    (bindV (.val (.one (.int .i64))) (bitsA .and .i64 x29 63) fun (x30 : Int) =>
    (bind2 (f14 N j14.2.2.1 x22 h20) fun (x31 : ((Int × Int × Int × Int × Unit) × Bool × Unit)) h32 =>
    let h33 : Heap := h32.push (.row [(.int .i64 0), (.int .i64 0), (.int .i64 0), (.int .i64 0)] .own)
    (need (h33.store (h32.next, 0) [(.int .i64 x31.1.1), (.int .i64 x31.1.2.1), (.int .i64 x31.1.2.2.1), (.int .i64 x31.1.2.2.2.1)]) fun h34 =>
    (bind2 (f15 N j14.2.2.1 x25 h34) fun (x35 : ((Int × Int × Int × Int × Unit) × Bool × Unit)) h36 =>
    let h37 : Heap := h36.push (.row [(.int .i64 0), (.int .i64 0), (.int .i64 0), (.int .i64 0)] .own)
    (need (h37.store (h36.next, 0) [(.int .i64 x35.1.1), (.int .i64 x35.1.2.1), (.int .i64 x35.1.2.2.1), (.int .i64 x35.1.2.2.2.1)]) fun h38 =>
    (need (α := Sum ((SL × Bool × Option (Nat × Nat) × Int × Option (Nat × Nat) × Int × Unit) × Heap) (Sum ((Bool × Unit) × Heap) (Empty))) (
     (bindV (.val (.one (.int .i64))) (h38.cell ((h15.next, 0).1, (h15.next, 0).2 + 0)) fun (x39 : Int) =>
     (bindV (.val (.one (.int .i64))) (binInt .rem .i64 x39 7) fun (x40 : Int) =>
     let x41 : Int := wrapA .i64 (x40 + 7)
     (bindV (.val (.one (.int .i64))) (binInt .rem .i64 x41 7) fun (x42 : Int) =>
     (bind2 (α := (SL × Bool × Option (Nat × Nat) × Int × Option (Nat × Nat) × Int × Int × Int × Int × Int × Option (Nat × Nat) × Bool × Bool × Int × Bool × Unit)) (
      let x43 : Bool := eqInt x42 0
      (bif x43 then
       some ((j14.1, j14.2.1, j14.2.2.1, j14.2.2.2.1, j14.2.2.2.2.1, j14.2.2.2.2.2.1, x22, x25, x28, x30, (some (h32.next, 0)), x31.2.1, x35.2.1, x42, x43, ()), h38)
      else
       let x44 : Bool := eqInt x42 1
       some ((j14.1, j14.2.1, j14.2.2.1, j14.2.2.2.1, j14.2.2.2.2.1, j14.2.2.2.2.2.1, x22, x25, x28, x30, (some (h32.next, 0)), x31.2.1, x35.2.1, x42, x44, ()), h38))) fun (j45 : (SL × Bool × Option (Nat × Nat) × Int × Option (Nat × Nat) × Int × Int × Int × Int × Int × Option (Nat × Nat) × Bool × Bool × Int × Bool × Unit)) h46 =>
     (bif j45.2.2.2.2.2.2.2.2.2.2.2.2.2.2.1 then
      (bind2 (f9 N j45.2.2.1 j45.2.2.2.2.2.2.1 j45.2.2.2.2.2.2.2.1 j45.2.2.2.2.2.2.2.2.1 j45.2.2.2.2.2.2.2.2.2.1 h46) fun (x47 : AV) h48 =>
      (bindV (.val (.one .bool)) (binA E .neq 28 (.tmp 91) (.const .nilIface) x47 AV.nilIface) fun (x49 : Bool) =>
      (bif x49 then
       some (Sum.inl ((j45.1, j45.2.1, j45.2.2.1, j45.2.2.2.1, j45.2.2.2.2.1, j45.2.2.2.2.2.1, ()), h48))
      else
       (need (α := Sum ((SL × Bool × Option (Nat × Nat) × Option (Nat × Nat) × Int × Int × Int × Int × Unit) × Heap) (Sum ((Bool × Unit) × Heap) (Empty))) (
        (bif j45.2.2.2.2.2.2.2.2.2.2.2.1 then
         some (Sum.inr (Sum.inl ((false, ()), h48)))
        else
         (bif j45.2.2.2.2.2.2.2.2.2.2.2.2.1 then
          some (Sum.inr (Sum.inl ((false, ()), h48)))
         else
          (ixK j45.2.2.2.2.1 8 j45.2.2.2.2.2.2.1 1 fun q50 =>
          (bindV (.val (.one .bool)) (h48.cell q50) fun (x51 : Bool) =>
          (bif x51 then
           some (Sum.inr (Sum.inl ((false, ()), h48)))
          else
           let x52 : Bool := leInt j45.2.2.2.2.2.2.2.2.1 j45.2.2.2.1
           (bif x52 then
            some (Sum.inr (Sum.inl ((false, ()), h48)))
           else
            some (Sum.inl ((j45.1, j45.2.1, j45.2.2.1, j45.2.2.2.2.1, j45.2.2.2.2.2.1, j45.2.2.2.2.2.2.1, j45.2.2.2.2.2.2.2.1, j45.2.2.2.2.2.2.2.2.1, ()), h48))))))))) fun j53 =>
       (jcase j53 (fun (j54 : (SL × Bool × Option (Nat × Nat) × Option (Nat × Nat) × Int × Int × Int × Int × Unit)) h55 =>
        (bind2 (f14 N j54.2.2.1 j54.2.2.2.2.2.1 h55) fun (x57 : ((Int × Int × Int × Int × Unit) × Bool × Unit)) h58 =>
        let h59 : Heap := h58.push (.row [(.int .i64 0), (.int .i64 0), (.int .i64 0), (.int .i64 0)] .own)
        (need (h59.store (h58.next, 0) [(.int .i64 x57.1.1), (.int .i64 x57.1.2.1), (.int .i64 x57.1.2.2.1), (.int .i64 x57.1.2.2.2.1)]) fun h60 =>
        let x61 : Bool := !x57.2.1
        (bif x61 then
         some (Sum.inr (Sum.inl ((false, ()), h60)))
        else
         (bindV (.val (.one (.int .i64))) (h60.cell ((h58.next, 0).1, (h58.next, 0).2 + 1)) fun (x62 : Int) =>
         let x63 : Bool := !eqInt x62 j54.2.2.2.2.2.2.1
         (bif x63 then
          some (Sum.inr (Sum.inl ((false, ()), h60)))
         else
          (bindV (.val (.one (.int .i64))) (h60.cell ((h58.next, 0).1, (h58.next, 0).2 + 2)) fun (x64 : Int) =>
          let x65 : Bool := !eqInt x64 j54.2.2.2.2.2.2.2.1
          (bif x65 then
           some (Sum.inr (Sum.inl ((false, ()), h60)))
          else
           some (Sum.inl ((j54.1, j54.2.1, j54.2.2.1, j54.2.2.2.2.2.2.2.1, j54.2.2.2.1, j54.2.2.2.2.1, ()), h60)))))))))) fun j56 =>
       (jcase j56 (fun (j66 : (Bool × Unit)) h67 =>
        some (Sum.inr (Sum.inl ((j66.1, ()), h67)))) fun _ =>
       none))))))
     else
      let x69 : Bool := eqInt j45.2.2.2.2.2.2.2.2.2.2.2.2.2.1 2
      (bif x69 then
       (bind2 (f10 N j45.2.2.1 j45.2.2.2.2.2.2.1 j45.2.2.2.2.2.2.2.2.1 j45.2.2.2.2.2.2.2.2.2.1 h46) fun (x70 : AV) h71 =>
       (bindV (.val (.one .bool)) (binA E .eql 28 (.tmp 134) (.const .nilIface) x70 AV.nilIface) fun (x72 : Bool) =>
       (bif j45.2.2.2.2.2.2.2.2.2.2.2.1 then
        (need j45.2.2.2.2.2.2.2.2.2.2.1 fun q73 =>
        (bindV (.val (.one (.int .i64))) (h71.cell (q73.1, q73.2 + 2)) fun (x74 : Int) =>
        let x75 : Bool := eqInt x74 j45.2.2.2.2.2.2.2.2.1
        let x76 : Bool := !(bif x72 then x75 else !x75)
        (bif x76 then
         some (Sum.inr (Sum.inl ((false, ()), h71)))
        else
         some (Sum.inl ((j45.1, j45.2.1, j45.2.2.1, j45.2.2.2.1, j45.2.2.2.2.1, j45.2.2.2.2.2.1, ()), h71)))))
       else
        let x77 : Bool := !(bif x72 then false else !false)
        (bif x77 then
         some (Sum.inr (Sum.inl ((false, ()), h71)))
        else
         some (Sum.inl ((j45.1, j45.2.1, j45.2.2.1, j45.2.2.2.1, j45.2.2.2.2.1, j45.2.2.2.2.2.1, ()), h71))))))
      else
       (bind2 (α := (SL × Bool × Option (Nat × Nat) × Int × Option (Nat × Nat) × Int × Int × Int × Int × Bool × Unit)) (
        let x78 : Bool := eqInt j45.2.2.2.2.2.2.2.2.2.2.2.2.2.1 3
        (bif x78 then
         some ((j45.1, j45.2.1, j45.2.2.1, j45.2.2.2.1, j45.2.2.2.2.1, j45.2.2.2.2.2.1, j45.2.2.2.2.2.2.1, j45.2.2.2.2.2.2.2.2.2.1, j45.2.2.2.2.2.2.2.2.2.2.2.2.2.1, x78, ()), h46)
        else
         let x79 : Bool := eqInt j45.2.2.2.2.2.2.2.2.2.2.2.2.2.1 4
         some ((j45.1, j45.2.1, j45.2.2.1, j45.2.2.2.1, j45.2.2.2.2.1, j45.2.2.2.2.2.1, j45.2.2.2.2.2.2.1, j45.2.2.2.2.2.2.2.2.2.1, j45.2.2.2.2.2.2.2.2.2.2.2.2.2.1, x79, ()), h46))) fun (j80 : (SL × Bool × Option (Nat × Nat) × Int × Option (Nat × Nat) × Int × Int × Int × Int × Bool × Unit)) h81 =>
       (bif j80.2.2.2.2.2.2.2.2.2.1 then
        (bind2 (f12 N j80.2.2.1 j80.2.2.2.2.2.2.2.1 h81) fun (x82 : SL) h83 =>
        some (Sum.inl ((j80.1, j80.2.1, j80.2.2.1, j80.2.2.2.1, j80.2.2.2.2.1, j80.2.2.2.2.2.1, ()), h83)))
       else
        let x84 : Bool := eqInt j80.2.2.2.2.2.2.2.2.1 5
        (bif x84 then
         (bind2 (f16 N j80.2.2.1 j80.2.2.2.2.2.2.1 h81) fun (x85 : AV) h86 =>
         (bindV (.val (.one .bool)) (binA E .eql 28 (.tmp 154) (.const .nilIface) x85 AV.nilIface) fun (x87 : Bool) =>
         (ixK j80.2.2.2.2.1 8 j80.2.2.2.2.2.2.1 1 fun q88 =>
         (bindV (.val (.one .bool)) (h86.cell q88) fun (x89 : Bool) =>
         let x90 : Bool := (bif x87 then x89 else !x89)
         (guardB (bif (sameO (h86.cell q88) (.bool x89)) then (bif (sameO (h81.cell q88) (.bool x89)) then true else false) else false) (
         (bif x90 then
          some (Sum.inr (Sum.inl ((false, ()), h86)))
         else
          (ixK j80.2.2.2.2.1 8 j80.2.2.2.2.2.2.1 1 fun q91 =>
          (need (h86.store q91 [(.bool true)]) fun h92 =>
          some (Sum.inl ((j80.1, j80.2.1, j80.2.2.1, j80.2.2.2.1, j80.2.2.2.2.1, j80.2.2.2.2.2.1, ()), h92)))))))))))
        else
         some (Sum.inl ((j80.1, j80.2.1, j80.2.2.1, j80.2.2.2.1, j80.2.2.2.2.1, j80.2.2.2.2.2.1, ()), h81)))))))))))) fun j93 =>
    (jcase j93 (fun (j94 : (SL × Bool × Option (Nat × Nat) × Int × Option (Nat × Nat) × Int × Unit)) h95 =>
     let h97 : Heap := h95.push (.row [(.bool false), (.bool false), (.bool false), (.bool false), (.bool false), (.bool false), (.bool false), (.bool false)] .own)
     (bind3 (f5_l2 N N j94.1 j94.2.1 j94.2.2.1 j94.2.2.2.1 j94.2.2.2.2.1 j94.2.2.2.2.2.1 (some (h95.next, 0)) 0 h97) fun o134 (j135 : (SL × Bool × Option (Nat × Nat) × Int × Option (Nat × Nat) × Int × Unit)) h136 =>
     (bif eqOut o134 (.exit 3) then
      some (Sum.inl ((j135.1, j135.2.1, j135.2.2.1, j135.2.2.2.1, j135.2.2.2.2.1, j135.2.2.2.2.2.1, ()), h136))
     else
      some (Sum.inr (Sum.inl ((j135.2.1, ()), h136)))))) fun j96 =>
    (jcase j96 (fun (j137 : (Bool × Unit)) h138 =>
     some (Sum.inr (Sum.inl ((j137.1, ()), h138)))) fun _ =>
    none))))))))))))))))))) fun j140 =>
   (jcase j140 (fun (j141 : (SL × Bool × Option (Nat × Nat) × Int × Option (Nat × Nat) × Int × Unit)) h142 =>
    let x144 : Int := wrapA .i64 (j141.2.2.2.2.2.1 + 1)
    go j141.1 j141.2.1 j141.2.2.1 j141.2.2.2.1 j141.2.2.2.2.1 x144 h142) fun j143 =>
   (jcase j143 (fun (j145 : (Bool × Unit)) h146 =>
    some (Out.ret, (j145.1, ()), h146)) fun _ =>
   none)))) fun j16 =>
  (jcase j16 (fun (j148 : (Bool × Unit)) h149 =>
   some ((Out.exit 0), (j148.1, ()), h149)) fun _ =>
  none)))
noncomputable def f5_l1 (N M : Nat) (v1 : SL) (v4 : Bool) (v5 : Option (Nat × Nat)) (v7 : Int) (v8 : Option (Nat × Nat)) (v9 : Int) (h : Heap) : Option (Out × (Bool × Unit) × Heap) := iter (fun go s h => f5_l1_b N (fun v1 v4 v5 v7 v8 v9 h => go (v1, v4, v5, v7, v8, v9, ()) h) s.1 s.2.1 s.2.2.1 s.2.2.2.1 s.2.2.2.2.1 s.2.2.2.2.2.1 h) M (v1, v4, v5, v7, v8, v9, ()) h
theorem f5_l1_succ (N M : Nat) (v1 : SL) (v4 : Bool) (v5 : Option (Nat × Nat)) (v7 : Int) (v8 : Option (Nat × Nat)) (v9 : Int) (h : Heap) : f5_l1 N (M + 1) v1 v4 v5 v7 v8 v9 h = f5_l1_b N (f5_l1 N M) v1 v4 v5 v7 v8 v9 h := rfl
theorem f5_l1_zero (N : Nat) (v1 : SL) (v4 : Bool) (v5 : Option (Nat × Nat)) (v7 : Int) (v8 : Option (Nat × Nat)) (v9 : Int) (h : Heap) : f5_l1 N 0 v1 v4 v5 v7 v8 v9 h = none := rfl
noncomputable def f5 (N : Nat) (a0 : Int) (a1 : SL) (h : Heap) : Option (Bool × Heap) :=
  (bindV (.val (.one (.int .i64))) (bitsA .and .i64 a0 15) fun (x1 : Int) =>
  let x2 : Int := wrapA .i64 (1 + x1)
  (bind2 (f8 N 8 x2 h) fun (x3 : (Option (Nat × Nat) × AV × Unit)) h4 =>
  (need (α := Sum ((SL × Bool × Option (Nat × Nat) × Unit) × Heap) (Sum ((Bool × Unit) × Heap) (Empty))) (
   (bindV (.val (.one .bool)) (binA E .neq 28 (.tmp 32) (.const .nilIface) x3.2.1 AV.nilIface) fun (x5 : Bool) =>
   (bif x5 then
    some (Sum.inr (Sum.inl ((false, ()), h4)))
   else
    (bif x3.1.isNone then
     some (Sum.inr (Sum.inl ((false, ()), h4)))
    else
     some (Sum.inl ((a1, false, x3.1, ()), h4)))))) fun j6 =>
  (jcase j6 (fun (j7 : (SL × Bool × Option (Nat × Nat) × Unit)) h8 =>
   let h10 : Heap := h8.push (.row [(.bool false), (.bool false), (.bool false), (.bool false), (.bool false), (.bool false), (.bool false), (.bool false)] .own)
   (bind3 (f5_l1 N N j7.1 j7.2.1 j7.2.2.1 0 (some (h8.next, 0)) 0 h10) fun o151 (j152 : (Bool × Unit)) h153 =>
   (bif eqOut o151 (.exit 0) then
    (bind2 (f7 N  h153) fun (x154 : Bool) h155 =>
    some (x154, h155))
   else
    some (j152.1, h153)))) fun j9 =>
  (jcase j9 (fun (j156 : (Bool × Unit)) h157 =>
   some (j156.1, h157)) fun _ =>
  none)))))
noncomputable def ann5 : Ann := (.two .n (.two .n (.two (.joinO [(.norm, [(1, (.one .slice)), (4, (.one .bool)), (5, (.one .ptr))]), (.ret, [(4, (.one .bool))])] .n) (.two .n (.two .n (.two (.two .n (.two (.loop [(1, (.one .slice)), (4, (.one .bool)), (5, (.one .ptr)), (7, (.one (.int .i64))), (8, (.one .ptr)), (9, (.one (.int .i64)))] [(.exit 0), .ret] [(4, (.one .bool))] (.two (.joinO [(.norm, [(1, (.one .slice)), (4, (.one .bool)), (5, (.one .ptr)), (7, (.one (.int .i64))), (8, (.one .ptr)), (9, (.one (.int .i64)))]), ((.exit 0), [(4, (.one .bool))])] .n) (.two (.joinO [(.norm, [(1, (.one .slice)), (4, (.one .bool)), (5, (.one .ptr)), (7, (.one (.int .i64))), (8, (.one .ptr)), (9, (.one (.int .i64)))]), (.ret, [(4, (.one .bool))])] (.two (.two .n (.two .n (.two .n (.two .n (.two (.joinO [(.norm, [(1, (.one .slice)), (4, (.one .bool)), (5, (.one .ptr)), (7, (.one (.int .i64))), (8, (.one .ptr)), (9, (.one (.int .i64)))]), (.ret, [(4, (.one .bool))])] (.two .n (.two (.two (.join [(1, (.one .slice)), (4, (.one .bool)), (5, (.one .ptr)), (7, (.one (.int .i64))), (8, (.one .ptr)), (9, (.one (.int .i64))), (11, (.one (.int .i64))), (12, (.one (.int .i64))), (13, (.one (.int .i64))), (14, (.one (.int .i64))), (15, (.one .ptr)), (16, (.one .bool)), (18, (.one .bool)), (82, (.one (.int .i64))), (83, (.one .bool))] .n) (.two (.two .n (.two (.joinO [(.norm, [(1, (.one .slice)), (4, (.one .bool)), (5, (.one .ptr)), (8, (.one .ptr)), (9, (.one (.int .i64))), (11, (.one (.int .i64))), (12, (.one (.int .i64))), (13, (.one (.int .i64)))]), (.ret, [(4, (.one .bool))])] .n) .n)) (.two .n (.two .n (.two (.join [(1, (.one .slice)), (4, (.one .bool)), (5, (.one .ptr)), (7, (.one (.int .i64))), (8, (.one .ptr)), (9, (.one (.int .i64))), (11, (.one (.int .i64))), (14, (.one (.int .i64))), (82, (.one (.int .i64))), (144, (.one .bool))] .n) .n))))) .n))) (.two .n (.two .n (.two (.loop [(1, (.one .slice)), (4, (.one .bool)), (5, (.one .ptr)), (7, (.one (.int .i64))), (8, (.one .ptr)), (9, (.one (.int .i64))), (21, (.one .ptr)), (22, (.one (.int .i64)))] [(.exit 3), .ret] [(1, (.one .slice)), (4, (.one .bool)), (5, (.one .ptr)), (7, (.one (.int .i64))), (8, (.one .ptr)), (9, (.one (.int .i64)))] (.two .n (.two (.joinO [(.norm, [(1, (.one .slice)), (4, (.one .bool)), (5, (.one .ptr)), (7, (.one (.int .i64))), (8, (.one .ptr)), (9, (.one (.int .i64))), (21, (.one .ptr)), (22, (.one (.int .i64)))]), (.ret, [(1, (.one .slice)), (4, (.one .bool)), (5, (.one .ptr)), (7, (.one (.int .i64))), (8, (.one .ptr)), (9, (.one (.int .i64)))])] (.two (.two .n (.two .n (.two (.joinO [(.norm, [(1, (.one .slice)), (4, (.one .bool)), (5, (.one .ptr)), (7, (.one (.int .i64))), (8, (.one .ptr)), (9, (.one (.int .i64))), (21, (.one .ptr)), (22, (.one (.int .i64))), (23, (.one .ptr))]), (.ret, [(1, (.one .slice)), (4, (.one .bool)), (5, (.one .ptr)), (7, (.one (.int .i64))), (8, (.one .ptr)), (9, (.one (.int .i64)))])] .n) .n))) .n)) .n))) .n)))))))) .n)) .n))) .n)) .n))))))
set_option maxHeartbeats 4000000 in
theorem f5_ok (N : Nat) : FnOK Try.prog 5 [(.one (.int .i64)), (.one .slice)] (.val (.one .bool)) (fun x h => f5 N x.1 x.2.1 h) :=
  runK_ok envOK hmix (addCall_ok (f16_ok N) (addCall_ok (f15_ok N) (addCall_ok (f14_ok N) (addCall_ok (f12_ok N) (addCall_ok (f10_ok N) (addCall_ok (f9_ok N) (addCall_ok (f8_ok N) (addCall_ok (f7_ok N) noCalls_ok)))))))) (N := N) (x := ann5) (fn := Try.f5) (c := Try.f5.body.getD .skip) (by kernel_rfl) (by kernel_rfl) (by kernel_rfl) (by kernel_rfl) (fun _ _ => by kernel_rfl)
end Go.Proofs.Ytdnmgcffccilkaa.Le

open Go Go.Proofs.Ytdnmgcffccilkaa.Ai Go.Proofs
namespace Go.Proofs.Ytdnmgcffccilkaa.Le
structure Cr where
  lent : Bool
  ended : Bool
  c : Int
  w : Int
  e : Int
  u : Int
  tries : Int
  waits : Int
def Cr.cells (x : Cr) : List AV := [.bool x.lent, .bool x.ended, .int .i64 x.c, .int .i64 x.w, .int .i64 x.e, .int .i64 x.u, .int .i64 x.tries, .int .i64 x.waits]
def cr0 : Cr := ⟨false, false, 0, 0, 0, 0, 0, 0⟩
def flat (l : List Cr) : List AV := l.flatMap Cr.cells
theorem flat_cons (x : Cr) (l : List Cr) : flat (x :: l) = x.cells ++ flat l := rfl
theorem flat_drop : ∀ (l : List Cr) (i j : Nat), i < l.length → j ≤ 8 → (flat l).drop (i * 8 + j) = ((l.getD i cr0).cells.drop j) ++ flat (l.drop (i + 1))
  | [], i, j, h, _ => by simp at h
  | x :: l, 0, j, h, hj => by
    rw [flat_cons, Nat.zero_mul, Nat.zero_add, List.drop_append_of_le_length (by simp [Cr.cells]; omega)]; rfl
  | x :: l, i + 1, j, h, hj => by
    rw [flat_cons, show (i + 1) * 8 + j = x.cells.length + (i * 8 + j) by simp [Cr.cells]; omega, List.drop_append]
    have := flat_drop l i j (by simpa using h) hj
    simp [this]
theorem over_app : ∀ (a : List AV) (k : Nat) (b vs : List AV), over (a.length + k) (a ++ b) vs = (over k b vs).map (a ++ ·)
  | [], k, b, vs => by simp
  | x :: a, k, b, [] => by simp [over_nil]
  | x :: a, k, b, v :: vs => by
    rw [show (x :: a).length + k = (a.length + k) + 1 by simp; omega, List.cons_append, over_succ, over_app a k b (v :: vs)]
    cases over k b (v :: vs) <;> rfl
theorem over_left : ∀ (k : Nat) (a b vs : List AV), k + vs.length ≤ a.length → over k (a ++ b) vs = (over k a vs).map (· ++ b)
  | k, a, b, [], _ => by simp [over_nil]
  | _, [], b, v :: vs, h => by simp at h
  | 0, c :: a, b, v :: vs, h => by
    rw [List.cons_append, over_zero, over_zero, over_left 0 a b vs (by simp at h ⊢; omega)]
    cases over 0 a vs <;> rfl
  | k + 1, c :: a, b, v :: vs, h => by
    rw [List.cons_append, over_succ, over_succ, over_left k a b (v :: vs) (by simp at h ⊢; omega)]
    cases over k a (v :: vs) <;> rfl
theorem flat_over : ∀ (l : List Cr) (i j : Nat) (vs : List AV) (y : Cr), i < l.length → j + vs.length ≤ 8 → over j (l.getD i cr0).cells vs = some y.cells → over (i * 8 + j) (flat l) vs = some (flat (l.set i y))
  | [], i, j, vs, y, h, _, _ => by simp at h
  | x :: l, 0, j, vs, y, h, hj, ho => by
    rw [flat_cons, Nat.zero_mul, Nat.zero_add, over_left j x.cells _ vs (by simpa [Cr.cells] using hj), show over j x.cells vs = some y.cells from ho]; rfl
  | x :: l, i + 1, j, vs, y, h, hj, ho => by
    rw [flat_cons, show (i + 1) * 8 + j = x.cells.length + (i * 8 + j) by simp [Cr.cells]; omega, over_app, flat_over l i j vs y (by simpa using h) hj ho]; rfl
/-- a table of crates -/
structure Tb (h : Heap) (tb ab : Nat) (len last : Int) (l : List Cr) : Prop where
  t : h.g tb = some (.row [.int .i64 len, .int .i64 last, .slice (some (ab, 0)) 8 8 8] .own)
  a : h.g ab = some (.row (flat l) .own)
  n : l.length = 8
  ne : tb ≠ ab
  lt : tb < h.next
  la : ab < h.next
/-- nothing but a table changes -/
structure Eff (tb ab : Nat) (h h' : Heap) : Prop where
  g : ∀ A, A < h.next → A ≠ tb → A ≠ ab → h'.g A = h.g A
  next : h.next ≤ h'.next
variable {h h' : Heap} {tb ab : Nat} {len last : Int} {l : List Cr} {N : Nat}
theorem Eff.refl (tb ab : Nat) (h : Heap) : Eff tb ab h h := ⟨fun _ _ _ _ => rfl, Nat.le_refl _⟩
theorem Eff.trans {a b c : Heap} (x : Eff tb ab a b) (y : Eff tb ab b c) : Eff tb ab a c := ⟨fun A hA h1 h2 => (y.g A (Nat.lt_of_lt_of_le hA x.next) h1 h2).trans (x.g A hA h1 h2), Nat.le_trans x.next y.next⟩
theorem Eff.of {a b : Heap} (k : Keep a.next a b) : Eff tb ab a b := ⟨fun A hA _ _ => k.g A hA, k.next⟩
theorem Tb.keep (hk : Keep h.next h h') (ht : Tb h tb ab len last l) : Tb h' tb ab len last l :=
  ⟨by rw [hk.g _ ht.lt]; exact ht.t, by rw [hk.g _ ht.la]; exact ht.a, ht.n, ht.ne, Nat.lt_of_lt_of_le ht.lt hk.next, Nat.lt_of_lt_of_le ht.la hk.next⟩
theorem Tb.cell (ht : Tb h tb ab len last l) {i j k : Nat} (hi : i < 8) (hj : j < 8) (hk : k = i * 8 + j) : h.cell (ab, k) = ((l.getD i cr0).cells.drop j).head? := by
  subst hk
  rw [Heap.cell_g, ht.a, cellB_own, flat_drop l i j (by rw [ht.n]; exact hi) (by omega)]
  match j, hj with
  | 0, _ => rfl
  | 1, _ => rfl
  | 2, _ => rfl
  | 3, _ => rfl
  | 4, _ => rfl
  | 5, _ => rfl
  | 6, _ => rfl
  | 7, _ => rfl
theorem Tb.put (ht : Tb h tb ab len last l) {i j k : Nat} {vs : List AV} {y : Cr} (hi : i < 8) (hj : j + vs.length ≤ 8) (hk : k = i * 8 + j) (ho : over j (l.getD i cr0).cells vs = some y.cells) : h.store (ab, k) vs = some (h.put ab (.row (flat (l.set i y)) .own)) ∧ Tb (h.put ab (.row (flat (l.set i y)) .own)) tb ab len last (l.set i y) ∧ Eff tb ab h (h.put ab (.row (flat (l.set i y)) .own)) := by
  subst hk
  refine ⟨?_, ⟨?_, g_put_eq _ rfl, by rw [List.length_set]; exact ht.n, ht.ne, ht.lt, ht.la⟩, ⟨fun A _ _ h2 => g_put_ne _ h2, Nat.le_refl _⟩⟩
  · rw [Heap.store_g, ht.a, storeB_own, flat_over l i j vs y (by rw [ht.n]; exact hi) hj ho]; rfl
  · rw [g_put_ne _ ht.ne]; exact ht.t
theorem Tb.putLast (ht : Tb h tb ab len last l) (e : Int) : h.store (tb, 1) [.int .i64 e] = some (h.put tb (.row [.int .i64 len, .int .i64 e, .slice (some (ab, 0)) 8 8 8] .own)) ∧ Tb (h.put tb (.row [.int .i64 len, .int .i64 e, .slice (some (ab, 0)) 8 8 8] .own)) tb ab len e l ∧ Eff tb ab h (h.put tb (.row [.int .i64 len, .int .i64 e, .slice (some (ab, 0)) 8 8 8] .own)) := by
  refine ⟨?_, ⟨g_put_eq _ rfl, ?_, ht.n, ht.ne, ht.lt, ht.la⟩, ⟨fun A _ h1 _ => g_put_ne _ h1, Nat.le_refl _⟩⟩
  · rw [Heap.store_g, ht.t, storeB_own]; rfl
  · rw [g_put_ne _ ht.ne.symm]; exact ht.a
theorem Tb.rLen (ht : Tb h tb ab len last l) : h.cell (tb, 0) = some (.int .i64 len) := by rw [Heap.cell_g, ht.t, cellB_own]; rfl
theorem Tb.rLast (ht : Tb h tb ab len last l) : h.cell (tb, 1) = some (.int .i64 last) := by rw [Heap.cell_g, ht.t, cellB_own]; rfl
theorem Tb.rSl (ht : Tb h tb ab len last l) : h.cell (tb, 2) = some (.slice (some (ab, 0)) 8 8 8) := by rw [Heap.cell_g, ht.t, cellB_own]; rfl
/-- a crate's place -/
theorem ixc {β : Type} {i : Nat} (hi : i < 8) (K : Nat × Nat → Option β) : ixK (some (ab, 0)) 8 (i : Int) 8 K = K (ab, i * 8) := by
  have : Nat.blt i 8 = true := by simpa [Nat.blt_eq] using hi
  show (bif Nat.blt i 8 then need (some (ab, 0)) fun q => K (q.1, q.2 + i * 8) else none) = _
  rw [this]; simp only [cond_true, need_some, Nat.zero_add]
theorem ltz (i : Nat) : ltInt (i : Int) 0 = false := by rw [ltInt_dec]; simp only [decide_eq_false_iff_not]; omega
theorem lez {i : Nat} (hi : i < 8) : leInt 8 (i : Int) = false := by rw [leInt_dec]; simp only [decide_eq_false_iff_not]; omega
theorem at_spec (ht : Tb h tb ab len last l) {i : Nat} (hi : i < 8) : f20 N (some (tb, 0)) (i : Int) h = some (some (ab, i * 8), h) := by
  have e8 : Int.ofNat 8 = 8 := rfl
  simp only [f20, Option.isNone_some, cond_false, ltz, need_some, Nat.zero_add, ht.rSl, bindV_some, cast_slice, e8, lez hi, ixc hi]
theorem Tb.c0 (ht : Tb h tb ab len last l) {i : Nat} (hi : i < 8) : h.cell (ab, i * 8 + 0) = some (.bool (l.getD i cr0).lent) := ht.cell hi (j := 0) (by omega) rfl
theorem Tb.c1 (ht : Tb h tb ab len last l) {i : Nat} (hi : i < 8) : h.cell (ab, i * 8 + 1) = some (.bool (l.getD i cr0).ended) := ht.cell hi (j := 1) (by omega) rfl
theorem Tb.c24 (ht : Tb h tb ab len last l) {i : Nat} (hi : i < 8) : h.cell (ab, i * 8 + 2 + 2) = some (.int .i64 (l.getD i cr0).e) := ht.cell hi (j := 4) (by omega) rfl
theorem Tb.c25 (ht : Tb h tb ab len last l) {i : Nat} (hi : i < 8) : h.cell (ab, i * 8 + 2 + 3) = some (.int .i64 (l.getD i cr0).u) := ht.cell hi (j := 5) (by omega) rfl
theorem Tb.c6 (ht : Tb h tb ab len last l) {i : Nat} (hi : i < 8) : h.cell (ab, i * 8 + 6) = some (.int .i64 (l.getD i cr0).tries) := ht.cell hi (j := 6) (by omega) rfl
theorem Tb.c7 (ht : Tb h tb ab len last l) {i : Nat} (hi : i < 8) : h.cell (ab, i * 8 + 7) = some (.int .i64 (l.getD i cr0).waits) := ht.cell hi (j := 7) (by omega) rfl
theorem takeN_app4 (a b c d : AV) (r : List AV) : takeN 4 (a :: b :: c :: d :: r) = some [a, b, c, d] := by simp [takeN_succ, takeN_zero]
theorem takeN_app8 (a b c d e f g i : AV) (r : List AV) : takeN 8 (a :: b :: c :: d :: e :: f :: g :: i :: r) = some [a, b, c, d, e, f, g, i] := by simp [takeN_succ, takeN_zero]
theorem Tb.cs4 (ht : Tb h tb ab len last l) {i : Nat} (hi : i < 8) : h.cells (ab, i * 8 + 2) 4 = some (.agg [.int .i64 (l.getD i cr0).c, .int .i64 (l.getD i cr0).w, .int .i64 (l.getD i cr0).e, .int .i64 (l.getD i cr0).u]) := by
  rw [Heap.cells_g, ht.a, cellsB_own, flat_drop l i 2 (by rw [ht.n]; exact hi) (by omega)]
  show (takeN 4 (_ :: _ :: _ :: _ :: _)).map AV.agg = _
  rw [takeN_app4]; rfl
theorem Tb.cs8 (ht : Tb h tb ab len last l) {i : Nat} (hi : i < 8) : h.cells (ab, i * 8) 8 = some (.agg (l.getD i cr0).cells) := by
  have e := flat_drop l i 0 (by rw [ht.n]; exact hi) (by omega)
  rw [Nat.add_zero] at e
  rw [Heap.cells_g, ht.a, cellsB_own, e]
  show (takeN 8 (_ :: _ :: _ :: _ :: _ :: _ :: _ :: _ :: _)).map AV.agg = _
  rw [takeN_app8]; rfl
theorem free_spec (ht : Tb h tb ab len last l) {i : Nat} (hi : i < 8) (now : Int) : f11 N (some (tb, 0)) (i : Int) now h = some (!(l.getD i cr0).lent && !(l.getD i cr0).ended && decide ((l.getD i cr0).waits ≤ now), h) := by
  unfold f11
  simp only [at_spec ht hi, bind2_some, Option.isNone_some, Bool.not_false, cond_true, need_some, ht.c0 hi, bindV_some, cast_bool, ht.c1 hi, ht.c7 hi, cast_int, leInt_dec]
  cases (l.getD i cr0).lent <;> cases (l.getD i cr0).ended <;> simp
theorem timed_spec {now : Int} (h1 : 0 ≤ now) (h2 : now ≤ 1099511627776) : f21 N now h = some (true, h) := by
  simp [f21, leInt_dec, h1, h2]
theorem cast4 {β : Type} (a b c d : Int) (K : (Int × Int × Int × Int × Unit) → Option β) : (Ty.val (.agg [(.int .i64), (.int .i64), (.int .i64), (.int .i64)])).cast (.agg [.int .i64 a, .int .i64 b, .int .i64 c, .int .i64 d]) K = K (a, b, c, d, ()) := rfl
theorem cast8 {β : Type} (x : Cr) (K : (Bool × Bool × Int × Int × Int × Int × Int × Int × Unit) → Option β) : (Ty.val (.agg [.bool, .bool, (.int .i64), (.int .i64), (.int .i64), (.int .i64), (.int .i64), (.int .i64)])).cast (.agg x.cells) K = K (x.lent, x.ended, x.c, x.w, x.e, x.u, x.tries, x.waits, ()) := rfl
/-- a copy of four -/
theorem four {a b c d a' b' c' d' : AV} : over 0 [a, b, c, d] [a', b', c', d'] = some [a', b', c', d'] := by simp [over_zero, over_nil]
def lease (x : Cr) : Int × Int × Int × Int × Unit := if x.lent then (x.c, x.w, x.e, x.u, ()) else (0, 0, 0, 0, ())
theorem store_push (H : Heap) (b vs cs : List AV) (ho : over 0 b vs = some cs) : (H.push (.row b .own)).store (H.next, 0) vs = some ((H.push (.row b .own)).put H.next (.row cs .own)) := by
  rw [Heap.store_g, g_push_eq _ rfl, storeB_own, ho]; rfl
theorem keep_pp (H : Heap) (b c : Blk) : Keep H.next H ((H.push b).put H.next c) := (((Keep.refl _ _).push (Nat.le_refl _) _).put (Nat.le_refl _) _)
theorem cells_pp (H : Heap) (b : Blk) (a1 a2 a3 a4 : AV) : ((H.push b).put H.next (.row [a1, a2, a3, a4] .own)).cells (H.next, 0) 4 = some (.agg [a1, a2, a3, a4]) := by
  rw [Heap.cells_g, g_put_eq _ rfl, cellsB_own]; simp [takeN_succ, takeN_zero]
theorem of_spec (ht : Tb h tb ab len last l) {i : Nat} (hi : i < 8) : ∃ h', f14 N (some (tb, 0)) (i : Int) h = some ((lease (l.getD i cr0), (l.getD i cr0).lent, ()), h') ∧ Keep h.next h h' := by
  have kp : Keep h.next h (h.push (.row [.int .i64 0, .int .i64 0, .int .i64 0, .int .i64 0] .own)) := (Keep.refl _ _).push (Nat.le_refl _) _
  have ht1 := ht.keep kp
  have st := fun a b c d => store_push h [.int .i64 0, .int .i64 0, .int .i64 0, .int .i64 0] [a, b, c, d] [a, b, c, d] four
  refine ⟨_, ?_, keep_pp h (.row [.int .i64 0, .int .i64 0, .int .i64 0, .int .i64 0] .own) (.row [.int .i64 (lease (l.getD i cr0)).1, .int .i64 (lease (l.getD i cr0)).2.1, .int .i64 (lease (l.getD i cr0)).2.2.1, .int .i64 (lease (l.getD i cr0)).2.2.2.1] .own)⟩
  unfold f14
  simp only [at_spec ht1 hi, bind2_some, Option.isNone_some, cond_false, need_some, ht1.c0 hi, bindV_some, cast_bool, ht1.cs4 hi]
  cases hl : (l.getD i cr0).lent
  · simp only [lease, hl, Bool.false_eq_true, if_false, Bool.not_false, cond_true, st, need_some, cells_pp, bindV_some, cast4]
  · simp only [lease, hl, if_true, Bool.not_true, cond_false]
    simp only [cast4, st, need_some, cells_pp, bindV_some]
end Go.Proofs.Ytdnmgcffccilkaa.Le

open Go Go.Proofs.Ytdnmgcffccilkaa.Ai Go.Proofs
namespace Go.Proofs.Ytdnmgcffccilkaa.Le
variable {h h' h0 : Heap} {tb ab : Nat} {len last : Int} {l : List Cr} {N : Nat}
def heldB (w : Int) (x : Cr) : Bool := x.lent && decide (x.w = w)
theorem eight (x : Cr) : over 0 [.bool false, .bool false, .int .i64 0, .int .i64 0, .int .i64 0, .int .i64 0, .int .i64 0, .int .i64 0] x.cells = some x.cells := by simp [Cr.cells, over_zero, over_nil]
theorem held_loop (ht : Tb h0 tb ab len last l) (w : Int) {p : Nat} (hp0 : h0.next ≤ p) : ∀ (M i : Nat) (h : Heap), i ≤ 8 → 8 - i < M → Keep h0.next h0 h → p < h.next → (∃ a b c d : Int, h.g p = some (.row [.int .i64 a, .int .i64 b, .int .i64 c, .int .i64 d] .own)) →
    ∃ o h', f15_l1 N M w (some (p, 0)) false ⟨some (ab, 0), 8, 8, 8⟩ 8 (i : Int) h = some (o, (some (p, 0), (l.drop i).any (heldB w), ()), h') ∧ eqOut o (.exit 0) = !(l.drop i).any (heldB w) ∧ Keep h0.next h0 h' ∧ p < h'.next ∧ ∃ a b c d : Int, h'.g p = some (.row [.int .i64 a, .int .i64 b, .int .i64 c, .int .i64 d] .own) := by
  intro M
  induction M with
  | zero => intro i h h1 h2; omega
  | succ M ih =>
    intro i h h1 h2 hk hpl hp
    rw [f15_l1_succ]
    unfold f15_l1_b
    by_cases hi : i < 8
    · have ew : wrapA .i64 ((i : Int) + 1) = ((i + 1 : Nat) : Int) := wrapA_small (by omega) (by omega)
      have hlt : ltInt (i : Int) 8 = true := by rw [ltInt_dec]; simp only [decide_eq_true_eq]; omega
      have ht1 := ht.keep hk
      have hnx := hk.next
      have hd : l.drop i = l.getD i cr0 :: l.drop (i + 1) := by
        rw [List.drop_eq_getElem_cons (by rw [ht.n]; exact hi), getD_lt _ _ (by rw [ht.n]; exact hi)]
      have st := store_push h [.bool false, .bool false, .int .i64 0, .int .i64 0, .int .i64 0, .int .i64 0, .int .i64 0, .int .i64 0] (l.getD i cr0).cells _ (eight _)
      have cs8 := ht1.cs8 hi
      generalize l.getD i cr0 = x at *
      generalize hH : (h.push (.row [.bool false, .bool false, .int .i64 0, .int .i64 0, .int .i64 0, .int .i64 0, .int .i64 0, .int .i64 0] .own)).put h.next (.row x.cells .own) = H at st
      have kH : Keep h.next h H := by rw [← hH]; exact keep_pp _ _ _
      have kH0 : Keep h0.next h0 H := hk.trans (kH.mono hnx)
      have gx : H.g h.next = some (.row x.cells .own) := by rw [← hH]; exact g_put_eq _ rfl
      have gp : H.g p = h.g p := kH.g p hpl
      have hHn : H.next = h.next + 1 := by rw [← hH]; rfl
      have r0 : H.cell (h.next, 0 + 0) = some (.bool x.lent) := by rw [Heap.cell_g, gx, cellB_own]; rfl
      have r3 : H.cell (h.next, 0 + 2 + 1) = some (.int .i64 x.w) := by rw [Heap.cell_g, gx, cellB_own]; rfl
      have r4 : H.cells (h.next, 0 + 2) 4 = some (.agg [.int .i64 x.c, .int .i64 x.w, .int .i64 x.e, .int .i64 x.u]) := by
        rw [Heap.cells_g, gx, cellsB_own]
        show (takeN 4 (_ :: _ :: _ :: _ :: _)).map AV.agg = _
        rw [takeN_app4]; rfl
      have st' : (h.push (.row [.bool false, .bool false, .int .i64 0, .int .i64 0, .int .i64 0, .int .i64 0, .int .i64 0, .int .i64 0] .own)).store (h.next, 0) [.bool x.lent, .bool x.ended, .int .i64 x.c, .int .i64 x.w, .int .i64 x.e, .int .i64 x.u, .int .i64 x.tries, .int .i64 x.waits] = some H := st
      obtain ⟨a, b, c, d, hp⟩ := hp
      have sp : H.store (p, 0) [.int .i64 x.c, .int .i64 x.w, .int .i64 x.e, .int .i64 x.u] = some (H.put p (.row [.int .i64 x.c, .int .i64 x.w, .int .i64 x.e, .int .i64 x.u] .own)) := by
        rw [Heap.store_g, gp, hp, storeB_own, four]; rfl
      have go := ih (i + 1) H (by omega) (by omega) kH0 (by omega) ⟨a, b, c, d, by rw [gp]; exact hp⟩
      have hany : (l.drop i).any (heldB w) = (heldB w x || (l.drop (i + 1)).any (heldB w)) := by rw [hd]; rfl
      simp only [hlt, cond_true, ixc hi, cs8, bindV_some, cast8, st', need_some, r0, cast_bool]
      cases hl : x.lent with
      | false =>
        have hh : heldB w x = false := by simp [heldB, hl]
        rw [hany, hh, Bool.false_or]
        simp only [cond_false, ew]
        exact go
      | true =>
        simp only [cond_true, r3, bindV_some, cast_int, eqInt_dec]
        by_cases hw : x.w = w
        · have hh : heldB w x = true := by simp [heldB, hl, hw]
          rw [hany, hh, Bool.true_or]
          simp only [hw, decide_true, cond_true, r4, bindV_some, cast4, need_some]
          rw [hw] at sp
          rw [sp]
          refine ⟨_, _, rfl, rfl, kH0.put hp0 _, ?_, _, _, _, _, g_put_eq _ rfl⟩
          simp; omega
        · have hh : heldB w x = false := by simp [heldB, hw]
          rw [hany, hh, Bool.false_or]
          simp only [hw, decide_false, cond_false, ew]
          exact go
    · have : i = 8 := by omega
      subst this
      have hd : l.drop 8 = [] := List.drop_eq_nil_of_le (by rw [ht.n]; omega)
      refine ⟨.exit 0, h, ?_, ?_, hk, hpl, hp⟩
      · rw [hd]; rfl
      · rw [hd]; rfl
theorem held_spec (hN : 9 ≤ N) (ht : Tb h tb ab len last l) (w : Int) : ∃ r h', f15 N (some (tb, 0)) w h = some ((r, l.any (heldB w), ()), h') ∧ Keep h.next h h' := by
  have kp : Keep h.next h (h.push (.row [.int .i64 0, .int .i64 0, .int .i64 0, .int .i64 0] .own)) := (Keep.refl _ _).push (Nat.le_refl _) _
  have ht1 := ht.keep kp
  obtain ⟨o, h1, e1, e2, k1, p1, a, b, c, d, hp⟩ := held_loop (N := N) ht w (p := h.next) (Nat.le_refl _) N 0 _ (by omega) (by omega) kp (by simp) ⟨0, 0, 0, 0, g_push_eq _ rfl⟩
  simp only [Int.ofNat_zero, List.drop_zero] at e1 e2
  have e8 : Int.ofNat 8 = 8 := rfl
  unfold f15
  simp only [Option.isNone_some, Bool.not_false, cond_true, need_some, Nat.zero_add, ht1.rSl, bindV_some, cast_slice, e8, e1, bind3_some, e2]
  cases hany : l.any (heldB w) with
  | false =>
    have sp : h1.store (h.next, 0) [.int .i64 0, .int .i64 0, .int .i64 0, .int .i64 0] = some (h1.put h.next (.row [.int .i64 0, .int .i64 0, .int .i64 0, .int .i64 0] .own)) := by
      rw [Heap.store_g, hp, storeB_own, four]; rfl
    have cs : (h1.put h.next (.row [.int .i64 0, .int .i64 0, .int .i64 0, .int .i64 0] .own)).cells (h.next, 0) 4 = some (.agg [.int .i64 0, .int .i64 0, .int .i64 0, .int .i64 0]) := by
      rw [Heap.cells_g, g_put_eq _ rfl, cellsB_own]; simp [takeN_succ, takeN_zero]
    simp only [Bool.not_false, cond_true, sp, need_some, cs, bindV_some, cast4]
    exact ⟨_, _, rfl, k1.put (Nat.le_refl _) _⟩
  | true =>
    have cs : h1.cells (h.next, 0) 4 = some (.agg [.int .i64 a, .int .i64 b, .int .i64 c, .int .i64 d]) := by
      rw [Heap.cells_g, hp, cellsB_own]; simp [takeN_succ, takeN_zero]
    simp only [Bool.not_true, cond_false, cs, bindV_some, cast4]
    exact ⟨_, _, rfl, k1⟩
theorem err (c a : Int) (hc : c ≠ 0) (h : Heap) : ∃ z, f19 N c a h = some (.iface 60 z, h.push (.row [(.int .i64 c), (.int .i64 a), (AV.iface 50 (.int .i64 c))] .own)) := by
  refine ⟨.ptr (some (h.next, 0)), ?_⟩
  unfold f19
  simp only [eqInt_dec, hc, decide_false, cond_false]
theorem keep_push (h : Heap) (b : Blk) : Keep h.next h (h.push b) := (Keep.refl _ _).push (Nat.le_refl _) _
def given (x : Cr) (i w e u : Int) : Cr := { x with lent := true, c := i, w := w, e := e, u := u }
set_option maxRecDepth 10000 in
theorem give_spec (hN : 9 ≤ N) (ht : Tb h tb ab len last l) {i : Nat} (hi : i < 8) {w e now : Int} (hw1 : 1 ≤ w) (hw2 : w ≤ 4) (he1 : 1 ≤ e) (he2 : e ≤ 64) (hn1 : 0 ≤ now) (hn2 : now ≤ 63) (hlen1 : 0 ≤ len) (hlen2 : len ≤ 1000) :
    ∃ v h', f9 N (some (tb, 0)) (i : Int) w e now h = some (v, h') ∧ Eff tb ab h h' ∧
    ((v = .nilIface ∧ (l.getD i cr0).lent = false ∧ (l.getD i cr0).ended = false ∧ l.any (heldB w) = false ∧ last < e ∧ Tb h' tb ab len e (l.set i (given (l.getD i cr0) i w e (now + len)))) ∨ ((∃ z, v = .iface 60 z) ∧ Tb h' tb ab len last l)) := by
  obtain ⟨r, h1, e1, k1⟩ := held_spec hN ht w
  have ht1 := ht.keep k1
  obtain ⟨r1, r2, r3, r4, _⟩ := r
  have st := store_push h1 [.int .i64 0, .int .i64 0, .int .i64 0, .int .i64 0] [.int .i64 r1, .int .i64 r2, .int .i64 r3, .int .i64 r4] _ four
  have k2 := keep_pp h1 (.row [.int .i64 0, .int .i64 0, .int .i64 0, .int .i64 0] .own) (.row [.int .i64 r1, .int .i64 r2, .int .i64 r3, .int .i64 r4] .own)
  generalize (h1.push (.row [.int .i64 0, .int .i64 0, .int .i64 0, .int .i64 0] .own)).put h1.next (.row [.int .i64 r1, .int .i64 r2, .int .i64 r3, .int .i64 r4] .own) = H at st k2
  have ht2 := ht1.keep k2
  have ef : Eff tb ab h H := (Eff.of k1).trans (Eff.of k2)
  have bad : ∀ c : Int, c ≠ 0 → ∃ v h', bind2 (f19 N c 0 H) (fun (x9 : AV) h10 => some (x9, h10)) = some (v, h') ∧ Eff tb ab h h' ∧
    ((v = .nilIface ∧ (l.getD i cr0).lent = false ∧ (l.getD i cr0).ended = false ∧ l.any (heldB w) = false ∧ last < e ∧ Tb h' tb ab len e (l.set i (given (l.getD i cr0) i w e (now + len)))) ∨ ((∃ z, v = .iface 60 z) ∧ Tb h' tb ab len last l)) := by
    intro c hc
    obtain ⟨z, ez⟩ := err (N := N) c 0 hc H
    refine ⟨_, _, by rw [ez]; rfl, ef.trans (Eff.of (keep_push _ _)), .inr ⟨⟨z, rfl⟩, ht2.keep (keep_push _ _)⟩⟩
  have d1 : ltInt w 1 = false := by rw [ltInt_dec]; simp only [decide_eq_false_iff_not]; omega
  have d2 : leInt 65 w = false := by rw [leInt_dec]; simp only [decide_eq_false_iff_not]; omega
  have d3 : ltInt e 1 = false := by rw [ltInt_dec]; simp only [decide_eq_false_iff_not]; omega
  have d4 : ltInt 1099511627776 e = false := by rw [ltInt_dec]; simp only [decide_eq_false_iff_not]; omega
  unfold f9
  simp only [at_spec ht hi, bind2_some, e1, st, need_some, Option.isNone_some, cond_false, d1, d2, d3, d4, timed_spec hn1 (show now ≤ 1099511627776 by omega), Bool.not_true, free_spec ht2 hi]
  by_cases hfree : (!(l.getD i cr0).lent && !(l.getD i cr0).ended && decide ((l.getD i cr0).waits ≤ now)) = true
  · rw [hfree]
    simp only [Bool.not_true, cond_false]
    cases hany : l.any (heldB w) with
    | true => rw [hany] at bad; simp only [cond_true]; exact bad 13 (by omega)
    | false =>
      rw [hany] at bad
      simp only [cond_false, Nat.zero_add, ht2.rLast, bindV_some, cast_int, leInt_dec]
      by_cases hlast : e ≤ last
      · simp only [hlast, decide_true, cond_true]
        have := bad 14 (by omega)
        simp only [eq_self] at this
        exact this
      · simp only [hlast, decide_false, cond_false]
        simp only [Bool.and_eq_true, Bool.not_eq_true'] at hfree
        obtain ⟨⟨f1, f2⟩, f3⟩ := hfree
        obtain ⟨s3, t3, f3'⟩ := ht2.putLast e
        generalize H.put tb _ = H3 at s3 t3 f3'
        obtain ⟨s4, t4, f4'⟩ := t3.put (y := { l.getD i cr0 with lent := true }) (vs := [.bool true]) (j := 0) (k := i * 8 + 0) hi (by simp) rfl (by simp [Cr.cells, over_zero, over_nil])
        generalize H3.put ab _ = H4 at s4 t4 f4'
        have hx : (l.set i { l.getD i cr0 with lent := true }).getD i cr0 = { l.getD i cr0 with lent := true } := by
          rw [List.getD_eq_getElem?_getD, List.getElem?_set_self (by rw [ht.n]; exact hi)]; rfl
        have ew : wrapA .i64 (now + len) = now + len := wrapA_small (by omega) (by omega)
        obtain ⟨s5, t5, f5'⟩ := t4.put (y := given (l.getD i cr0) i w e (now + len)) (vs := [.int .i64 i, .int .i64 w, .int .i64 e, .int .i64 (now + len)]) (j := 2) (k := i * 8 + 2) hi (by simp) rfl (by rw [hx]; simp [Cr.cells, given, over_zero, over_succ, over_nil])
        generalize H4.put ab _ = H5 at s5 t5 f5'
        rw [List.set_set] at t5
        have e4 : H4.cell (tb, 0 + 0) = some (.int .i64 len) := t4.rLen
        simp only [s3, need_some, s4, e4, t4.rLen, bindV_some, cast_int, ew, s5]
        exact ⟨_, _, rfl, ((ef.trans f3').trans f4').trans f5', .inl ⟨rfl, f1, f2, trivial, by omega, t5⟩⟩
  · rw [Bool.not_eq_true] at hfree
    rw [hfree]
    simp only [Bool.not_false, cond_true]
    exact bad 13 (by omega)
end Go.Proofs.Ytdnmgcffccilkaa.Le

open Go Go.Proofs.Ytdnmgcffccilkaa.Ai Go.Proofs
namespace Go.Proofs.Ytdnmgcffccilkaa.Le
variable {h h' h0 : Heap} {tb ab : Nat} {len last : Int} {l : List Cr} {N B : Nat}
def beatX (x : Cr) (t : Int) : Cr := { x with u := if x.u < t then t else x.u }
theorem beat_spec (ht : Tb h tb ab len last l) {i : Nat} (hi : i < 8) {ep now : Int} (hn1 : 0 ≤ now) (hn2 : now ≤ 63) (hlen1 : 0 ≤ len) (hlen2 : len ≤ 1000) :
    ∃ v h', f10 N (some (tb, 0)) (i : Int) ep now h = some (v, h') ∧ Eff tb ab h h' ∧
    ((v = .nilIface ∧ (l.getD i cr0).lent = true ∧ (l.getD i cr0).e = ep ∧ Tb h' tb ab len last (l.set i (beatX (l.getD i cr0) (now + len)))) ∨ ((∃ z, v = .iface 60 z) ∧ ¬ ((l.getD i cr0).lent = true ∧ (l.getD i cr0).e = ep) ∧ Tb h' tb ab len last l)) := by
  have e0 : h.cell (tb, 0 + 0) = some (.int .i64 len) := ht.rLen
  have ew : wrapA .i64 (now + len) = now + len := wrapA_small (by omega) (by omega)
  unfold f10
  simp only [at_spec ht hi, bind2_some, Option.isNone_some, cond_false, timed_spec hn1 (show now ≤ 1099511627776 by omega), Bool.not_true, need_some, ht.c0 hi, bindV_some, cast_bool]
  cases hl : (l.getD i cr0).lent with
  | false =>
    obtain ⟨z, ez⟩ := err (N := N) 10 0 (by omega) h
    simp only [Bool.not_false, cond_true, ez, bind2_some]
    exact ⟨_, _, rfl, Eff.of (keep_push _ _), .inr ⟨⟨z, rfl⟩, by simp, ht.keep (keep_push _ _)⟩⟩
  | true =>
    simp only [Bool.not_true, cond_false, ht.c24 hi, bindV_some, cast_int, eqInt_dec]
    by_cases he : (l.getD i cr0).e = ep
    · obtain ⟨s1, t1, f1⟩ := ht.put (y := beatX (l.getD i cr0) (now + len)) (vs := [.int .i64 (if (l.getD i cr0).u < now + len then now + len else (l.getD i cr0).u)]) (j := 5) (k := i * 8 + 2 + 3) hi (by simp) rfl (by simp [Cr.cells, beatX, over_zero, over_succ, over_nil])
      generalize h.put ab _ = H1 at s1 t1 f1
      have em : (bif ltInt (l.getD i cr0).u (now + len) then now + len else (l.getD i cr0).u) = (if (l.getD i cr0).u < now + len then now + len else (l.getD i cr0).u) := by
        rw [ltInt_dec]; by_cases h : (l.getD i cr0).u < now + len <;> simp [h]
      simp only [he, decide_true, Bool.not_true, cond_false, ht.c25 hi, e0, bindV_some, cast_int, ew, em, s1, need_some]
      exact ⟨_, _, rfl, f1, .inl ⟨rfl, trivial, trivial, t1⟩⟩
    · obtain ⟨z, ez⟩ := err (N := N) 14 0 (by omega) h
      simp only [he, decide_false, Bool.not_false, cond_true, ez, bind2_some]
      exact ⟨_, _, rfl, Eff.of (keep_push _ _), .inr ⟨⟨z, rfl⟩, by simp, ht.keep (keep_push _ _)⟩⟩
def endX (x : Cr) : Cr := { x with lent := false, ended := true, c := 0, w := 0, e := 0, u := 0 }
theorem end_spec (ht : Tb h tb ab len last l) {i : Nat} (hi : i < 8) :
    ∃ v h', f16 N (some (tb, 0)) (i : Int) h = some (v, h') ∧ Eff tb ab h h' ∧
    ((v = .nilIface ∧ (l.getD i cr0).ended = false ∧ Tb h' tb ab len last (l.set i (endX (l.getD i cr0)))) ∨ ((∃ z, v = .iface 60 z) ∧ (l.getD i cr0).ended = true ∧ Tb h' tb ab len last l)) := by
  unfold f16
  simp only [at_spec ht hi, bind2_some, Option.isNone_some, cond_false, need_some, ht.c1 hi, bindV_some, cast_bool]
  cases hl : (l.getD i cr0).ended with
  | true =>
    obtain ⟨z, ez⟩ := err (N := N) 13 0 (by omega) h
    simp only [cond_true, ez, bind2_some]
    exact ⟨_, _, rfl, Eff.of (keep_push _ _), .inr ⟨⟨z, rfl⟩, trivial, ht.keep (keep_push _ _)⟩⟩
  | false =>
    have sx : ∀ x y : Cr, (l.set i x).getD i cr0 = x := fun x _ => by
      rw [List.getD_eq_getElem?_getD, List.getElem?_set_self (by rw [ht.n]; exact hi)]; rfl
    obtain ⟨s1, t1, f1⟩ := ht.put (y := { l.getD i cr0 with lent := false }) (vs := [.bool false]) (j := 0) (k := i * 8 + 0) hi (by simp) rfl (by simp [Cr.cells, over_zero, over_nil])
    generalize h.put ab _ = H1 at s1 t1 f1
    obtain ⟨s2, t2, f2⟩ := t1.put (y := { l.getD i cr0 with lent := false, ended := true }) (vs := [.bool true]) (j := 1) (k := i * 8 + 1) hi (by simp) rfl (by rw [sx _ cr0]; simp [Cr.cells, over_zero, over_succ, over_nil])
    generalize H1.put ab _ = H2 at s2 t2 f2
    rw [List.set_set] at t2
    obtain ⟨s3, t3, f3⟩ := t2.put (y := endX (l.getD i cr0)) (vs := [.int .i64 0, .int .i64 0, .int .i64 0, .int .i64 0]) (j := 2) (k := i * 8 + 2) hi (by simp) rfl (by rw [sx _ cr0]; simp [Cr.cells, endX, over_zero, over_succ, over_nil])
    generalize H2.put ab _ = H3 at s3 t3 f3
    rw [List.set_set] at t3
    simp only [cond_false, s1, s2, s3, need_some]
    exact ⟨_, _, rfl, (f1.trans f2).trans f3, .inl ⟨rfl, trivial, t3⟩⟩
theorem back_b (n : Int) : ∃ b, 0 ≤ b ∧ b ≤ 8 ∧ ∀ h, f6 N n h = some (b, h) := by
  have e2 : wrapA .i64 (1 * 2) = 2 := by decide +kernel
  have e4 : wrapA .i64 (2 * 2) = 4 := by decide +kernel
  have e8 : wrapA .i64 (4 * 2) = 8 := by decide +kernel
  unfold f6
  simp only [e2, e4, e8, ltInt_dec, eqInt_dec]
  by_cases h1 : n < 1
  · exact ⟨0, by omega, by omega, fun h => by simp [h1]⟩
  · by_cases h3 : n = 3
    · subst h3; exact ⟨4, by omega, by omega, fun h => by simp⟩
    · by_cases h2 : n = 2
      · subst h2; exact ⟨2, by omega, by omega, fun h => by simp⟩
      · by_cases h1' : n = 1
        · subst h1'; exact ⟨1, by omega, by omega, fun h => by simp⟩
        · exact ⟨8, by omega, by omega, fun h => by simp [h1, h2, h3, h1']⟩
/-- taken back, or not -/
def Ov (x y : Cr) : Prop := y = x ∨ ∃ t w : Int, 0 ≤ t ∧ t ≤ 8 ∧ 0 ≤ w ∧ w ≤ 100 ∧ y = { x with lent := false, c := 0, w := 0, e := 0, u := 0, tries := t, waits := w }
theorem app34 : App1 E 34 3 := .of (by kernel_rfl) (by kernel_rfl) (by kernel_rfl)
theorem over_loop {now : Int} (hn1 : 0 ≤ now) (hn2 : now ≤ 63) (hx0 : tb < h0.next) (hx1 : ab < h0.next) (htr : ∀ k, k < 8 → 0 ≤ (l.getD k cr0).tries ∧ (l.getD k cr0).tries ≤ 8) : ∀ (M i : Nat) (h : Heap) (sv : SL) (out : List AV) (l' : List Cr), i ≤ 8 → 8 - i < M → Tb h tb ab len last l' → Eff tb ab h0 h → Own1 h0.next h sv out → out.length ≤ i → (∀ k, k < i → Ov (l.getD k cr0) (l'.getD k cr0)) → (∀ k, i ≤ k → l'.getD k cr0 = l.getD k cr0) →
    ∃ h' sv' l'', f12_l1 N M (some (tb, 0)) now sv 8 (i : Int) h = some (.exit 0, (sv', ()), h') ∧ Tb h' tb ab len last l'' ∧ Eff tb ab h0 h' ∧ ∀ k, k < 8 → Ov (l.getD k cr0) (l''.getD k cr0) := by
  intro M
  induction M with
  | zero => intro i h sv out l' h1 h2; omega
  | succ M ih =>
    intro i h sv out l' h1 h2 ht hef ho hol hlo hhi
    rw [f12_l1_succ]
    unfold f12_l1_b
    by_cases hi : i < 8
    · have ew : wrapA .i64 ((i : Int) + 1) = ((i + 1 : Nat) : Int) := wrapA_small (by omega) (by omega)
      have hlt : ltInt (i : Int) 8 = true := by rw [ltInt_dec]; simp only [decide_eq_true_eq]; omega
      have hii := hhi i (Nat.le_refl _)
      have same := ih (i + 1) h sv out l' (by omega) (by omega) ht hef ho (by omega) (fun k hk => by
          by_cases e : k = i
          · subst e; exact .inl hii
          · exact hlo k (by omega)) (fun k hk => hhi k (by omega))
      have htri := htr i hi
      rw [← hii] at htri
      simp only [hlt, cond_true, need_some, Nat.zero_add, ht.rSl, bindV_some, cast_slice, ixc hi, ht.c0 hi, cast_bool, ht.c25 hi, cast_int, leInt_dec, ew]
      cases hl : (l'.getD i cr0).lent with
      | false => simp only [Bool.not_false, cond_true]; exact same
      | true =>
        simp only [Bool.not_true, cond_false]
        by_cases hu : now ≤ (l'.getD i cr0).u
        · simp only [hu, decide_true, cond_true]; exact same
        · simp only [hu, decide_false, cond_false]
          have sx : ∀ x : Cr, (l'.set i x).getD i cr0 = x := fun x => by
            rw [List.getD_eq_getElem?_getD, List.getElem?_set_self (by rw [ht.n]; exact hi)]; rfl
          have sn : ∀ (x : Cr) (k : Nat), k ≠ i → (l'.set i x).getD k cr0 = l'.getD k cr0 := fun x k hk => by
            rw [List.getD_eq_getElem?_getD, List.getElem?_set_ne (fun e => hk e.symm), ← List.getD_eq_getElem?_getD]
          obtain ⟨s1, t1, f1⟩ := ht.put (y := { l'.getD i cr0 with lent := false }) (vs := [.bool false]) (j := 0) (k := i * 8 + 0) hi (by simp) rfl (by simp [Cr.cells, over_zero, over_nil])
          generalize h.put ab _ = H1 at s1 t1 f1
          obtain ⟨s2, t2, f2⟩ := t1.put (y := { l'.getD i cr0 with lent := false, c := 0, w := 0, e := 0, u := 0 }) (vs := [.int .i64 0, .int .i64 0, .int .i64 0, .int .i64 0]) (j := 2) (k := i * 8 + 2) hi (by simp) rfl (by rw [sx]; simp [Cr.cells, over_zero, over_succ, over_nil])
          generalize H1.put ab _ = H2 at s2 t2 f2
          rw [List.set_set] at t2
          have r6 := t2.c6 hi
          rw [sx] at r6
          have et : wrapA .i64 ((l'.getD i cr0).tries + 1) = (l'.getD i cr0).tries + 1 := wrapA_small (by omega) (by omega)
          generalize hT : (bif ltInt 8 ((l'.getD i cr0).tries + 1) then (8 : Int) else (l'.getD i cr0).tries + 1) = T
          have hTb : 0 ≤ T ∧ T ≤ 8 := by
            rw [ltInt_dec] at hT
            by_cases h8 : 8 < (l'.getD i cr0).tries + 1
            · simp only [h8, decide_true, cond_true] at hT; omega
            · simp only [h8, decide_false, cond_false] at hT; omega
          obtain ⟨s3, t3, f3⟩ := t2.put (y := { l'.getD i cr0 with lent := false, c := 0, w := 0, e := 0, u := 0, tries := T }) (vs := [.int .i64 T]) (j := 6) (k := i * 8 + 6) hi (by simp) rfl (by rw [sx]; simp [Cr.cells, over_zero, over_succ, over_nil])
          generalize H2.put ab _ = H3 at s3 t3 f3
          rw [List.set_set] at t3
          have r6' := t3.c6 hi
          rw [sx] at r6'
          obtain ⟨b, b1, b2, eb⟩ := back_b (N := N) T
          have en : wrapA .i64 (now + b) = now + b := wrapA_small (by omega) (by omega)
          obtain ⟨s4, t4, f4⟩ := t3.put (y := { l'.getD i cr0 with lent := false, c := 0, w := 0, e := 0, u := 0, tries := T, waits := now + b }) (vs := [.int .i64 (now + b)]) (j := 7) (k := i * 8 + 7) hi (by simp) rfl (by rw [sx]; simp [Cr.cells, over_zero, over_succ, over_nil])
          generalize H3.put ab _ = H4 at s4 t4 f4
          rw [List.set_set] at t4
          have f14 := ((f1.trans f2).trans f3).trans f4
          have o4 : Own1 h0.next H4 sv out := by
            rcases ho with hx | ⟨A, cs, st, q1, q2, q3, q4, q5, q6⟩
            · exact .inl hx
            · exact .inr ⟨A, cs, st, q1, q2, q3, Nat.lt_of_lt_of_le q4 f14.next, by rw [f14.g A q4 (by omega) (by omega)]; exact q5, q6⟩
          have hnx := (hef.trans f14).next
          obtain ⟨sv', H5, e5, o5, b5, c5⟩ := append_own1 app34 (v := AV.int .i64 (i : Int)) rfl o4 hnx (by omega)
          have k5 : Keep h0.next H4 H5 := b5.keep (by omega) (fun A hA => (o4.ge A hA).1)
          have f5 : Eff tb ab h0 H5 := by
            have f04 := hef.trans f14
            exact ⟨fun A hA h1 h2 => (k5.g A hA).trans (f04.g A hA h1 h2), Nat.le_trans f04.next k5.next⟩
          have t5 : Tb H5 tb ab len last _ := ⟨by rw [k5.g _ hx0]; exact t4.t, by rw [k5.g _ hx1]; exact t4.a, t4.n, t4.ne, Nat.lt_of_lt_of_le t4.lt k5.next, Nat.lt_of_lt_of_le t4.la k5.next⟩
          simp only [s1, need_some, s2, r6, bindV_some, cast_int, et, hT, s3, r6', eb, bind2_some, en, s4]
          rw [e5]
          simp only [bindT_some, cast_slice]
          refine ih (i + 1) H5 sv' _ _ (by omega) (by omega) t5 f5 o5 (by simp; omega) (fun k hk => ?_) (fun k hk => ?_)
          · by_cases e : k = i
            · subst e
              rw [sx, ← hii]
              exact .inr ⟨T, now + b, hTb.1, hTb.2, by omega, by omega, rfl⟩
            · rw [sn _ _ e]; exact hlo k (by omega)
          · rw [sn _ _ (by omega)]; exact hhi k (by omega)
    · have : i = 8 := by omega
      subst this
      exact ⟨h, sv, l', rfl, ht, hef, hlo⟩
theorem over_spec (hN : 9 ≤ N) (ht : Tb h tb ab len last l) {now : Int} (hn1 : 0 ≤ now) (hn2 : now ≤ 63) (htr : ∀ k, k < 8 → 0 ≤ (l.getD k cr0).tries ∧ (l.getD k cr0).tries ≤ 8) :
    ∃ sv h' l', f12 N (some (tb, 0)) now h = some (sv, h') ∧ Eff tb ab h h' ∧ Tb h' tb ab len last l' ∧ ∀ k, k < 8 → Ov (l.getD k cr0) (l'.getD k cr0) := by
  obtain ⟨h', sv, l', e, t, f, o⟩ := over_loop (N := N) (h0 := h) (l := l) hn1 hn2 ht.lt ht.la htr N 0 h ⟨none, 0, 0, 0⟩ [] l (by omega) (by omega) ht (Eff.refl _ _ _) (Own1.nil _ _ _) (by simp) (fun k hk => by omega) (fun k _ => rfl)
  refine ⟨sv, h', l', ?_, f, t, o⟩
  simp only [Int.ofNat_zero] at e
  have e8 : Int.ofNat 8 = 8 := rfl
  unfold f12
  simp only [Option.isNone_some, cond_false, timed_spec hn1 (show now ≤ 1099511627776 by omega), bind2_some, Bool.not_true, need_some, Nat.zero_add, ht.rSl, bindV_some, cast_slice, e8]
  have e' : f12_l1 N N (some (tb, 0)) now ⟨none, 0, 0, 0⟩ 8 0 h = some (.exit 0, (sv, ()), h') := e
  rw [e']
  rfl
end Go.Proofs.Ytdnmgcffccilkaa.Le

open Go Go.Proofs.Ytdnmgcffccilkaa.Ai Go.Proofs
namespace Go.Proofs.Ytdnmgcffccilkaa.Le
variable {h h' h0 : Heap} {tb ab eb sb : Nat} {len last : Int} {l : List Cr} {N B : Nat}
/-- what holds of a table -/
structure Good (l : List Cr) : Prop where
  tr : ∀ k, k < 8 → 0 ≤ (l.getD k cr0).tries ∧ (l.getD k cr0).tries ≤ 8
  lent : ∀ k : Nat, k < 8 → (l.getD k cr0).lent = true → (l.getD k cr0).ended = false ∧ (l.getD k cr0).c = (k : Int) ∧ 1 ≤ (l.getD k cr0).w ∧ (l.getD k cr0).w ≤ 4
  one : ∀ i j : Nat, i < 8 → j < 8 → (l.getD i cr0).lent = true → (l.getD j cr0).lent = true → (l.getD i cr0).w = (l.getD j cr0).w → i = j
/-- a row of so many truths -/
def Bl (h : Heap) (A : Nat) (bs : List Bool) : Prop := h.g A = some (.row (bs.map AV.bool) .own) ∧ bs.length = 8
theorem Bl.cell {bs : List Bool} (hb : Bl h eb bs) {i : Nat} (hi : i < 8) : h.cell (eb, i) = some (.bool (bs.getD i false)) := by
  rw [Heap.cell_g, hb.1, cellB_own, List.head?_drop, List.getElem?_map, List.getElem?_eq_getElem (by rw [hb.2]; exact hi), getD_lt _ _ (by rw [hb.2]; exact hi)]; rfl
theorem over1 : ∀ (l : List AV) (i : Nat) (v : AV), i < l.length → over i l [v] = some (l.set i v)
  | [], i, v, h => by simp at h
  | x :: l, 0, v, h => by simp [over_zero, over_nil]
  | x :: l, i + 1, v, h => by rw [over_succ, over1 l i v (by simpa using h)]; rfl
theorem Bl.put {bs : List Bool} (hb : Bl h eb bs) {i : Nat} (hi : i < 8) (b : Bool) : h.store (eb, i) [.bool b] = some (h.put eb (.row ((bs.set i b).map AV.bool) .own)) ∧ Bl (h.put eb (.row ((bs.set i b).map AV.bool) .own)) eb (bs.set i b) := by
  refine ⟨?_, g_put_eq _ rfl, by rw [List.length_set]; exact hb.2⟩
  rw [Heap.store_g, hb.1, storeB_own, over1 _ _ _ (by rw [List.length_map, hb.2]; exact hi), List.map_set]; rfl
theorem ixb {β : Type} {A i : Nat} (hi : i < 8) (K : Nat × Nat → Option β) : ixK (some (A, 0)) 8 (i : Int) 1 K = K (A, i) := by
  have : Nat.blt i 8 = true := by simpa [Nat.blt_eq] using hi
  show (bif Nat.blt i 8 then need (some (A, 0)) fun q => K (q.1, q.2 + i * 1) else none) = _
  rw [this]; simp only [cond_true, need_some, Nat.zero_add, Nat.mul_one]
theorem seen_loop (hg : Good l) (ht0 : Tb h0 tb ab len last l) {es : List Bool} (he0 : Bl h0 eb es) (hel : eb < h0.next) (hes : ∀ k, k < 8 → es.getD k false = (l.getD k cr0).ended) (v1 : SL) (v7 v9 : Int) (hsb : h0.next ≤ sb) : ∀ (M k : Nat) (h : Heap) (S : List Bool), k ≤ 8 → 8 - k < M → Keep h0.next h0 h → sb < h.next → Bl h sb S → (∀ w : Nat, S.getD w false = true → ∃ j, j < k ∧ (l.getD j cr0).lent = true ∧ (l.getD j cr0).w = (w : Int)) →
    ∃ h', f5_l2 N M v1 false (some (tb, 0)) v7 (some (eb, 0)) v9 (some (sb, 0)) (k : Int) h = some (.exit 3, (v1, false, some (tb, 0), v7, some (eb, 0), v9, ()), h') ∧ Keep h0.next h0 h' := by
  intro M
  induction M with
  | zero => intro k h S h1 h2; omega
  | succ M ih =>
    intro k h S h1 h2 hk hsl hS hsw
    rw [f5_l2_succ]
    unfold f5_l2_b
    by_cases hi : k < 8
    · have ew : wrapA .i64 ((k : Int) + 1) = ((k + 1 : Nat) : Int) := wrapA_small (by omega) (by omega)
      have hlt : ltInt (k : Int) 8 = true := by rw [ltInt_dec]; simp only [decide_eq_true_eq]; omega
      have ht := ht0.keep hk
      obtain ⟨h1', e1, k1⟩ := of_spec (N := N) ht hi
      have st := store_push h1' [.int .i64 0, .int .i64 0, .int .i64 0, .int .i64 0] [.int .i64 (lease (l.getD k cr0)).1, .int .i64 (lease (l.getD k cr0)).2.1, .int .i64 (lease (l.getD k cr0)).2.2.1, .int .i64 (lease (l.getD k cr0)).2.2.2.1] _ four
      generalize hH : (h1'.push (.row [.int .i64 0, .int .i64 0, .int .i64 0, .int .i64 0] .own)).put h1'.next (.row [.int .i64 (lease (l.getD k cr0)).1, .int .i64 (lease (l.getD k cr0)).2.1, .int .i64 (lease (l.getD k cr0)).2.2.1, .int .i64 (lease (l.getD k cr0)).2.2.2.1] .own) = H at st
      have kH : Keep h1'.next h1' H := by rw [← hH]; exact keep_pp _ _ _
      have hnx := hk.next
      have hnx1 := k1.next
      have hHn : H.next = h1'.next + 1 := by rw [← hH]; rfl
      have kH0 : Keep h0.next h0 H := (hk.trans (k1.mono hnx)).trans (kH.mono (by omega))
      have gx : H.g h1'.next = some (.row [.int .i64 (lease (l.getD k cr0)).1, .int .i64 (lease (l.getD k cr0)).2.1, .int .i64 (lease (l.getD k cr0)).2.2.1, .int .i64 (lease (l.getD k cr0)).2.2.2.1] .own) := by rw [← hH]; exact g_put_eq _ rfl
      have r0 : H.cell (h1'.next, 0 + 0) = some (.int .i64 (lease (l.getD k cr0)).1) := by rw [Heap.cell_g, gx, cellB_own]; rfl
      have r1 : H.cell (h1'.next, 0 + 1) = some (.int .i64 (lease (l.getD k cr0)).2.1) := by rw [Heap.cell_g, gx, cellB_own]; rfl
      have hSH : Bl H sb S := ⟨by rw [kH.g sb (by omega), k1.g sb hsl]; exact hS.1, hS.2⟩
      have heH : Bl H eb es := ⟨by rw [kH0.g eb hel]; exact he0.1, he0.2⟩
      simp only [hlt, cond_true, e1, bind2_some, st, need_some]
      cases hl : (l.getD k cr0).lent with
      | false =>
        simp only [Bool.not_false, cond_true, need_some, jcase, ew]
        exact ih (k + 1) H S (by omega) (by omega) kH0 (by omega) hSH (fun w hw => by
          obtain ⟨j, q1, q2, q3⟩ := hsw w hw
          exact ⟨j, by omega, q2, q3⟩)
      | true =>
        obtain ⟨g1, g2, g3, g4⟩ := hg.lent k hi hl
        have l1 : (lease (l.getD k cr0)).1 = (k : Int) := by unfold lease; rw [hl]; exact g2
        have l2 : (lease (l.getD k cr0)).2.1 = (l.getD k cr0).w := by unfold lease; rw [hl]; rfl
        obtain ⟨w, hw⟩ := Int.eq_ofNat_of_zero_le (show 0 ≤ (l.getD k cr0).w by omega)
        have hw8 : w < 8 := by omega
        rw [l1] at r0
        rw [l2, hw] at r1
        have ce := heH.cell hi
        rw [hes k hi, g1] at ce
        have hsf : S.getD w false = false := by
          cases hb : S.getD w false with
          | false => rfl
          | true =>
            obtain ⟨j, q1, q2, q3⟩ := hsw w hb
            have := hg.one j k (by omega) hi q2 hl (by omega)
            omega
        have cs := hSH.cell hw8
        rw [hsf] at cs
        have d0 : eqInt (k : Int) (k : Int) = true := by rw [eqInt_dec]; simp
        have d1 : ltInt (w : Int) 1 = false := by rw [ltInt_dec]; simp only [decide_eq_false_iff_not]; omega
        have d2 : ltInt 4 (w : Int) = false := by rw [ltInt_dec]; simp only [decide_eq_false_iff_not]; omega
        obtain ⟨s1, t1⟩ := hSH.put hw8 true
        have k3 := kH0.put hsb (.row ((S.set w true).map AV.bool) .own)
        have hn3 : (H.put sb (.row ((S.set w true).map AV.bool) .own)).next = H.next := rfl
        generalize H.put sb _ = H3 at s1 t1 k3 hn3
        simp only [Bool.not_true, cond_false, ixb hi, ce, bindV_some, cast_bool, r0, cast_int, d0, r1, d1, d2, ixb hw8, cs, need_some, jcase, s1, ew]
        refine ih (k + 1) H3 _ (by omega) (by omega) k3 (by omega) t1 (fun w' hw' => ?_)
        by_cases e : w' = w
        · subst e; exact ⟨k, by omega, hl, hw⟩
        · rw [List.getD_eq_getElem?_getD, List.getElem?_set_ne (fun e2 => e e2.symm), ← List.getD_eq_getElem?_getD] at hw'
          obtain ⟨j, q1, q2, q3⟩ := hsw w' hw'
          exact ⟨j, by omega, q2, q3⟩
    · have : k = 8 := by omega
      subst this
      exact ⟨h, rfl, hk⟩
theorem new_spec (h : Heap) (n : Int) (h1 : 1 ≤ n) (h2 : n ≤ 16) : ∃ h' tb ab, f8 N 8 n h = some ((some (tb, 0), AV.nilIface, ()), h') ∧ Tb h' tb ab n 0 (List.replicate 8 cr0) ∧ Keep h.next h h' ∧ h.next ≤ tb ∧ h.next ≤ ab := by
  have hm : makeSliceA E 51 (.int .i64 8) (.int .i64 8) h = some (.slice (some (h.next, 0)) 8 8 8, h.push (.row (flat (List.replicate 8 cr0)) .own)) := by kernel_rfl
  have d1 : ltInt n 1 = false := by rw [ltInt_dec]; simp only [decide_eq_false_iff_not]; omega
  have d2 : ltInt 1000 n = false := by rw [ltInt_dec]; simp only [decide_eq_false_iff_not]; omega
  have d3 : ltInt 8 0 = false := rfl
  have d4 : ltInt 64 8 = false := rfl
  unfold f8
  simp only [d3, d4, d1, d2, cond_false, hm, bindT_some, cast_slice]
  refine ⟨_, _, h.next, rfl, ⟨g_push_eq _ rfl, ?_, rfl, by simp, by simp, by simp; omega⟩, (keep_push _ _).trans ((keep_push _ _).mono (by simp)), by simp, Nat.le_refl _⟩
  rw [g_push_ne _ (by simp)]; exact g_push_eq _ rfl
end Go.Proofs.Ytdnmgcffccilkaa.Le

open Go Go.Proofs.Ytdnmgcffccilkaa.Ai Go.Proofs
namespace Go.Proofs.Ytdnmgcffccilkaa.Le
variable {h h' h0 : Heap} {tb ab eb sb : Nat} {len last : Int} {l : List Cr} {N B : Nat}
structure OpI where
  k : Int
  c : Int
  w : Int
  e : Int
  n : Int
  r : Bool
def OpI.cells (o : OpI) : List AV := [.int .i64 o.k, .int .i64 o.c, .int .i64 o.w, .int .i64 o.e, .int .i64 o.n, .bool o.r]
def op0 : OpI := ⟨0, 0, 0, 0, 0, false⟩
def ofl (l : List OpI) : List AV := l.flatMap OpI.cells
theorem ofl_take : ∀ (l : List OpI) (i : Nat), i < l.length → ((ofl l).drop (i * 6)).take 6 = (l.getD i op0).cells
  | [], i, h => by simp at h
  | x :: l, 0, h => rfl
  | x :: l, i + 1, h => by
    have : ofl (x :: l) = x.cells ++ ofl l := rfl
    rw [this, show (i + 1) * 6 = x.cells.length + i * 6 by simp [OpI.cells]; omega, List.drop_append, List.drop_eq_nil_of_le (by omega), List.nil_append, Nat.add_sub_cancel_left]
    exact ofl_take l i (by simpa using h)
/-- the calls -/
def Ops (h : Heap) (s : SL) (ops : List OpI) : Prop := Sees h s (ofl ops) ∧ ops.length = s.len ∧ (s.sz = 6 ∨ s.len = 0)
theorem bits_and (x : Int) (k : Nat) (hk : k ≤ 10) : ∃ v : Nat, v < 2 ^ k ∧ bitsA .and .i64 x ((2 ^ k - 1 : Nat) : Int) = some (.int .i64 (v : Int)) := by
  have hp : 2 ^ k ≤ 2 ^ 10 := Nat.pow_le_pow_right (by omega) hk
  have hm : lowN .i64 ((2 ^ k - 1 : Nat) : Int) = 2 ^ k - 1 := by
    show (2 ^ k - 1) % 18446744073709551616 = _
    exact Nat.mod_eq_of_lt (by omega)
  have hl : Nat.land (lowN .i64 x) (2 ^ k - 1) = lowN .i64 x % 2 ^ k := by
    show lowN .i64 x &&& (2 ^ k - 1) = _
    rw [Nat.and_two_pow_sub_one_eq_mod]
  have hpos : 0 < 2 ^ k := Nat.pow_pos (by omega)
  have hlt : lowN .i64 x % 2 ^ k < 2 ^ k := Nat.mod_lt _ hpos
  refine ⟨lowN .i64 x % 2 ^ k, hlt, ?_⟩
  simp only [bitsA, hm, hl]
  have : wrapA .i64 ((lowN .i64 x % 2 ^ k : Nat) : Int) = ((lowN .i64 x % 2 ^ k : Nat) : Int) := wrapA_small (by omega) (by omega)
  rw [this]
theorem rem7 (x : Int) : ∃ r : Int, -6 ≤ r ∧ r ≤ 6 ∧ binInt .rem .i64 x 7 = some (.int .i64 r) := by
  have e : eqInt 7 0 = false := rfl
  refine ⟨x.tmod 7, ?_, ?_, by simp only [binInt, e, cond_false]⟩
  · have := Int.tmod_lt_of_pos (-x) (show (0 : Int) < 7 by omega)
    rw [Int.neg_tmod] at this; omega
  · have := Int.tmod_lt_of_pos x (show (0 : Int) < 7 by omega); omega
theorem rem7' {x : Int} (h : 1 ≤ x) : ∃ r : Int, 0 ≤ r ∧ r ≤ 6 ∧ binInt .rem .i64 x 7 = some (.int .i64 r) := by
  obtain ⟨r, h1, h2, h3⟩ := rem7 x
  have e : eqInt 7 0 = false := rfl
  have h4 : binInt .rem .i64 x 7 = some (.int .i64 (x.tmod 7)) := by simp only [binInt, e, cond_false]
  have h5 : r = x.tmod 7 := by
    rw [h4] at h3
    simp only [Option.some.injEq, AV.int.injEq, true_and] at h3
    exact h3.symm
  exact ⟨r, by rw [h5]; exact Int.tmod_nonneg _ (by omega), h2, h3⟩
theorem nn91 : binA E .neq 28 (.tmp 91) (.const .nilIface) AV.nilIface AV.nilIface = some (.bool false) := by kernel_rfl
theorem nn91e (v : AV) : binA E .neq 28 (.tmp 91) (.const .nilIface) (.iface 60 v) AV.nilIface = some (.bool true) := by kernel_rfl
theorem el134 : binA E .eql 28 (.tmp 134) (.const .nilIface) AV.nilIface AV.nilIface = some (.bool true) := by kernel_rfl
theorem el134e (v : AV) : binA E .eql 28 (.tmp 134) (.const .nilIface) (.iface 60 v) AV.nilIface = some (.bool false) := by kernel_rfl
theorem el154 : binA E .eql 28 (.tmp 154) (.const .nilIface) AV.nilIface AV.nilIface = some (.bool true) := by kernel_rfl
theorem el154e (v : AV) : binA E .eql 28 (.tmp 154) (.const .nilIface) (.iface 60 v) AV.nilIface = some (.bool false) := by kernel_rfl
theorem nn32 : binA E .neq 28 (.tmp 32) (.const .nilIface) AV.nilIface AV.nilIface = some (.bool false) := by kernel_rfl
theorem same_bool (b : Bool) : sameO (some (.bool b)) (.bool b) = true := by cases b <;> kernel_rfl
/-! the table stays good -/
theorem set_eq {i : Nat} (hn : l.length = 8) (hi : i < 8) (x : Cr) : (l.set i x).getD i cr0 = x := by
  rw [List.getD_eq_getElem?_getD, List.getElem?_set_self (by rw [hn]; exact hi)]; rfl
theorem set_ne {i k : Nat} (x : Cr) (hk : k ≠ i) : (l.set i x).getD k cr0 = l.getD k cr0 := by
  rw [List.getD_eq_getElem?_getD, List.getElem?_set_ne (fun e => hk e.symm), ← List.getD_eq_getElem?_getD]
theorem any_false {w : Int} (hn : l.length = 8) (ha : l.any (heldB w) = false) {k : Nat} (hk : k < 8) (hl : (l.getD k cr0).lent = true) : (l.getD k cr0).w ≠ w := by
  intro e
  have hm : l.getD k cr0 ∈ l := by rw [getD_lt _ _ (by rw [hn]; exact hk)]; exact List.getElem_mem _
  have : l.any (heldB w) = true := List.any_eq_true.2 ⟨_, hm, by simp only [heldB, hl, e, decide_true, Bool.and_self]⟩
  rw [this] at ha; cases ha
theorem Good.give (hg : Good l) (hn : l.length = 8) {i : Nat} (hi : i < 8) {w e u : Int} (hw1 : 1 ≤ w) (hw2 : w ≤ 4) (he : (l.getD i cr0).ended = false) (ha : l.any (heldB w) = false) : Good (l.set i (given (l.getD i cr0) i w e u)) := by
  refine ⟨fun k hk => ?_, fun k hk hl => ?_, fun a b ha' hb' hla hlb hw => ?_⟩
  · by_cases e : k = i
    · subst e; rw [set_eq hn hk]; exact hg.tr k hk
    · rw [set_ne _ e]; exact hg.tr k hk
  · by_cases e : k = i
    · subst e; rw [set_eq hn hk]; exact ⟨he, rfl, hw1, hw2⟩
    · rw [set_ne _ e] at hl ⊢; exact hg.lent k hk hl
  · by_cases ea : a = i
    · by_cases eb : b = i
      · omega
      · exfalso
        subst ea
        rw [set_eq hn ha', set_ne _ eb] at hw
        rw [set_ne _ eb] at hlb
        exact any_false hn ha hb' hlb hw.symm
    · by_cases eb : b = i
      · exfalso
        subst eb
        rw [set_eq hn hb', set_ne _ ea] at hw
        rw [set_ne _ ea] at hla
        exact any_false hn ha ha' hla hw
      · rw [set_ne _ ea] at hla hw
        rw [set_ne _ eb] at hlb hw
        exact hg.one a b ha' hb' hla hlb hw
theorem Good.each (hg : Good l) {l' : List Cr} (hx : ∀ k, k < 8 → (0 ≤ (l'.getD k cr0).tries ∧ (l'.getD k cr0).tries ≤ 8) ∧ ((l'.getD k cr0).lent = true → (l.getD k cr0).lent = true ∧ (l'.getD k cr0).ended = (l.getD k cr0).ended ∧ (l'.getD k cr0).c = (l.getD k cr0).c ∧ (l'.getD k cr0).w = (l.getD k cr0).w)) : Good l' := by
  refine ⟨fun k hk => (hx k hk).1, fun k hk hl => ?_, fun a b ha hb hla hlb hw => ?_⟩
  · obtain ⟨h1, h2, h3, h4⟩ := (hx k hk).2 hl
    rw [h2, h3, h4]; exact hg.lent k hk h1
  · obtain ⟨a1, _, _, a4⟩ := (hx a ha).2 hla
    obtain ⟨b1, _, _, b4⟩ := (hx b hb).2 hlb
    rw [a4, b4] at hw
    exact hg.one a b ha hb a1 b1 hw
theorem Good.beat (hg : Good l) (hn : l.length = 8) {i : Nat} (hi : i < 8) (t : Int) : Good (l.set i (beatX (l.getD i cr0) t)) := by
  refine hg.each fun k hk => ?_
  by_cases e : k = i
  · subst e; rw [set_eq hn hk]; exact ⟨hg.tr k hk, fun h => ⟨h, rfl, rfl, rfl⟩⟩
  · rw [set_ne _ e]; exact ⟨hg.tr k hk, fun h => ⟨h, rfl, rfl, rfl⟩⟩
theorem Good.end (hg : Good l) (hn : l.length = 8) {i : Nat} (hi : i < 8) : Good (l.set i (endX (l.getD i cr0))) := by
  refine hg.each fun k hk => ?_
  by_cases e : k = i
  · subst e; rw [set_eq hn hk]; exact ⟨hg.tr k hk, fun h => by cases h⟩
  · rw [set_ne _ e]; exact ⟨hg.tr k hk, fun h => ⟨h, rfl, rfl, rfl⟩⟩
theorem Good.over (hg : Good l) {l' : List Cr} (hx : ∀ k, k < 8 → Ov (l.getD k cr0) (l'.getD k cr0)) : Good l' := by
  refine hg.each fun k hk => ?_
  rcases hx k hk with e | ⟨t, w, h1, h2, h3, h4, e⟩
  · rw [e]; exact ⟨hg.tr k hk, fun h => ⟨h, rfl, rfl, rfl⟩⟩
  · rw [e]; exact ⟨⟨h1, h2⟩, fun h => by cases h⟩
theorem Ov.ended {x y : Cr} (h : Ov x y) : y.ended = x.ended := by
  rcases h with rfl | ⟨t, w, _, _, _, _, rfl⟩ <;> rfl
/-- what holds ahead of each round -/
structure Inv (B : Nat) (h0 h : Heap) (tb ab eb : Nat) (len last : Int) (l : List Cr) (es : List Bool) : Prop where
  k : Keep B h0 h
  t : Tb h tb ab len last l
  g : Good l
  e : Bl h eb es
  ee : ∀ k, k < 8 → es.getD k false = (l.getD k cr0).ended
  el : eb < h.next
  bt : B ≤ tb
  ba : B ≤ ab
  be : B ≤ eb
  b0 : B ≤ h0.next
  n1 : eb ≠ tb
  n2 : eb ≠ ab
theorem Inv.keep {es : List Bool} (hi : Inv B h0 h tb ab eb len last l es) (hk : Keep h.next h h') : Inv B h0 h' tb ab eb len last l es :=
  ⟨hi.k.trans (hk.mono (Nat.le_trans hi.b0 hi.k.next)), hi.t.keep hk, hi.g, ⟨by rw [hk.g _ hi.el]; exact hi.e.1, hi.e.2⟩, hi.ee, Nat.lt_of_lt_of_le hi.el hk.next, hi.bt, hi.ba, hi.be, hi.b0, hi.n1, hi.n2⟩
theorem Inv.eff {es : List Bool} {last' : Int} {l' : List Cr} (hi : Inv B h0 h tb ab eb len last l es) (hf : Eff tb ab h h') (ht : Tb h' tb ab len last' l') (hg : Good l') (he : ∀ k, k < 8 → (l'.getD k cr0).ended = (l.getD k cr0).ended) : Inv B h0 h' tb ab eb len last' l' es :=
  ⟨⟨fun A hA => by rw [hf.g A (by have := hi.b0; have := hi.k.next; omega) (by have := hi.bt; omega) (by have := hi.ba; omega)]; exact hi.k.g A hA, Nat.le_trans hi.k.next hf.next⟩, ht, hg, ⟨by rw [hf.g _ hi.el hi.n1 hi.n2]; exact hi.e.1, hi.e.2⟩, fun k hk => by rw [he k hk]; exact hi.ee k hk, Nat.lt_of_lt_of_le hi.el hf.next, hi.bt, hi.ba, hi.be, hi.b0, hi.n1, hi.n2⟩
end Go.Proofs.Ytdnmgcffccilkaa.Le

open Go Go.Proofs.Ytdnmgcffccilkaa.Ai Go.Proofs
namespace Go.Proofs.Ytdnmgcffccilkaa.Le
variable {h h' h0 : Heap} {tb ab eb sb : Nat} {len last : Int} {l : List Cr} {N B : Nat}
theorem castOp {β : Type} (x : OpI) (K : (Int × Int × Int × Int × Int × Bool × Unit) → Option β) : (Ty.val (.agg [(.int .i64), (.int .i64), (.int .i64), (.int .i64), (.int .i64), .bool])).cast (.agg x.cells) K = K (x.k, x.c, x.w, x.e, x.n, x.r, ()) := rfl
theorem six (x : OpI) : over 0 [.int .i64 0, .int .i64 0, .int .i64 0, .int .i64 0, .int .i64 0, .bool false] x.cells = some x.cells := by simp [OpI.cells, over_zero, over_nil]
theorem rounds {a1 : SL} {ops : List OpI} (hN : 61 ≤ N) (hops : Ops h0 a1 ops) (hu : a1.under B) (hlen1 : 1 ≤ len) (hlen2 : len ≤ 16) : ∀ (M i : Nat) (h : Heap) (last : Int) (l : List Cr) (es : List Bool), i ≤ 60 → 60 - i < M → Inv B h0 h tb ab eb len last l es →
    ∃ h', f5_l1 N M a1 false (some (tb, 0)) last (some (eb, 0)) (i : Int) h = some (.exit 0, (false, ()), h') := by
  intro M
  induction M with
  | zero => intro i h last l es h1 h2; omega
  | succ M ih =>
    intro i h last l es h1 h2 hinv
    rw [f5_l1_succ]
    unfold f5_l1_b
    by_cases hi : i < a1.len
    · by_cases hi60 : i < 60
      · have ew : wrapA .i64 ((i : Int) + 1) = ((i + 1 : Nat) : Int) := wrapA_small (by omega) (by omega)
        have c1 : ltInt (i : Int) (a1.len : Int) = true := by rw [ltInt_dec]; simp only [decide_eq_true_eq]; omega
        have c2 : ltInt (i : Int) 60 = true := by rw [ltInt_dec]; simp only [decide_eq_true_eq]; omega
        obtain ⟨hs, hol, hsz⟩ := hops
        have hsz6 : a1.sz = 6 := by rcases hsz with h | h <;> omega
        have hsee := Sees.keep hinv.k hu hs
        have hcs : h.cells (a1.at i 6) 6 = some (.agg (ops.getD i op0).cells) := by
          rw [hsee.cells hsz6 hi, ofl_take ops i (by omega)]
        have hix : ∀ {β : Type} (K : Nat × Nat → Option β), ixK a1.a a1.len (i : Int) 6 K = K (a1.at i 6) := fun K => ixK_at (hs.isSome (by omega)) hi K
        generalize ops.getD i op0 = o at hcs
        have st1 := store_push h _ _ _ (six o)
        generalize hH1 : (h.push (.row [.int .i64 0, .int .i64 0, .int .i64 0, .int .i64 0, .int .i64 0, .bool false] .own)).put h.next (.row o.cells .own) = H1 at st1
        have k1 : Keep h.next h H1 := by rw [← hH1]; exact keep_pp _ _ _
        have g1 : H1.g h.next = some (.row o.cells .own) := by rw [← hH1]; exact g_put_eq _ rfl
        have n1 : h.next < H1.next := by rw [← hH1]; show h.next < h.next + 1; omega
        have st1' : (h.push (.row [.int .i64 0, .int .i64 0, .int .i64 0, .int .i64 0, .int .i64 0, .bool false] .own)).store (h.next, 0) [.int .i64 o.k, .int .i64 o.c, .int .i64 o.w, .int .i64 o.e, .int .i64 o.n, .bool o.r] = some H1 := st1
        have rd1 : H1.cell (h.next, 0 + 1) = some (.int .i64 o.c) := by rw [Heap.cell_g, g1, cellB_own]; rfl
        have rd2 : H1.cell (h.next, 0 + 2) = some (.int .i64 o.w) := by rw [Heap.cell_g, g1, cellB_own]; rfl
        have rd3 : H1.cell (h.next, 0 + 3) = some (.int .i64 o.e) := by rw [Heap.cell_g, g1, cellB_own]; rfl
        have rd4 : H1.cell (h.next, 0 + 4) = some (.int .i64 o.n) := by rw [Heap.cell_g, g1, cellB_own]; rfl
        obtain ⟨c, hc, ec⟩ := bits_and o.c 3 (by omega)
        obtain ⟨w, hw, ewk⟩ := bits_and o.w 2 (by omega)
        obtain ⟨e, he, ee⟩ := bits_and o.e 6 (by omega)
        obtain ⟨now, hnow, en⟩ := bits_and o.n 6 (by omega)
        have ec' : bitsA .and .i64 o.c 7 = some (.int .i64 (c : Int)) := ec
        have ewk' : bitsA .and .i64 o.w 3 = some (.int .i64 (w : Int)) := ewk
        have ee' : bitsA .and .i64 o.e 63 = some (.int .i64 (e : Int)) := ee
        have en' : bitsA .and .i64 o.n 63 = some (.int .i64 (now : Int)) := en
        have hc8 : c < 8 := hc
        have hw4 : w < 4 := hw
        have he64 : e < 64 := he
        have hn64 : now < 64 := hnow
        have w1 : wrapA .i64 (1 + (w : Int)) = ((w + 1 : Nat) : Int) := by rw [wrapA_small (by omega) (by omega)]; omega
        have w2 : wrapA .i64 (1 + (e : Int)) = ((e + 1 : Nat) : Int) := by rw [wrapA_small (by omega) (by omega)]; omega
        have i1 := hinv.keep k1
        obtain ⟨h2, e2, k2⟩ := of_spec (N := N) i1.t hc8
        have i2 := i1.keep k2
        have st3 := store_push h2 [.int .i64 0, .int .i64 0, .int .i64 0, .int .i64 0] [.int .i64 (lease (l.getD c cr0)).1, .int .i64 (lease (l.getD c cr0)).2.1, .int .i64 (lease (l.getD c cr0)).2.2.1, .int .i64 (lease (l.getD c cr0)).2.2.2.1] _ four
        generalize hH3 : (h2.push (.row [.int .i64 0, .int .i64 0, .int .i64 0, .int .i64 0] .own)).put h2.next (.row [.int .i64 (lease (l.getD c cr0)).1, .int .i64 (lease (l.getD c cr0)).2.1, .int .i64 (lease (l.getD c cr0)).2.2.1, .int .i64 (lease (l.getD c cr0)).2.2.2.1] .own) = H3 at st3
        have k3 : Keep h2.next h2 H3 := by rw [← hH3]; exact keep_pp _ _ _
        have g3 : H3.g h2.next = some (.row [.int .i64 (lease (l.getD c cr0)).1, .int .i64 (lease (l.getD c cr0)).2.1, .int .i64 (lease (l.getD c cr0)).2.2.1, .int .i64 (lease (l.getD c cr0)).2.2.2.1] .own) := by rw [← hH3]; exact g_put_eq _ rfl
        have n3 : h2.next < H3.next := by rw [← hH3]; show h2.next < h2.next + 1; omega
        have i3 := i2.keep k3
        obtain ⟨⟨r1, r2, r3, r4, _⟩, h4, e4, k4⟩ := held_spec (N := N) (by omega) i3.t ((w + 1 : Nat) : Int)
        have i4 := i3.keep k4
        have st5 := store_push h4 [.int .i64 0, .int .i64 0, .int .i64 0, .int .i64 0] [.int .i64 r1, .int .i64 r2, .int .i64 r3, .int .i64 r4] _ four
        generalize hH5 : (h4.push (.row [.int .i64 0, .int .i64 0, .int .i64 0, .int .i64 0] .own)).put h4.next (.row [.int .i64 r1, .int .i64 r2, .int .i64 r3, .int .i64 r4] .own) = H5 at st5
        have k5 : Keep h4.next h4 H5 := by rw [← hH5]; exact keep_pp _ _ _
        have i5 := i4.keep k5
        have m1 := k1.next
        have m2 := k2.next
        have m3 := k3.next
        have m4 := k4.next
        have m5 := k5.next
        have gop : H5.g h.next = some (.row o.cells .own) := by rw [k5.g _ (by omega), k4.g _ (by omega), k3.g _ (by omega), k2.g _ (by omega)]; exact g1
        have gwas : H5.g h2.next = some (.row [.int .i64 (lease (l.getD c cr0)).1, .int .i64 (lease (l.getD c cr0)).2.1, .int .i64 (lease (l.getD c cr0)).2.2.1, .int .i64 (lease (l.getD c cr0)).2.2.2.1] .own) := by rw [k5.g _ (by omega), k4.g _ (by omega)]; exact g3
        have rd0 : H5.cell (h.next, 0 + 0) = some (.int .i64 o.k) := by rw [Heap.cell_g, gop, cellB_own]; rfl
        obtain ⟨q, q1, q2, q3⟩ := rem7 o.k
        have q4 : wrapA .i64 (q + 7) = q + 7 := wrapA_small (by omega) (by omega)
        obtain ⟨kd, kd1, kd2, kd3⟩ := rem7' (x := q + 7) (by omega)
        -- how a round ends
        have fin : ∀ (H : Heap) (last' : Int) (l' : List Cr) (es' : List Bool), Inv B h0 H tb ab eb len last' l' es' → ∃ H', f5_l2 N N a1 false (some (tb, 0)) last' (some (eb, 0)) (i : Int) (some (H.next, 0)) 0 (H.push (.row [.bool false, .bool false, .bool false, .bool false, .bool false, .bool false, .bool false, .bool false] .own)) = some (.exit 3, (a1, false, some (tb, 0), last', some (eb, 0), (i : Int), ()), H') ∧ ∃ h', f5_l1 N M a1 false (some (tb, 0)) last' (some (eb, 0)) ((i + 1 : Nat) : Int) H' = some (.exit 0, (false, ()), h') := by
          intro H last' l' es' hI
          obtain ⟨H', e5, k6⟩ := seen_loop (N := N) (sb := H.next) hI.g hI.t hI.e hI.el hI.ee a1 last' (i : Int) (Nat.le_refl _) N 0 (H.push (.row [.bool false, .bool false, .bool false, .bool false, .bool false, .bool false, .bool false, .bool false] .own)) [false, false, false, false, false, false, false, false] (by omega) (by omega) (keep_push _ _) (by simp) ⟨g_push_eq _ rfl, rfl⟩ (fun w hw => by
            exfalso
            match w with
            | 0 => simp at hw
            | 1 => simp at hw
            | 2 => simp at hw
            | 3 => simp at hw
            | 4 => simp at hw
            | 5 => simp at hw
            | 6 => simp at hw
            | 7 => simp at hw
            | w + 8 => simp at hw)
          exact ⟨H', e5, ih (i + 1) H' last' l' es' (by omega) (by omega) (hI.keep k6)⟩
        have hle : ∀ x : Cr, (lease x).2.2.1 = if x.lent then x.e else 0 := fun x => by unfold lease; split <;> rfl
        have nl : l.length = 8 := hinv.t.n
        simp only [Int.ofNat_eq_natCast, c1, c2, cond_true, need_some, jcase, hix, hcs, bindV_some, castOp, st1', rd1, rd2, rd3, rd4, cast_int, ec', ewk', ee', en', w1, w2, e2, bind2_some, st3, e4, st5, rd0, q3, q4, kd3]
        have hk7 : (kd = 0 ∨ kd = 1) ∨ kd = 2 ∨ (kd = 3 ∨ kd = 4) ∨ kd = 5 ∨ kd = 6 := by omega
        have eq : ∀ a b : Int, eqInt a b = decide (a = b) := fun a b => eqInt_dec a b
        rcases hk7 with hk | hk | hk | hk | hk
        · -- a gift
          obtain ⟨v, h6, e6, f6, hv⟩ := give_spec (N := N) (by omega) i5.t hc8 (w := ((w + 1 : Nat) : Int)) (e := ((e + 1 : Nat) : Int)) (now := (now : Int)) (by omega) (by omega) (by omega) (by omega) (by omega) (by omega) (by omega) (by omega)
          have goal : ∀ b : Bool, b = true → True := fun _ _ => trivial
          rcases hv with ⟨rfl, hl, hd, hany, hlast, t6⟩ | ⟨⟨z, rfl⟩, t6⟩
          · have i6 := i5.eff f6 t6 (hinv.g.give nl hc8 (by omega) (by omega) hd hany) (fun k hk => by
              by_cases e : k = c
              · subst e; rw [set_eq nl hk]; rfl
              · rw [set_ne _ e])
            have ce := i6.e.cell hc8
            rw [hinv.ee c hc8, hd] at ce
            have cl : leInt ((e + 1 : Nat) : Int) last = false := by rw [leInt_dec]; simp only [decide_eq_false_iff_not]; omega
            obtain ⟨h7, e7, k7⟩ := of_spec (N := N) i6.t hc8
            rw [set_eq nl hc8] at e7
            have st8 := store_push h7 [.int .i64 0, .int .i64 0, .int .i64 0, .int .i64 0] [.int .i64 (c : Int), .int .i64 ((w + 1 : Nat) : Int), .int .i64 ((e + 1 : Nat) : Int), .int .i64 ((now : Int) + len)] _ four
            generalize hH8 : (h7.push (.row [.int .i64 0, .int .i64 0, .int .i64 0, .int .i64 0] .own)).put h7.next (.row [.int .i64 (c : Int), .int .i64 ((w + 1 : Nat) : Int), .int .i64 ((e + 1 : Nat) : Int), .int .i64 ((now : Int) + len)] .own) = H8 at st8
            have k8 : Keep h7.next h7 H8 := by rw [← hH8]; exact keep_pp _ _ _
            have g8 : H8.g h7.next = some (.row [.int .i64 (c : Int), .int .i64 ((w + 1 : Nat) : Int), .int .i64 ((e + 1 : Nat) : Int), .int .i64 ((now : Int) + len)] .own) := by rw [← hH8]; exact g_put_eq _ rfl
            have ra : H8.cell (h7.next, 0 + 1) = some (.int .i64 ((w + 1 : Nat) : Int)) := by rw [Heap.cell_g, g8, cellB_own]; rfl
            have rb : H8.cell (h7.next, 0 + 2) = some (.int .i64 ((e + 1 : Nat) : Int)) := by rw [Heap.cell_g, g8, cellB_own]; rfl
            have hlg : (lease (given (l.getD c cr0) (c : Int) ((w + 1 : Nat) : Int) ((e + 1 : Nat) : Int) ((now : Int) + len))) = ((c : Int), ((w + 1 : Nat) : Int), ((e + 1 : Nat) : Int), (now : Int) + len, ()) := rfl
            have hlt : (given (l.getD c cr0) (c : Int) ((w + 1 : Nat) : Int) ((e + 1 : Nat) : Int) ((now : Int) + len)).lent = true := rfl
            rw [hlg, hlt] at e7
            obtain ⟨H9, e9, h', e10⟩ := fin H8 _ _ _ ((i6.keep k7).keep k8)
            refine ⟨h', ?_⟩
            rcases hk with rfl | rfl
            · simp only [eq, decide_true, cond_true, bind2_some, e6, nn91, bindV_some, cast_bool, cond_false, hl, hany, ixb hc8, ce, cl, need_some, jcase, e7, st8, Bool.not_true, ra, rb, cast_int, e9, bind3_some, eqOut_exit, ew, e10]
            · simp only [eq, show ¬ ((1 : Int) = 0) by omega, decide_false, decide_true, cond_true, bind2_some, e6, nn91, bindV_some, cast_bool, cond_false, hl, hany, ixb hc8, ce, cl, need_some, jcase, e7, st8, Bool.not_true, ra, rb, cast_int, e9, bind3_some, eqOut_exit, ew, e10]
          · have i6 := i5.eff f6 t6 hinv.g (fun k hk => rfl)
            obtain ⟨H9, e9, h', e10⟩ := fin h6 _ _ _ i6
            refine ⟨h', ?_⟩
            rcases hk with rfl | rfl
            · simp only [eq, decide_true, cond_true, bind2_some, e6, nn91e, bindV_some, cast_bool, need_some, jcase, e9, bind3_some, eqOut_exit, ew, e10]
            · simp only [eq, show ¬ ((1 : Int) = 0) by omega, decide_false, decide_true, cond_true, cond_false, bind2_some, e6, nn91e, bindV_some, cast_bool, need_some, jcase, e9, bind3_some, eqOut_exit, ew, e10]
        · -- a beat
          subst hk
          obtain ⟨v, h6, e6, f6, hv⟩ := beat_spec (N := N) i5.t hc8 (ep := ((e + 1 : Nat) : Int)) (now := (now : Int)) (by omega) (by omega) (by omega) (by omega)
          have gw6 : h6.g h2.next = some (.row [.int .i64 (lease (l.getD c cr0)).1, .int .i64 (lease (l.getD c cr0)).2.1, .int .i64 (lease (l.getD c cr0)).2.2.1, .int .i64 (lease (l.getD c cr0)).2.2.2.1] .own) := by
            have a1 := i2.t.lt
            have a2 := i2.t.la
            rw [f6.g _ (by omega) (by omega) (by omega)]; exact gwas
          have rw6 : h6.cell (h2.next, 0 + 2) = some (.int .i64 (lease (l.getD c cr0)).2.2.1) := by rw [Heap.cell_g, gw6, cellB_own]; rfl
          rcases hv with ⟨rfl, hl, hep, t6⟩ | ⟨⟨z, rfl⟩, hno, t6⟩
          · have i6 := i5.eff f6 t6 (hinv.g.beat nl hc8 _) (fun k hk => by
              by_cases e : k = c
              · subst e; rw [set_eq nl hk]; rfl
              · rw [set_ne _ e])
            rw [hle, hl, hep] at rw6
            simp only [if_true] at rw6
            obtain ⟨H9, e9, h', e10⟩ := fin h6 _ _ _ i6
            refine ⟨h', ?_⟩
            simp only [eq, show ¬ ((2 : Int) = 0) by omega, show ¬ ((2 : Int) = 1) by omega, decide_false, decide_true, cond_true, cond_false, bind2_some, e6, el134, bindV_some, cast_bool, cast_int, hl, rw6, Bool.not_true, need_some, jcase, e9, bind3_some, eqOut_exit, ew, e10]
          · have i6 := i5.eff f6 t6 hinv.g (fun k hk => rfl)
            obtain ⟨H9, e9, h', e10⟩ := fin h6 _ _ _ i6
            refine ⟨h', ?_⟩
            cases hl : (l.getD c cr0).lent with
            | true =>
              have hne : ¬ ((l.getD c cr0).e = ((e + 1 : Nat) : Int)) := fun e => hno ⟨hl, e⟩
              rw [hle, hl] at rw6
              simp only [if_true] at rw6
              simp only [eq, show ¬ ((2 : Int) = 0) by omega, show ¬ ((2 : Int) = 1) by omega, decide_false, decide_true, cond_true, cond_false, bind2_some, e6, el134e, bindV_some, cast_bool, cast_int, rw6, hne, Bool.not_true, Bool.not_false, need_some, jcase, e9, bind3_some, eqOut_exit, ew, e10]
            | false =>
              simp only [eq, show ¬ ((2 : Int) = 0) by omega, show ¬ ((2 : Int) = 1) by omega, decide_false, decide_true, cond_true, cond_false, bind2_some, e6, el134e, bindV_some, cast_bool, Bool.not_true, Bool.not_false, need_some, jcase, e9, bind3_some, eqOut_exit, ew, e10]
        · -- taken back
          obtain ⟨sv, h6, l', e6, f6, t6, hov⟩ := over_spec (N := N) (by omega) i5.t (now := (now : Int)) (by omega) (by omega) hinv.g.tr
          have i6 := i5.eff f6 t6 (hinv.g.over hov) (fun k hk => (hov k hk).ended)
          obtain ⟨H9, e9, h', e10⟩ := fin h6 _ _ _ i6
          refine ⟨h', ?_⟩
          rcases hk with rfl | rfl
          · simp only [eq, show ¬ ((3 : Int) = 0) by omega, show ¬ ((3 : Int) = 1) by omega, show ¬ ((3 : Int) = 2) by omega, decide_false, decide_true, cond_true, cond_false, bind2_some, e6, need_some, jcase, e9, bind3_some, eqOut_exit, ew, e10]
          · simp only [eq, show ¬ ((4 : Int) = 0) by omega, show ¬ ((4 : Int) = 1) by omega, show ¬ ((4 : Int) = 2) by omega, show ¬ ((4 : Int) = 3) by omega, decide_false, decide_true, cond_true, cond_false, bind2_some, e6, need_some, jcase, e9, bind3_some, eqOut_exit, ew, e10]
        · -- an end
          subst hk
          obtain ⟨v, h6, e6, f6, hv⟩ := end_spec (N := N) i5.t hc8
          have ce5 := i5.e.cell hc8
          rcases hv with ⟨rfl, hd, t6⟩ | ⟨⟨z, rfl⟩, hd, t6⟩
          · have hb6 : Bl h6 eb es := ⟨by rw [f6.g _ i5.el i5.n1 i5.n2]; exact i5.e.1, i5.e.2⟩
            have ce := hb6.cell hc8
            rw [hinv.ee c hc8, hd] at ce ce5
            obtain ⟨s7, b7⟩ := hb6.put hc8 true
            have i7 : Inv B h0 (h6.put eb (.row ((es.set c true).map AV.bool) .own)) tb ab eb len last (l.set c (endX (l.getD c cr0))) (es.set c true) := by
              have hk := i5.k
              have hk6 : Keep B h0 h6 := ⟨fun A hA => by rw [f6.g A (by have := i5.b0; have := i5.k.next; omega) (by have := i5.bt; omega) (by have := i5.ba; omega)]; exact i5.k.g A hA, Nat.le_trans i5.k.next f6.next⟩
              refine ⟨hk6.put i5.be _, ⟨?_, ?_, t6.n, t6.ne, t6.lt, t6.la⟩, hinv.g.end nl hc8, b7, fun k hk => ?_, ?_, i5.bt, i5.ba, i5.be, i5.b0, i5.n1, i5.n2⟩
              · rw [g_put_ne _ (fun e => i5.n1 e.symm)]; exact t6.t
              · rw [g_put_ne _ (fun e => i5.n2 e.symm)]; exact t6.a
              · by_cases e : k = c
                · subst e
                  rw [set_eq nl hk, List.getD_eq_getElem?_getD, List.getElem?_set_self (by rw [hinv.e.2]; exact hk)]; rfl
                · rw [set_ne _ e, List.getD_eq_getElem?_getD, List.getElem?_set_ne (fun e2 => e e2.symm), ← List.getD_eq_getElem?_getD]
                  exact hinv.ee k hk
              · exact Nat.lt_of_lt_of_le i5.el f6.next
            generalize h6.put eb _ = h7 at s7 b7 i7
            obtain ⟨H9, e9, h', e10⟩ := fin h7 _ _ _ i7
            refine ⟨h', ?_⟩
            simp only [eq, show ¬ ((5 : Int) = 0) by omega, show ¬ ((5 : Int) = 1) by omega, show ¬ ((5 : Int) = 2) by omega, show ¬ ((5 : Int) = 3) by omega, show ¬ ((5 : Int) = 4) by omega, decide_false, decide_true, cond_true, cond_false, bind2_some, e6, el154, bindV_some, cast_bool, ixb hc8, ce, ce5, same_bool, guardB, s7, need_some, jcase, e9, bind3_some, eqOut_exit, ew, e10]
          · have i6 := i5.eff f6 t6 hinv.g (fun k hk => rfl)
            have ce := i6.e.cell hc8
            rw [hinv.ee c hc8, hd] at ce ce5
            obtain ⟨s7, b7⟩ := i6.e.put hc8 true
            have i7 : Inv B h0 (h6.put eb (.row ((es.set c true).map AV.bool) .own)) tb ab eb len last l (es.set c true) := by
              refine ⟨i6.k.put i5.be _, ⟨?_, ?_, t6.n, t6.ne, t6.lt, t6.la⟩, hinv.g, b7, fun k hk => ?_, ?_, i5.bt, i5.ba, i5.be, i5.b0, i5.n1, i5.n2⟩
              · rw [g_put_ne _ (fun e => i5.n1 e.symm)]; exact t6.t
              · rw [g_put_ne _ (fun e => i5.n2 e.symm)]; exact t6.a
              · by_cases e : k = c
                · subst e
                  rw [hd, List.getD_eq_getElem?_getD, List.getElem?_set_self (by rw [hinv.e.2]; exact hk)]; rfl
                · rw [List.getD_eq_getElem?_getD, List.getElem?_set_ne (fun e2 => e e2.symm), ← List.getD_eq_getElem?_getD]
                  exact hinv.ee k hk
              · exact i6.el
            generalize h6.put eb _ = h7 at s7 b7 i7
            obtain ⟨H9, e9, h', e10⟩ := fin h7 _ _ _ i7
            refine ⟨h', ?_⟩
            simp only [eq, show ¬ ((5 : Int) = 0) by omega, show ¬ ((5 : Int) = 1) by omega, show ¬ ((5 : Int) = 2) by omega, show ¬ ((5 : Int) = 3) by omega, show ¬ ((5 : Int) = 4) by omega, decide_false, decide_true, cond_true, cond_false, bind2_some, e6, el154e, bindV_some, cast_bool, ixb hc8, ce, ce5, same_bool, guardB, Bool.not_true, s7, need_some, jcase, e9, bind3_some, eqOut_exit, ew, e10]
        · subst hk
          obtain ⟨H9, e9, h', e10⟩ := fin H5 _ _ _ i5
          refine ⟨h', ?_⟩
          simp only [eq, show ¬ ((6 : Int) = 0) by omega, show ¬ ((6 : Int) = 1) by omega, show ¬ ((6 : Int) = 2) by omega, show ¬ ((6 : Int) = 3) by omega, show ¬ ((6 : Int) = 4) by omega, show ¬ ((6 : Int) = 5) by omega, decide_false, decide_true, cond_true, cond_false, bind2_some, need_some, jcase, e9, bind3_some, eqOut_exit, ew, e10]
      · have c1 : ltInt (i : Int) (a1.len : Int) = true := by rw [ltInt_dec]; simp only [decide_eq_true_eq]; omega
        have c2 : ltInt (i : Int) 60 = false := by rw [ltInt_dec]; simp only [decide_eq_false_iff_not]; omega
        exact ⟨h, by simp only [Int.ofNat_eq_natCast, c1, c2, cond_true, cond_false, need_some, jcase]⟩
    · have c1 : ltInt (i : Int) (a1.len : Int) = false := by rw [ltInt_dec]; simp only [decide_eq_false_iff_not]; omega
      exact ⟨h, by simp only [Int.ofNat_eq_natCast, c1, cond_false, need_some, jcase]⟩
end Go.Proofs.Ytdnmgcffccilkaa.Le

open Go Go.Proofs.Ytdnmgcffccilkaa.Ai Go.Proofs
namespace Go.Proofs.Ytdnmgcffccilkaa.Le
variable {h h' h0 : Heap} {tb ab eb sb : Nat} {len last : Int} {l : List Cr} {N B : Nat}
theorem rep_get (k : Nat) : (List.replicate 8 cr0).getD k cr0 = cr0 := by
  rw [List.getD_eq_getElem?_getD, List.getElem?_replicate]; split <;> rfl
theorem one_law (h : Heap) (length : Int) (a1 : SL) (ops : List OpI) (hops : Ops h a1 ops) : ∃ h', f5 100 length a1 h = some (true, h') := by
  obtain ⟨v, hv, ev⟩ := bits_and length 4 (by omega)
  have ev' : bitsA .and .i64 length 15 = some (.int .i64 (v : Int)) := ev
  have hv16 : v < 16 := hv
  have w1 : wrapA .i64 (1 + (v : Int)) = 1 + (v : Int) := wrapA_small (by omega) (by omega)
  obtain ⟨h1, tb, ab, e1, t1, k1, b1, b2⟩ := new_spec (N := 100) h (1 + (v : Int)) (by omega) (by omega)
  have hn1 := k1.next
  have kp := keep_push h1 (.row [.bool false, .bool false, .bool false, .bool false, .bool false, .bool false, .bool false, .bool false] .own)
  have hinv : Inv h.next h (h1.push (.row [.bool false, .bool false, .bool false, .bool false, .bool false, .bool false, .bool false, .bool false] .own)) tb ab h1.next (1 + (v : Int)) 0 (List.replicate 8 cr0) [false, false, false, false, false, false, false, false] := by
    refine ⟨k1.trans (kp.mono hn1), t1.keep kp, ⟨fun k _ => by rw [rep_get]; exact ⟨by decide, by decide⟩, fun k _ hl => (by rw [rep_get] at hl; cases hl), fun i j _ _ hl => (by rw [rep_get] at hl; cases hl)⟩, ⟨g_push_eq _ rfl, rfl⟩, fun k hk => ?_, by simp, b1, b2, hn1, Nat.le_refl _, fun e => by have := t1.lt; omega, fun e => by have := t1.la; omega⟩
    rw [rep_get]
    match k, hk with
    | 0, _ => rfl
    | 1, _ => rfl
    | 2, _ => rfl
    | 3, _ => rfl
    | 4, _ => rfl
    | 5, _ => rfl
    | 6, _ => rfl
    | 7, _ => rfl
  obtain ⟨h2, e2⟩ := rounds (N := 100) (by omega) hops hops.1.under (by omega) (by omega) 100 0 _ 0 _ _ (by omega) (by omega) hinv
  refine ⟨h2, ?_⟩
  simp only [Int.ofNat_zero] at e2
  unfold f5
  simp only [ev', bindV_some, cast_int, w1, e1, bind2_some, nn32, cast_bool, cond_false, Option.isNone_some, need_some, jcase]
  have e2' : f5_l1 100 100 a1 false (some (tb, 0)) 0 (some (h1.next, 0)) 0 (h1.push (.row [.bool false, .bool false, .bool false, .bool false, .bool false, .bool false, .bool false, .bool false] .own)) = some (.exit 0, (false, ()), h2) := e2
  rw [e2']
  simp only [bind3_some, eqOut_exit, decide_true, cond_true, f7, bind2_some]
theorem undP3 : Try.prog.underlying 3 = some (.int .i64) := by kernel_rfl
theorem undP4 : Try.prog.underlying 4 = some .bool := by kernel_rfl
theorem undP37 : Try.prog.underlying 37 = some (.slice 40) := by kernel_rfl
theorem undP40 : ∃ fs : Array Field, Try.prog.underlying 40 = some (.struct fs) ∧ fs.toList.map (·.type) = [3, 3, 3, 3, 3, 4] := by
  have : (match Try.prog.underlying 40 with | some (.struct fs) => (fs.toList.map (·.type)) == [3, 3, 3, 3, 3, 4] | _ => false) = true := by kernel_rfl
  split at this
  · rename_i fs hfs
    exact ⟨fs, hfs, by simpa using this⟩
  · cases this
theorem op_inv {H : Type} {a : List AV} {d : DataW H} (hx : Rd Try.prog h 40 a d) : ∃ o : OpI, a = o.cells := by
  obtain ⟨fs, hu, hfs⟩ := undP40
  obtain ⟨ass, ds, rfl, _, h1, h2, h3⟩ := Rd.struct_inv hu hx
  have hsz : fs.size = 6 := by
    have := congrArg List.length hfs
    simpa using this
  match fs, ass, ds, hsz, hfs, h1, h2, h3 with
  | fs, ass, ds, hsz, hfs, h1, h2, h3 =>
    have ft : ∀ i, i < 6 → ∃ f, fs[i]? = some f ∧ some f.type = ([3, 3, 3, 3, 3, 4] : List Nat)[i]? := fun i hi => by
      refine ⟨fs[i], by rw [Array.getElem?_eq_getElem (by omega)], ?_⟩
      rw [← hfs, List.getElem?_map, List.getElem?_eq_getElem (by simp; omega)]
      simp
    have hal : ass.length = 6 := by omega
    have hdl : ds.length = 6 := by omega
    have it : ∀ i, i < 5 → ∃ n : Int, ass[i]? = some [.int .i64 n] := fun i hi => by
      obtain ⟨f, hf1, hf2⟩ := ft i (by omega)
      have h4 := h3 i f ass[i] ds[i] hf1 (by rw [List.getElem?_eq_getElem]) (by rw [List.getElem?_eq_getElem])
      have h5 : f.type = 3 := by
        rcases (show i = 0 ∨ i = 1 ∨ i = 2 ∨ i = 3 ∨ i = 4 by omega) with rfl | rfl | rfl | rfl | rfl <;> simpa using hf2
      rw [h5] at h4
      obtain ⟨n, hn, _⟩ := Rd.int_inv undP3 h4
      exact ⟨n, by rw [List.getElem?_eq_getElem (by omega), hn]⟩
    obtain ⟨n0, q0⟩ := it 0 (by omega)
    obtain ⟨n1, q1⟩ := it 1 (by omega)
    obtain ⟨n2, q2⟩ := it 2 (by omega)
    obtain ⟨n3, q3⟩ := it 3 (by omega)
    obtain ⟨n4, q4⟩ := it 4 (by omega)
    obtain ⟨f, hf1, hf2⟩ := ft 5 (by omega)
    have h4 := h3 5 f ass[5] ds[5] hf1 (by rw [List.getElem?_eq_getElem]) (by rw [List.getElem?_eq_getElem])
    have h5 : f.type = 4 := by simpa using hf2
    rw [h5] at h4
    obtain ⟨b, hb, _⟩ := Rd.bool_inv undP4 h4
    have q5 : ass[5]? = some [.bool b] := by rw [List.getElem?_eq_getElem (by omega), hb]
    refine ⟨⟨n0, n1, n2, n3, n4, b⟩, ?_⟩
    match ass, hal, q0, q1, q2, q3, q4, q5 with
    | [x0, x1, x2, x3, x4, x5], _, q0, q1, q2, q3, q4, q5 =>
      simp only [List.getElem?_cons_zero, List.getElem?_cons_succ, Option.some.injEq] at q0 q1 q2 q3 q4 q5
      rw [q0, q1, q2, q3, q4, q5]; rfl
theorem flat_cells : ∀ (ass : List (List AV)), (∀ (i : Nat) (a : List AV), ass[i]? = some a → ∃ o : OpI, a = o.cells) → ∃ xs : List OpI, ass.flatten = ofl xs ∧ xs.length = ass.length
  | [], _ => ⟨[], rfl, rfl⟩
  | a :: r, h => by
    obtain ⟨x, rfl⟩ := h 0 a rfl
    obtain ⟨xs, h1, h2⟩ := flat_cells r fun i a ha => h (i + 1) a (by simpa using ha)
    exact ⟨x :: xs, by simp [h1, ofl], by simp [h2]⟩
theorem one_true {H : Type} (h : Heap) (vs : List AV) (ds : List (DataW H)) (hr : RdArgs Try.prog h [3, 37] vs ds) : ∃ xs : vdens [.one (.int .i64), .one .slice], ∃ h', VTy.tos _ xs = vs ∧ (fun (x : vdens [.one (.int .i64), .one .slice]) h => f5 100 x.1 x.2.1 h) xs h = some (true, h') := by
  obtain ⟨c0, d0, _, _, rfl, rfl, r0, hr⟩ := hr.cons_inv
  obtain ⟨c1, d1, _, _, rfl, rfl, r1, hr⟩ := hr.cons_inv
  obtain ⟨rfl, rfl⟩ := hr.nil_inv
  obtain ⟨n0, rfl, _⟩ := Rd.int_inv undP3 r0
  have hc : Try.prog.cellsOf 40 = 6 := by kernel_rfl
  obtain ⟨s, ass, rfl, q1, q2, q3, q4, q5⟩ := Rd.sees undP37 (fun a d hd => by obtain ⟨o, rfl⟩ := op_inv hd; rw [hc]; rfl) r1
  obtain ⟨ops, h6, h7⟩ := flat_cells ass fun i a ha => by
    obtain ⟨d, hd⟩ := q5 i a ha
    exact op_inv hd
  obtain ⟨h', e⟩ := one_law h n0 s ops ⟨h6 ▸ q4, by omega, by rw [← hc]; exact q3⟩
  refine ⟨(n0, s, ()), h', ?_, e⟩
  simp [VTy.tos, VTy.to, CTy.to, argOf, undP3, undP37]
end Go.Proofs.Ytdnmgcffccilkaa.Le
