import Derived.Test.YtdnmgcffccilkaaAi2
import Derived.Test.YtdnmgcffccilkaaProg
import Derived.Test.YtdnmgcffccilkaaAi3
/- Functions of the program as plain functions, and what they come to; part 1. -/
set_option linter.unusedVariables false
set_option linter.unusedSimpArgs false
set_option maxRecDepth 100000
open Go Go.Proofs.Ytdnmgcffccilkaa.Ai Go.Proofs
namespace Go.Proofs.Ytdnmgcffccilkaa.Sh
noncomputable def E : Env := envOf Try.prog [42] noNative
theorem envOK : EnvOK E Try.prog := envOf_ok (by kernel_rfl) (by kernel_rfl)
theorem hmix : Try.prog.follows .mixedOrders = true := by kernel_rfl
/- usufruct/fault.New -/
noncomputable def f19 (N : Nat) (a0 : Int) (a1 : Int) (h : Heap) : Option (AV × Heap) :=
  let x1 : Bool := eqInt a0 0
  (bif x1 then
   some (AV.nilIface, h)
  else
   let h2 : Heap := h.push (.row [(.int .i64 a0), (.int .i64 a1), (AV.iface 50 (.int .i64 a0))] .own)
   some ((AV.iface 60 (.ptr (some (h.next, 0)))), h2))
noncomputable def ann19 : Ann := .n
theorem f19_ok (N : Nat) : FnOK Try.prog 19 [(.one (.int .i64)), (.one (.int .i64))] (.val (.one .any)) (fun x h => f19 N x.1 x.2.1 h) :=
  runK_ok envOK hmix noCalls_ok (N := N) (x := ann19) (fn := Try.f19) (c := Try.f19.body.getD .skip) (by kernel_rfl) (by kernel_rfl) (by kernel_rfl) (by kernel_rfl) (fun _ _ => by kernel_rfl)

/- usufruct/lease.New -/
noncomputable def f8 (N : Nat) (a0 : Int) (a1 : Int) (h : Heap) : Option ((Option (Nat × Nat) × AV × Unit) × Heap) :=
  let x1 : Bool := ltInt a0 0
  (bif x1 then
   (bind2 (f19 N 2 0 h) fun (x2 : AV) h3 =>
   some ((none, x2, ()), h3))
  else
   let x4 : Bool := ltInt 64 a0
   (bif x4 then
    (bind2 (f19 N 2 0 h) fun (x5 : AV) h6 =>
    some ((none, x5, ()), h6))
   else
    let x7 : Bool := ltInt a1 1
    (bif x7 then
     (bind2 (f19 N 2 0 h) fun (x8 : AV) h9 =>
     some ((none, x8, ()), h9))
    else
     let x10 : Bool := ltInt 1000 a1
     (bif x10 then
      (bind2 (f19 N 2 0 h) fun (x11 : AV) h12 =>
      some ((none, x11, ()), h12))
     else
      (bindT (.val (.one .slice)) (makeSliceA E 51 (.int .i64 a0) (.int .i64 a0) h) fun (x13 : SL) h14 =>
      let h15 : Heap := h14.push (.row [(.int .i64 a1), (.int .i64 0), (.slice x13.a x13.len x13.cap x13.sz)] .own)
      some (((some (h14.next, 0)), AV.nilIface, ()), h15))))))
noncomputable def ann8 : Ann := .n
theorem f8_ok (N : Nat) : FnOK Try.prog 8 [(.one (.int .i64)), (.one (.int .i64))] (.tup [(.one .ptr), (.one .any)]) (fun x h => f8 N x.1 x.2.1 h) :=
  runK_ok envOK hmix (addCall_ok (f19_ok N) noCalls_ok) (N := N) (x := ann8) (fn := Try.f8) (c := Try.f8.body.getD .skip) (by kernel_rfl) (by kernel_rfl) (by kernel_rfl) (by kernel_rfl) (fun _ _ => by kernel_rfl)

/- (*usufruct/lease.Table).at -/
noncomputable def f20 (N : Nat) (a0 : Option (Nat × Nat)) (a1 : Int) (h : Heap) : Option (Option (Nat × Nat) × Heap) :=
  (bif a0.isNone then
   some (none, h)
  else
   let x1 : Bool := ltInt a1 0
   (bif x1 then
    some (none, h)
   else
    (need a0 fun q2 =>
    (bindV (.val (.one .slice)) (h.cell (q2.1, q2.2 + 2)) fun (x3 : SL) =>
    let x4 : Bool := leInt (Int.ofNat x3.len) a1
    (bif x4 then
     some (none, h)
    else
     (need a0 fun q5 =>
     (bindV (.val (.one .slice)) (h.cell (q5.1, q5.2 + 2)) fun (x6 : SL) =>
     (ixK x6.a x6.len a1 8 fun q7 =>
     some ((some q7), h)))))))))
noncomputable def ann20 : Ann := .n
theorem f20_ok (N : Nat) : FnOK Try.prog 20 [(.one .ptr), (.one (.int .i64))] (.val (.one .ptr)) (fun x h => f20 N x.1 x.2.1 h) :=
  runK_ok envOK hmix noCalls_ok (N := N) (x := ann20) (fn := Try.f20) (c := Try.f20.body.getD .skip) (by kernel_rfl) (by kernel_rfl) (by kernel_rfl) (by kernel_rfl) (fun _ _ => by kernel_rfl)

/- (*usufruct/lease.Table).Held -/
noncomputable def f15_l1_b (N : Nat) (go : Int → Option (Nat × Nat) → Bool → SL → Int → Int → Heap → Option (Out × (Option (Nat × Nat) × Bool × Unit) × Heap)) (v1 : Int) (v4 : Option (Nat × Nat)) (v5 : Bool) (v13 : SL) (v14 : Int) (v15 : Int) (h : Heap) : Option (Out × (Option (Nat × Nat) × Bool × Unit) × Heap) :=
  let x5 : Bool := ltInt v15 v14
  (bif x5 then
   (ixK v13.a v13.len v15 8 fun q6 =>
   (bindV (.val (.agg [.bool, .bool, (.int .i64), (.int .i64), (.int .i64), (.int .i64), (.int .i64), (.int .i64)])) (h.cells q6 8) fun (x7 : (Bool × Bool × Int × Int × Int × Int × Int × Int × Unit)) =>
   let h8 : Heap := h.push (.row [(.bool false), (.bool false), (.int .i64 0), (.int .i64 0), (.int .i64 0), (.int .i64 0), (.int .i64 0), (.int .i64 0)] .own)
   (need (h8.store (h.next, 0) [(.bool x7.1), (.bool x7.2.1), (.int .i64 x7.2.2.1), (.int .i64 x7.2.2.2.1), (.int .i64 x7.2.2.2.2.1), (.int .i64 x7.2.2.2.2.2.1), (.int .i64 x7.2.2.2.2.2.2.1), (.int .i64 x7.2.2.2.2.2.2.2.1)]) fun h9 =>
   (bindV (.val (.one .bool)) (h9.cell ((h.next, 0).1, (h.next, 0).2 + 0)) fun (x10 : Bool) =>
   (bif x10 then
    (bindV (.val (.one (.int .i64))) (h9.cell (((h.next, 0).1, (h.next, 0).2 + 2).1, ((h.next, 0).1, (h.next, 0).2 + 2).2 + 1)) fun (x11 : Int) =>
    let x12 : Bool := eqInt x11 v1
    (bif x12 then
     (bindV (.val (.agg [(.int .i64), (.int .i64), (.int .i64), (.int .i64)])) (h9.cells ((h.next, 0).1, (h.next, 0).2 + 2) 4) fun (x13 : (Int × Int × Int × Int × Unit)) =>
     (need v4 fun q15 =>
     (need (h9.store q15 [(.int .i64 x13.1), (.int .i64 x13.2.1), (.int .i64 x13.2.2.1), (.int .i64 x13.2.2.2.1)]) fun h14 =>
     some (Out.ret, (v4, true, ()), h14))))
    else
     let x16 : Int := wrapA .i64 (v15 + 1)
     go v1 v4 v5 v13 v14 x16 h9))
   else
    let x17 : Int := wrapA .i64 (v15 + 1)
    go v1 v4 v5 v13 v14 x17 h9)))))
  else
   some ((Out.exit 0), (v4, v5, ()), h))
noncomputable def f15_l1 (N M : Nat) (v1 : Int) (v4 : Option (Nat × Nat)) (v5 : Bool) (v13 : SL) (v14 : Int) (v15 : Int) (h : Heap) : Option (Out × (Option (Nat × Nat) × Bool × Unit) × Heap) := iter (fun go s h => f15_l1_b N (fun v1 v4 v5 v13 v14 v15 h => go (v1, v4, v5, v13, v14, v15, ()) h) s.1 s.2.1 s.2.2.1 s.2.2.2.1 s.2.2.2.2.1 s.2.2.2.2.2.1 h) M (v1, v4, v5, v13, v14, v15, ()) h
theorem f15_l1_succ (N M : Nat) (v1 : Int) (v4 : Option (Nat × Nat)) (v5 : Bool) (v13 : SL) (v14 : Int) (v15 : Int) (h : Heap) : f15_l1 N (M + 1) v1 v4 v5 v13 v14 v15 h = f15_l1_b N (f15_l1 N M) v1 v4 v5 v13 v14 v15 h := rfl
theorem f15_l1_zero (N : Nat) (v1 : Int) (v4 : Option (Nat × Nat)) (v5 : Bool) (v13 : SL) (v14 : Int) (v15 : Int) (h : Heap) : f15_l1 N 0 v1 v4 v5 v13 v14 v15 h = none := rfl
noncomputable def f15 (N : Nat) (a0 : Option (Nat × Nat)) (a1 : Int) (h : Heap) : Option (((Int × Int × Int × Int × Unit) × Bool × Unit) × Heap) :=
  let h1 : Heap := h.push (.row [(.int .i64 0), (.int .i64 0), (.int .i64 0), (.int .i64 0)] .own)
  let x2 : Bool := (!a0.isNone)
  (bif x2 then
   (need a0 fun q3 =>
   (bindV (.val (.one .slice)) (h1.cell (q3.1, q3.2 + 2)) fun (x4 : SL) =>
   (bind3 (f15_l1 N N a1 (some (h.next, 0)) false x4 (Int.ofNat x4.len) 0 h1) fun o18 (j19 : (Option (Nat × Nat) × Bool × Unit)) h20 =>
   (bif eqOut o18 (.exit 0) then
    (need j19.1 fun q22 =>
    (need (h20.store q22 [(.int .i64 0), (.int .i64 0), (.int .i64 0), (.int .i64 0)]) fun h21 =>
    (need j19.1 fun q23 =>
    (bindV (.val (.agg [(.int .i64), (.int .i64), (.int .i64), (.int .i64)])) (h21.cells q23 4) fun (x24 : (Int × Int × Int × Int × Unit)) =>
    some (((x24.1, x24.2.1, x24.2.2.1, x24.2.2.2.1, ()), false, ()), h21)))))
   else
    (need j19.1 fun q25 =>
    (bindV (.val (.agg [(.int .i64), (.int .i64), (.int .i64), (.int .i64)])) (h20.cells q25 4) fun (x26 : (Int × Int × Int × Int × Unit)) =>
    some (((x26.1, x26.2.1, x26.2.2.1, x26.2.2.2.1, ()), j19.2.1, ()), h20)))))))
  else
   (need (h1.store (h.next, 0) [(.int .i64 0), (.int .i64 0), (.int .i64 0), (.int .i64 0)]) fun h27 =>
   (bindV (.val (.agg [(.int .i64), (.int .i64), (.int .i64), (.int .i64)])) (h27.cells (h.next, 0) 4) fun (x28 : (Int × Int × Int × Int × Unit)) =>
   some (((x28.1, x28.2.1, x28.2.2.1, x28.2.2.2.1, ()), false, ()), h27))))
noncomputable def ann15 : Ann := (.two .n (.two (.two .n (.two (.two .n (.two (.loop [(1, (.one (.int .i64))), (4, (.one .ptr)), (5, (.one .bool)), (13, (.one .slice)), (14, (.one (.int .i64))), (15, (.one (.int .i64)))] [(.exit 0), .ret] [(4, (.one .ptr)), (5, (.one .bool))] .n) .n)) .n)) .n))
theorem f15_ok (N : Nat) : FnOK Try.prog 15 [(.one .ptr), (.one (.int .i64))] (.tup [(.agg [(.int .i64), (.int .i64), (.int .i64), (.int .i64)]), (.one .bool)]) (fun x h => f15 N x.1 x.2.1 h) :=
  runK_ok envOK hmix noCalls_ok (N := N) (x := ann15) (fn := Try.f15) (c := Try.f15.body.getD .skip) (by kernel_rfl) (by kernel_rfl) (by kernel_rfl) (by kernel_rfl) (fun _ _ => by kernel_rfl)

/- usufruct/lease.timed -/
noncomputable def f21 (N : Nat) (a0 : Int) (h : Heap) : Option (Bool × Heap) :=
  let x1 : Bool := leInt 0 a0
  (bif x1 then
   let x2 : Bool := leInt a0 1099511627776
   some (x2, h)
  else
   some (false, h))
noncomputable def ann21 : Ann := .n
theorem f21_ok (N : Nat) : FnOK Try.prog 21 [(.one (.int .i64))] (.val (.one .bool)) (fun x h => f21 N x.1 h) :=
  runK_ok envOK hmix noCalls_ok (N := N) (x := ann21) (fn := Try.f21) (c := Try.f21.body.getD .skip) (by kernel_rfl) (by kernel_rfl) (by kernel_rfl) (by kernel_rfl) (fun _ _ => by kernel_rfl)

/- (*usufruct/lease.Table).Free -/
noncomputable def f11 (N : Nat) (a0 : Option (Nat × Nat)) (a1 : Int) (a2 : Int) (h : Heap) : Option (Bool × Heap) :=
  (bind2 (f20 N a0 a1 h) fun (x1 : Option (Nat × Nat)) h2 =>
  let x3 : Bool := (!x1.isNone)
  (bif x3 then
   (need x1 fun q4 =>
   (bindV (.val (.one .bool)) (h2.cell (q4.1, q4.2 + 0)) fun (x5 : Bool) =>
   let x6 : Bool := !x5
   (bif x6 then
    (need x1 fun q7 =>
    (bindV (.val (.one .bool)) (h2.cell (q7.1, q7.2 + 1)) fun (x8 : Bool) =>
    let x9 : Bool := !x8
    (bif x9 then
     (need x1 fun q10 =>
     (bindV (.val (.one (.int .i64))) (h2.cell (q10.1, q10.2 + 7)) fun (x11 : Int) =>
     let x12 : Bool := leInt x11 a2
     some (x12, h2)))
    else
     some (false, h2))))
   else
    some (false, h2))))
  else
   some (false, h2)))
noncomputable def ann11 : Ann := .n
theorem f11_ok (N : Nat) : FnOK Try.prog 11 [(.one .ptr), (.one (.int .i64)), (.one (.int .i64))] (.val (.one .bool)) (fun x h => f11 N x.1 x.2.1 x.2.2.1 h) :=
  runK_ok envOK hmix (addCall_ok (f20_ok N) noCalls_ok) (N := N) (x := ann11) (fn := Try.f11) (c := Try.f11.body.getD .skip) (by kernel_rfl) (by kernel_rfl) (by kernel_rfl) (by kernel_rfl) (fun _ _ => by kernel_rfl)

/- (*usufruct/lease.Table).Give -/
noncomputable def f9 (N : Nat) (a0 : Option (Nat × Nat)) (a1 : Int) (a2 : Int) (a3 : Int) (a4 : Int) (h : Heap) : Option (AV × Heap) :=
  (bind2 (f20 N a0 a1 h) fun (x1 : Option (Nat × Nat)) h2 =>
  (bind2 (f15 N a0 a2 h2) fun (x3 : ((Int × Int × Int × Int × Unit) × Bool × Unit)) h4 =>
  let h5 : Heap := h4.push (.row [(.int .i64 0), (.int .i64 0), (.int .i64 0), (.int .i64 0)] .own)
  (need (h5.store (h4.next, 0) [(.int .i64 x3.1.1), (.int .i64 x3.1.2.1), (.int .i64 x3.1.2.2.1), (.int .i64 x3.1.2.2.2.1)]) fun h6 =>
  (bif a0.isNone then
   (bind2 (f19 N 1 0 h6) fun (x7 : AV) h8 =>
   some (x7, h8))
  else
   (bif x1.isNone then
    (bind2 (f19 N 2 0 h6) fun (x9 : AV) h10 =>
    some (x9, h10))
   else
    let x11 : Bool := ltInt a2 1
    (bif x11 then
     (bind2 (f19 N 2 0 h6) fun (x12 : AV) h13 =>
     some (x12, h13))
    else
     let x14 : Bool := leInt 65 a2
     (bif x14 then
      (bind2 (f19 N 2 0 h6) fun (x15 : AV) h16 =>
      some (x15, h16))
     else
      let x17 : Bool := ltInt a3 1
      (bif x17 then
       (bind2 (f19 N 2 0 h6) fun (x18 : AV) h19 =>
       some (x18, h19))
      else
       let x20 : Bool := ltInt 1099511627776 a3
       (bif x20 then
        (bind2 (f19 N 2 0 h6) fun (x21 : AV) h22 =>
        some (x21, h22))
       else
        (bind2 (f21 N a4 h6) fun (x23 : Bool) h24 =>
        let x25 : Bool := !x23
        (bif x25 then
         (bind2 (f19 N 2 0 h24) fun (x26 : AV) h27 =>
         some (x26, h27))
        else
         (bind2 (f11 N a0 a1 a4 h24) fun (x28 : Bool) h29 =>
         let x30 : Bool := !x28
         (bif x30 then
          (bind2 (f19 N 13 0 h29) fun (x31 : AV) h32 =>
          some (x31, h32))
         else
          (bif x3.2.1 then
           (bind2 (f19 N 13 0 h29) fun (x33 : AV) h34 =>
           some (x33, h34))
          else
           (need a0 fun q35 =>
           (bindV (.val (.one (.int .i64))) (h29.cell (q35.1, q35.2 + 1)) fun (x36 : Int) =>
           let x37 : Bool := leInt a3 x36
           (bif x37 then
            (bind2 (f19 N 14 0 h29) fun (x38 : AV) h39 =>
            some (x38, h39))
           else
            (need a0 fun q40 =>
            (need (h29.store (q40.1, q40.2 + 1) [(.int .i64 a3)]) fun h41 =>
            (need x1 fun q42 =>
            (need (h41.store (q42.1, q42.2 + 0) [(.bool true)]) fun h43 =>
            (need a0 fun q44 =>
            (bindV (.val (.one (.int .i64))) (h43.cell (q44.1, q44.2 + 0)) fun (x45 : Int) =>
            let x46 : Int := wrapA .i64 (a4 + x45)
            (need x1 fun q47 =>
            (need (h43.store (q47.1, q47.2 + 2) [(.int .i64 a1), (.int .i64 a2), (.int .i64 a3), (.int .i64 x46)]) fun h48 =>
            some (AV.nilIface, h48))))))))))))))))))))))))))
noncomputable def ann9 : Ann := .n
theorem f9_ok (N : Nat) : FnOK Try.prog 9 [(.one .ptr), (.one (.int .i64)), (.one (.int .i64)), (.one (.int .i64)), (.one (.int .i64))] (.val (.one .any)) (fun x h => f9 N x.1 x.2.1 x.2.2.1 x.2.2.2.1 x.2.2.2.2.1 h) :=
  runK_ok envOK hmix (addCall_ok (f21_ok N) (addCall_ok (f20_ok N) (addCall_ok (f19_ok N) (addCall_ok (f15_ok N) (addCall_ok (f11_ok N) noCalls_ok))))) (N := N) (x := ann9) (fn := Try.f9) (c := Try.f9.body.getD .skip) (by kernel_rfl) (by kernel_rfl) (by kernel_rfl) (by kernel_rfl) (fun _ _ => by kernel_rfl)

/- (*usufruct/lease.Table).Beat -/
noncomputable def f10 (N : Nat) (a0 : Option (Nat × Nat)) (a1 : Int) (a2 : Int) (a3 : Int) (h : Heap) : Option (AV × Heap) :=
  (bind2 (f20 N a0 a1 h) fun (x1 : Option (Nat × Nat)) h2 =>
  (bif a0.isNone then
   (bind2 (f19 N 1 0 h2) fun (x3 : AV) h4 =>
   some (x3, h4))
  else
   (bif x1.isNone then
    (bind2 (f19 N 2 0 h2) fun (x5 : AV) h6 =>
    some (x5, h6))
   else
    (bind2 (f21 N a3 h2) fun (x7 : Bool) h8 =>
    let x9 : Bool := !x7
    (bif x9 then
     (bind2 (f19 N 2 0 h8) fun (x10 : AV) h11 =>
     some (x10, h11))
    else
     (need x1 fun q12 =>
     (bindV (.val (.one .bool)) (h8.cell (q12.1, q12.2 + 0)) fun (x13 : Bool) =>
     let x14 : Bool := !x13
     (bif x14 then
      (bind2 (f19 N 10 0 h8) fun (x15 : AV) h16 =>
      some (x15, h16))
     else
      (need x1 fun q17 =>
      (bindV (.val (.one (.int .i64))) (h8.cell ((q17.1, q17.2 + 2).1, (q17.1, q17.2 + 2).2 + 2)) fun (x18 : Int) =>
      let x19 : Bool := !eqInt x18 a2
      (bif x19 then
       (bind2 (f19 N 14 0 h8) fun (x20 : AV) h21 =>
       some (x20, h21))
      else
       (need x1 fun q22 =>
       (bindV (.val (.one (.int .i64))) (h8.cell ((q22.1, q22.2 + 2).1, (q22.1, q22.2 + 2).2 + 3)) fun (x23 : Int) =>
       (need a0 fun q24 =>
       (bindV (.val (.one (.int .i64))) (h8.cell (q24.1, q24.2 + 0)) fun (x25 : Int) =>
       let x26 : Int := wrapA .i64 (a3 + x25)
       let x27 : Int := (bif ltInt x23 x26 then x26 else x23)
       (need x1 fun q28 =>
       (need (h8.store ((q28.1, q28.2 + 2).1, (q28.1, q28.2 + 2).2 + 3) [(.int .i64 x27)]) fun h29 =>
       some (AV.nilIface, h29))))))))))))))))))
noncomputable def ann10 : Ann := .n
theorem f10_ok (N : Nat) : FnOK Try.prog 10 [(.one .ptr), (.one (.int .i64)), (.one (.int .i64)), (.one (.int .i64))] (.val (.one .any)) (fun x h => f10 N x.1 x.2.1 x.2.2.1 x.2.2.2.1 h) :=
  runK_ok envOK hmix (addCall_ok (f21_ok N) (addCall_ok (f20_ok N) (addCall_ok (f19_ok N) noCalls_ok))) (N := N) (x := ann10) (fn := Try.f10) (c := Try.f10.body.getD .skip) (by kernel_rfl) (by kernel_rfl) (by kernel_rfl) (by kernel_rfl) (fun _ _ => by kernel_rfl)

/- usufruct/lease.Back -/
noncomputable def f6 (N : Nat) (a0 : Int) (h : Heap) : Option (Int × Heap) :=
  let x1 : Bool := ltInt a0 1
  (bif x1 then
   some (0, h)
  else
   let x2 : Bool := eqInt a0 3
   (bif x2 then
    let x3 : Int := wrapA .i64 (1 * 2)
    let x4 : Int := wrapA .i64 (x3 * 2)
    let x5 : Int := (bif ltInt 8 x4 then 8 else x4)
    some (x5, h)
   else
    let x6 : Bool := eqInt a0 2
    (bif x6 then
     let x7 : Int := wrapA .i64 (1 * 2)
     let x8 : Int := (bif ltInt 8 x7 then 8 else x7)
     some (x8, h)
    else
     let x9 : Bool := eqInt a0 1
     (bif x9 then
      let x10 : Int := (bif ltInt 8 1 then 8 else 1)
      some (x10, h)
     else
      let x11 : Int := wrapA .i64 (1 * 2)
      let x12 : Int := wrapA .i64 (x11 * 2)
      let x13 : Int := wrapA .i64 (x12 * 2)
      let x14 : Int := (bif ltInt 8 x13 then 8 else x13)
      some (x14, h)))))
noncomputable def ann6 : Ann := .n
theorem f6_ok (N : Nat) : FnOK Try.prog 6 [(.one (.int .i64))] (.val (.one (.int .i64))) (fun x h => f6 N x.1 h) :=
  runK_ok envOK hmix noCalls_ok (N := N) (x := ann6) (fn := Try.f6) (c := Try.f6.body.getD .skip) (by kernel_rfl) (by kernel_rfl) (by kernel_rfl) (by kernel_rfl) (fun _ _ => by kernel_rfl)

/- (*usufruct/lease.Table).Over -/
noncomputable def f12_l1_b (N : Nat) (go : Option (Nat × Nat) → Int → SL → Int → Int → Heap → Option (Out × (SL × Unit) × Heap)) (v0 : Option (Nat × Nat)) (v1 : Int) (v5 : SL) (v19 : Int) (v20 : Int) (h : Heap) : Option (Out × (SL × Unit) × Heap) :=
  let x6 : Bool := ltInt v20 v19
  (bif x6 then
   (need v0 fun q7 =>
   (bindV (.val (.one .slice)) (h.cell (q7.1, q7.2 + 2)) fun (x8 : SL) =>
   (ixK x8.a x8.len v20 8 fun q9 =>
   (bindV (.val (.one .bool)) (h.cell (q9.1, q9.2 + 0)) fun (x10 : Bool) =>
   let x11 : Bool := !x10
   (bif x11 then
    let x12 : Int := wrapA .i64 (v20 + 1)
    go v0 v1 v5 v19 x12 h
   else
    (bindV (.val (.one (.int .i64))) (h.cell ((q9.1, q9.2 + 2).1, (q9.1, q9.2 + 2).2 + 3)) fun (x13 : Int) =>
    let x14 : Bool := leInt v1 x13
    (bif x14 then
     let x15 : Int := wrapA .i64 (v20 + 1)
     go v0 v1 v5 v19 x15 h
    else
     (need (h.store (q9.1, q9.2 + 0) [(.bool false)]) fun h16 =>
     (need (h16.store (q9.1, q9.2 + 2) [(.int .i64 0), (.int .i64 0), (.int .i64 0), (.int .i64 0)]) fun h17 =>
     (bindV (.val (.one (.int .i64))) (h17.cell (q9.1, q9.2 + 6)) fun (x18 : Int) =>
     let x19 : Int := wrapA .i64 (x18 + 1)
     let x20 : Int := (bif ltInt 8 x19 then 8 else x19)
     (need (h17.store (q9.1, q9.2 + 6) [(.int .i64 x20)]) fun h21 =>
     (bindV (.val (.one (.int .i64))) (h21.cell (q9.1, q9.2 + 6)) fun (x22 : Int) =>
     (bind2 (f6 N x22 h21) fun (x23 : Int) h24 =>
     let x25 : Int := wrapA .i64 (v1 + x23)
     (need (h24.store (q9.1, q9.2 + 7) [(.int .i64 x25)]) fun h26 =>
     let h27 : Heap := h26.push (.row [(.int .i64 v20)] .own)
     (bindT (.val (.one .slice)) (appendA E 34 34 (.slice v5.a v5.len v5.cap v5.sz) (.slice (some (h26.next, 0)) 1 1 1) h27) fun (x28 : SL) h29 =>
     let x30 : Int := wrapA .i64 (v20 + 1)
     go v0 v1 x28 v19 x30 h29)))))))))))))))
  else
   some ((Out.exit 0), (v5, ()), h))
noncomputable def f12_l1 (N M : Nat) (v0 : Option (Nat × Nat)) (v1 : Int) (v5 : SL) (v19 : Int) (v20 : Int) (h : Heap) : Option (Out × (SL × Unit) × Heap) := iter (fun go s h => f12_l1_b N (fun v0 v1 v5 v19 v20 h => go (v0, v1, v5, v19, v20, ()) h) s.1 s.2.1 s.2.2.1 s.2.2.2.1 s.2.2.2.2.1 h) M (v0, v1, v5, v19, v20, ()) h
theorem f12_l1_succ (N M : Nat) (v0 : Option (Nat × Nat)) (v1 : Int) (v5 : SL) (v19 : Int) (v20 : Int) (h : Heap) : f12_l1 N (M + 1) v0 v1 v5 v19 v20 h = f12_l1_b N (f12_l1 N M) v0 v1 v5 v19 v20 h := rfl
theorem f12_l1_zero (N : Nat) (v0 : Option (Nat × Nat)) (v1 : Int) (v5 : SL) (v19 : Int) (v20 : Int) (h : Heap) : f12_l1 N 0 v0 v1 v5 v19 v20 h = none := rfl
noncomputable def f12 (N : Nat) (a0 : Option (Nat × Nat)) (a1 : Int) (h : Heap) : Option (SL × Heap) :=
  (bif a0.isNone then
   some (⟨none, 0, 0, 0⟩, h)
  else
   (bind2 (f21 N a1 h) fun (x1 : Bool) h2 =>
   let x3 : Bool := !x1
   (bif x3 then
    some (⟨none, 0, 0, 0⟩, h2)
   else
    (need a0 fun q4 =>
    (bindV (.val (.one .slice)) (h2.cell (q4.1, q4.2 + 2)) fun (x5 : SL) =>
    (bind3 (f12_l1 N N a0 a1 ⟨none, 0, 0, 0⟩ (Int.ofNat x5.len) 0 h2) fun _ (j32 : (SL × Unit)) h33 =>
    some (j32.1, h33)))))))
noncomputable def ann12 : Ann := (.two .n (.two .n (.two .n (.two (.two .n (.two (.loop [(0, (.one .ptr)), (1, (.one (.int .i64))), (5, (.one .slice)), (19, (.one (.int .i64))), (20, (.one (.int .i64)))] [(.exit 0)] [(5, (.one .slice))] .n) .n)) .n))))
theorem f12_ok (N : Nat) : FnOK Try.prog 12 [(.one .ptr), (.one (.int .i64))] (.val (.one .slice)) (fun x h => f12 N x.1 x.2.1 h) :=
  runK_ok envOK hmix (addCall_ok (f21_ok N) (addCall_ok (f6_ok N) noCalls_ok)) (N := N) (x := ann12) (fn := Try.f12) (c := Try.f12.body.getD .skip) (by kernel_rfl) (by kernel_rfl) (by kernel_rfl) (by kernel_rfl) (fun _ _ => by kernel_rfl)

/- (*usufruct/lease.Table).Tries -/
noncomputable def f13 (N : Nat) (a0 : Option (Nat × Nat)) (a1 : Int) (h : Heap) : Option (Int × Heap) :=
  (bind2 (f20 N a0 a1 h) fun (x1 : Option (Nat × Nat)) h2 =>
  let x3 : Bool := (!x1.isNone)
  (bif x3 then
   (need x1 fun q4 =>
   (bindV (.val (.one (.int .i64))) (h2.cell (q4.1, q4.2 + 6)) fun (x5 : Int) =>
   some (x5, h2)))
  else
   some (0, h2)))
noncomputable def ann13 : Ann := .n
theorem f13_ok (N : Nat) : FnOK Try.prog 13 [(.one .ptr), (.one (.int .i64))] (.val (.one (.int .i64))) (fun x h => f13 N x.1 x.2.1 h) :=
  runK_ok envOK hmix (addCall_ok (f20_ok N) noCalls_ok) (N := N) (x := ann13) (fn := Try.f13) (c := Try.f13.body.getD .skip) (by kernel_rfl) (by kernel_rfl) (by kernel_rfl) (by kernel_rfl) (fun _ _ => by kernel_rfl)

/- usufruct/usufructlaw27.told -/
noncomputable def f7 (N : Nat) (h : Heap) : Option (Bool × Heap) := some (true, h)
theorem f7_ok (N : Nat) : FnOK Try.prog 7 [] (.val (.one .bool)) (fun _ h => f7 N h) :=
  fnOK_told envOK (fn := Try.f7) (by kernel_rfl) (by kernel_rfl) (calls_true envOK hmix noNative_ok (fn := Try.f7) (by kernel_rfl) (by kernel_rfl) (args := []) VRs.nil (n := 1000) (by kernel_rfl))

/- usufruct/usufructlaw27.LeaseFree -/
noncomputable def f4_l4_b (N : Nat) (go : SL → Int → Bool → Int → Option (Nat × Nat) → Int → Int → Int → Int → Heap → Option (Out × (SL × Int × Bool × Int × Option (Nat × Nat) × Int × Int × Int × Unit) × Heap)) (v1 : SL) (v2 : Int) (v6 : Bool) (v7 : Int) (v8 : Option (Nat × Nat)) (v10 : Int) (v11 : Int) (v12 : Int) (v13 : Int) (h : Heap) : Option (Out × (SL × Int × Bool × Int × Option (Nat × Nat) × Int × Int × Int × Unit) × Heap) :=
  (bind2 (f11 N v8 0 v10 h) fun (x61 : Bool) h62 =>
  let x63 : Bool := !x61
  (bif x63 then
   let x64 : Int := wrapA .i64 (v10 + 1)
   (bind2 (f12 N v8 x64 h62) fun (x65 : SL) h66 =>
   let x67 : Int := wrapA .i64 (v13 + v7)
   let x68 : Int := wrapA .i64 (x67 + 1)
   let x69 : Int := wrapA .i64 (x68 + 8)
   let x70 : Bool := ltInt x69 x64
   (bif x70 then
    some (Out.ret, (v1, v2, false, v7, v8, x64, v11, v12, ()), h66)
   else
    go v1 v2 v6 v7 v8 x64 v11 v12 v13 h66))
  else
   some ((Out.exit 2), (v1, v2, v6, v7, v8, v10, v11, v12, ()), h62)))
noncomputable def f4_l4 (N M : Nat) (v1 : SL) (v2 : Int) (v6 : Bool) (v7 : Int) (v8 : Option (Nat × Nat)) (v10 : Int) (v11 : Int) (v12 : Int) (v13 : Int) (h : Heap) : Option (Out × (SL × Int × Bool × Int × Option (Nat × Nat) × Int × Int × Int × Unit) × Heap) := iter (fun go s h => f4_l4_b N (fun v1 v2 v6 v7 v8 v10 v11 v12 v13 h => go (v1, v2, v6, v7, v8, v10, v11, v12, v13, ()) h) s.1 s.2.1 s.2.2.1 s.2.2.2.1 s.2.2.2.2.1 s.2.2.2.2.2.1 s.2.2.2.2.2.2.1 s.2.2.2.2.2.2.2.1 s.2.2.2.2.2.2.2.2.1 h) M (v1, v2, v6, v7, v8, v10, v11, v12, v13, ()) h
theorem f4_l4_succ (N M : Nat) (v1 : SL) (v2 : Int) (v6 : Bool) (v7 : Int) (v8 : Option (Nat × Nat)) (v10 : Int) (v11 : Int) (v12 : Int) (v13 : Int) (h : Heap) : f4_l4 N (M + 1) v1 v2 v6 v7 v8 v10 v11 v12 v13 h = f4_l4_b N (f4_l4 N M) v1 v2 v6 v7 v8 v10 v11 v12 v13 h := rfl
theorem f4_l4_zero (N : Nat) (v1 : SL) (v2 : Int) (v6 : Bool) (v7 : Int) (v8 : Option (Nat × Nat)) (v10 : Int) (v11 : Int) (v12 : Int) (v13 : Int) (h : Heap) : f4_l4 N 0 v1 v2 v6 v7 v8 v10 v11 v12 v13 h = none := rfl
noncomputable def f4_l3_b (N : Nat) (go : SL → Int → Bool → Int → Option (Nat × Nat) → Int → Int → Int → Int → Heap → Option (Out × (SL × Int × Bool × Int × Option (Nat × Nat) × Int × Int × Int × Unit) × Heap)) (v1 : SL) (v2 : Int) (v6 : Bool) (v7 : Int) (v8 : Option (Nat × Nat)) (v10 : Int) (v11 : Int) (v12 : Int) (v13 : Int) (h : Heap) : Option (Out × (SL × Int × Bool × Int × Option (Nat × Nat) × Int × Int × Int × Unit) × Heap) :=
  (bind2 (f11 N v8 0 v10 h) fun (x42 : Bool) h43 =>
  let x44 : Bool := !x42
  (bif x44 then
   let x45 : Int := wrapA .i64 (v10 + 1)
   (bind2 (f12 N v8 x45 h43) fun (x46 : SL) h47 =>
   let x48 : Int := wrapA .i64 (v13 + v7)
   let x49 : Int := wrapA .i64 (x48 + 1)
   let x50 : Int := wrapA .i64 (x49 + 8)
   let x51 : Bool := ltInt x50 x45
   (bif x51 then
    some (Out.ret, (v1, v2, false, v7, v8, x45, v11, v12, ()), h47)
   else
    go v1 v2 v6 v7 v8 x45 v11 v12 v13 h47))
  else
   some ((Out.exit 2), (v1, v2, v6, v7, v8, v10, v11, v12, ()), h43)))
noncomputable def f4_l3 (N M : Nat) (v1 : SL) (v2 : Int) (v6 : Bool) (v7 : Int) (v8 : Option (Nat × Nat)) (v10 : Int) (v11 : Int) (v12 : Int) (v13 : Int) (h : Heap) : Option (Out × (SL × Int × Bool × Int × Option (Nat × Nat) × Int × Int × Int × Unit) × Heap) := iter (fun go s h => f4_l3_b N (fun v1 v2 v6 v7 v8 v10 v11 v12 v13 h => go (v1, v2, v6, v7, v8, v10, v11, v12, v13, ()) h) s.1 s.2.1 s.2.2.1 s.2.2.2.1 s.2.2.2.2.1 s.2.2.2.2.2.1 s.2.2.2.2.2.2.1 s.2.2.2.2.2.2.2.1 s.2.2.2.2.2.2.2.2.1 h) M (v1, v2, v6, v7, v8, v10, v11, v12, v13, ()) h
theorem f4_l3_succ (N M : Nat) (v1 : SL) (v2 : Int) (v6 : Bool) (v7 : Int) (v8 : Option (Nat × Nat)) (v10 : Int) (v11 : Int) (v12 : Int) (v13 : Int) (h : Heap) : f4_l3 N (M + 1) v1 v2 v6 v7 v8 v10 v11 v12 v13 h = f4_l3_b N (f4_l3 N M) v1 v2 v6 v7 v8 v10 v11 v12 v13 h := rfl
theorem f4_l3_zero (N : Nat) (v1 : SL) (v2 : Int) (v6 : Bool) (v7 : Int) (v8 : Option (Nat × Nat)) (v10 : Int) (v11 : Int) (v12 : Int) (v13 : Int) (h : Heap) : f4_l3 N 0 v1 v2 v6 v7 v8 v10 v11 v12 v13 h = none := rfl
noncomputable def f4_l2_b (N : Nat) (go : SL → Int → Bool → Int → Option (Nat × Nat) → Int → Int → Int → Int → Heap → Option (Out × (SL × Int × Bool × Int × Option (Nat × Nat) × Int × Int × Int × Unit) × Heap)) (v1 : SL) (v2 : Int) (v6 : Bool) (v7 : Int) (v8 : Option (Nat × Nat)) (v10 : Int) (v11 : Int) (v12 : Int) (v13 : Int) (h : Heap) : Option (Out × (SL × Int × Bool × Int × Option (Nat × Nat) × Int × Int × Int × Unit) × Heap) :=
  (bind2 (f11 N v8 0 v10 h) fun (x23 : Bool) h24 =>
  let x25 : Bool := !x23
  (bif x25 then
   let x26 : Int := wrapA .i64 (v10 + 1)
   (bind2 (f12 N v8 x26 h24) fun (x27 : SL) h28 =>
   let x29 : Int := wrapA .i64 (v13 + v7)
   let x30 : Int := wrapA .i64 (x29 + 1)
   let x31 : Int := wrapA .i64 (x30 + 8)
   let x32 : Bool := ltInt x31 x26
   (bif x32 then
    some (Out.ret, (v1, v2, false, v7, v8, x26, v11, v12, ()), h28)
   else
    go v1 v2 v6 v7 v8 x26 v11 v12 v13 h28))
  else
   some ((Out.exit 2), (v1, v2, v6, v7, v8, v10, v11, v12, ()), h24)))
noncomputable def f4_l2 (N M : Nat) (v1 : SL) (v2 : Int) (v6 : Bool) (v7 : Int) (v8 : Option (Nat × Nat)) (v10 : Int) (v11 : Int) (v12 : Int) (v13 : Int) (h : Heap) : Option (Out × (SL × Int × Bool × Int × Option (Nat × Nat) × Int × Int × Int × Unit) × Heap) := iter (fun go s h => f4_l2_b N (fun v1 v2 v6 v7 v8 v10 v11 v12 v13 h => go (v1, v2, v6, v7, v8, v10, v11, v12, v13, ()) h) s.1 s.2.1 s.2.2.1 s.2.2.2.1 s.2.2.2.2.1 s.2.2.2.2.2.1 s.2.2.2.2.2.2.1 s.2.2.2.2.2.2.2.1 s.2.2.2.2.2.2.2.2.1 h) M (v1, v2, v6, v7, v8, v10, v11, v12, v13, ()) h
theorem f4_l2_succ (N M : Nat) (v1 : SL) (v2 : Int) (v6 : Bool) (v7 : Int) (v8 : Option (Nat × Nat)) (v10 : Int) (v11 : Int) (v12 : Int) (v13 : Int) (h : Heap) : f4_l2 N (M + 1) v1 v2 v6 v7 v8 v10 v11 v12 v13 h = f4_l2_b N (f4_l2 N M) v1 v2 v6 v7 v8 v10 v11 v12 v13 h := rfl
theorem f4_l2_zero (N : Nat) (v1 : SL) (v2 : Int) (v6 : Bool) (v7 : Int) (v8 : Option (Nat × Nat)) (v10 : Int) (v11 : Int) (v12 : Int) (v13 : Int) (h : Heap) : f4_l2 N 0 v1 v2 v6 v7 v8 v10 v11 v12 v13 h = none := rfl
noncomputable def f4_l1_b (N : Nat) (go : SL → Int → Bool → Int → Option (Nat × Nat) → Int → Int → Int → Heap → Option (Out × (Bool × Unit) × Heap)) (v1 : SL) (v2 : Int) (v6 : Bool) (v7 : Int) (v8 : Option (Nat × Nat)) (v10 : Int) (v11 : Int) (v12 : Int) (h : Heap) : Option (Out × (Bool × Unit) × Heap) :=
  (bindV (.val (.one (.int .i64))) (bitsA .and .i64 v2 15) fun (x6 : Int) =>
  (bindV (.val (.one (.int .i64))) (binInt .rem .i64 x6 12) fun (x7 : Int) =>
  let x8 : Int := wrapA .i64 (1 + x7)
  let x9 : Bool := ltInt v12 x8
  (bif x9 then
   let x10 : Int := wrapA .i64 (v11 + 1)
   (bindV (.val (.one (.int .i64))) (bitsA .and .i64 v12 1) fun (x11 : Int) =>
   let x12 : Int := wrapA .i64 (1 + x11)
   (bind2 (f9 N v8 0 x12 x10 v10 h) fun (x13 : AV) h14 =>
   (bindV (.val (.one .bool)) (binA E .neq 28 (.tmp 44) (.const .nilIface) x13 AV.nilIface) fun (x15 : Bool) =>
   (bif x15 then
    some (Out.ret, (false, ()), h14)
   else
    let x16 : Bool := ltInt v12 (Int.ofNat v1.len)
    (bif x16 then
     (ixK v1.a v1.len v12 1 fun q17 =>
     (bindV (.val (.one .bool)) (h14.cell q17) fun (x18 : Bool) =>
     (bif x18 then
      let x19 : Int := wrapA .i64 (v10 + 1)
      (bind2 (f10 N v8 0 x10 x19 h14) fun (x20 : AV) h21 =>
      (bindV (.val (.one .bool)) (binA E .neq 28 (.tmp 62) (.const .nilIface) x20 AV.nilIface) fun (x22 : Bool) =>
      (bif x22 then
       some (Out.ret, (false, ()), h21)
      else
       (bind3 (f4_l2 N N v1 v2 v6 v7 v8 x19 x10 v12 x19 h21) fun o33 (j34 : (SL × Int × Bool × Int × Option (Nat × Nat) × Int × Int × Int × Unit)) h35 =>
       (bif eqOut o33 (.exit 2) then
        (bind2 (f13 N j34.2.2.2.2.1 0 h35) fun (x36 : Int) h37 =>
        let x38 : Int := wrapA .i64 (j34.2.2.2.2.2.2.2.1 + 1)
        let x39 : Int := (bif ltInt 8 x38 then 8 else x38)
        let x40 : Bool := !eqInt x36 x39
        (bif x40 then
         some (Out.ret, (false, ()), h37)
        else
         let x41 : Int := wrapA .i64 (j34.2.2.2.2.2.2.2.1 + 1)
         go j34.1 j34.2.1 j34.2.2.1 j34.2.2.2.1 j34.2.2.2.2.1 j34.2.2.2.2.2.1 j34.2.2.2.2.2.2.1 x41 h37))
       else
        some (Out.ret, (j34.2.2.1, ()), h35))))))
     else
      (bind3 (f4_l3 N N v1 v2 v6 v7 v8 v10 x10 v12 v10 h14) fun o52 (j53 : (SL × Int × Bool × Int × Option (Nat × Nat) × Int × Int × Int × Unit)) h54 =>
      (bif eqOut o52 (.exit 2) then
       (bind2 (f13 N j53.2.2.2.2.1 0 h54) fun (x55 : Int) h56 =>
       let x57 : Int := wrapA .i64 (j53.2.2.2.2.2.2.2.1 + 1)
       let x58 : Int := (bif ltInt 8 x57 then 8 else x57)
       let x59 : Bool := !eqInt x55 x58
       (bif x59 then
        some (Out.ret, (false, ()), h56)
       else
        let x60 : Int := wrapA .i64 (j53.2.2.2.2.2.2.2.1 + 1)
        go j53.1 j53.2.1 j53.2.2.1 j53.2.2.2.1 j53.2.2.2.2.1 j53.2.2.2.2.2.1 j53.2.2.2.2.2.2.1 x60 h56))
      else
       some (Out.ret, (j53.2.2.1, ()), h54))))))
    else
     (bind3 (f4_l4 N N v1 v2 v6 v7 v8 v10 x10 v12 v10 h14) fun o71 (j72 : (SL × Int × Bool × Int × Option (Nat × Nat) × Int × Int × Int × Unit)) h73 =>
     (bif eqOut o71 (.exit 2) then
      (bind2 (f13 N j72.2.2.2.2.1 0 h73) fun (x74 : Int) h75 =>
      let x76 : Int := wrapA .i64 (j72.2.2.2.2.2.2.2.1 + 1)
      let x77 : Int := (bif ltInt 8 x76 then 8 else x76)
      let x78 : Bool := !eqInt x74 x77
      (bif x78 then
       some (Out.ret, (false, ()), h75)
      else
       let x79 : Int := wrapA .i64 (j72.2.2.2.2.2.2.2.1 + 1)
       go j72.1 j72.2.1 j72.2.2.1 j72.2.2.2.1 j72.2.2.2.2.1 j72.2.2.2.2.2.1 j72.2.2.2.2.2.2.1 x79 h75))
     else
      some (Out.ret, (j72.2.2.1, ()), h73))))))))
  else
   some ((Out.exit 0), (v6, ()), h))))
noncomputable def f4_l1 (N M : Nat) (v1 : SL) (v2 : Int) (v6 : Bool) (v7 : Int) (v8 : Option (Nat × Nat)) (v10 : Int) (v11 : Int) (v12 : Int) (h : Heap) : Option (Out × (Bool × Unit) × Heap) := iter (fun go s h => f4_l1_b N (fun v1 v2 v6 v7 v8 v10 v11 v12 h => go (v1, v2, v6, v7, v8, v10, v11, v12, ()) h) s.1 s.2.1 s.2.2.1 s.2.2.2.1 s.2.2.2.2.1 s.2.2.2.2.2.1 s.2.2.2.2.2.2.1 s.2.2.2.2.2.2.2.1 h) M (v1, v2, v6, v7, v8, v10, v11, v12, ()) h
theorem f4_l1_succ (N M : Nat) (v1 : SL) (v2 : Int) (v6 : Bool) (v7 : Int) (v8 : Option (Nat × Nat)) (v10 : Int) (v11 : Int) (v12 : Int) (h : Heap) : f4_l1 N (M + 1) v1 v2 v6 v7 v8 v10 v11 v12 h = f4_l1_b N (f4_l1 N M) v1 v2 v6 v7 v8 v10 v11 v12 h := rfl
theorem f4_l1_zero (N : Nat) (v1 : SL) (v2 : Int) (v6 : Bool) (v7 : Int) (v8 : Option (Nat × Nat)) (v10 : Int) (v11 : Int) (v12 : Int) (h : Heap) : f4_l1 N 0 v1 v2 v6 v7 v8 v10 v11 v12 h = none := rfl
noncomputable def f4 (N : Nat) (a0 : Int) (a1 : SL) (a2 : Int) (h : Heap) : Option (Bool × Heap) :=
  (bindV (.val (.one (.int .i64))) (bitsA .and .i64 a0 15) fun (x1 : Int) =>
  let x2 : Int := wrapA .i64 (1 + x1)
  (bind2 (f8 N 1 x2 h) fun (x3 : (Option (Nat × Nat) × AV × Unit)) h4 =>
  (bindV (.val (.one .bool)) (binA E .neq 28 (.tmp 22) (.const .nilIface) x3.2.1 AV.nilIface) fun (x5 : Bool) =>
  (bif x5 then
   some (false, h4)
  else
   (bif x3.1.isNone then
    some (false, h4)
   else
    (bind3 (f4_l1 N N a1 a2 false x2 x3.1 0 0 0 h4) fun o80 (j81 : (Bool × Unit)) h82 =>
    (bif eqOut o80 (.exit 0) then
     (bind2 (f7 N  h82) fun (x83 : Bool) h84 =>
     some (x83, h84))
    else
     some (j81.1, h82))))))))
noncomputable def ann4 : Ann := (.two .n (.two .n (.two .n (.two .n (.two .n (.two (.two .n (.two (.loop [(1, (.one .slice)), (2, (.one (.int .i64))), (6, (.one .bool)), (7, (.one (.int .i64))), (8, (.one .ptr)), (10, (.one (.int .i64))), (11, (.one (.int .i64))), (12, (.one (.int .i64)))] [(.exit 0), .ret] [(6, (.one .bool))] (.two .n (.two (.two (.two .n (.two .n (.two .n (.two .n (.two (.two (.loop [(1, (.one .slice)), (2, (.one (.int .i64))), (6, (.one .bool)), (7, (.one (.int .i64))), (8, (.one .ptr)), (10, (.one (.int .i64))), (11, (.one (.int .i64))), (12, (.one (.int .i64))), (13, (.one (.int .i64)))] [(.exit 2), .ret] [(1, (.one .slice)), (2, (.one (.int .i64))), (6, (.one .bool)), (7, (.one (.int .i64))), (8, (.one .ptr)), (10, (.one (.int .i64))), (11, (.one (.int .i64))), (12, (.one (.int .i64)))] .n) .n) .n))))) .n) .n))) .n)) .n))))))
theorem f4_ok (N : Nat) : FnOK Try.prog 4 [(.one (.int .i64)), (.one .slice), (.one (.int .i64))] (.val (.one .bool)) (fun x h => f4 N x.1 x.2.1 x.2.2.1 h) :=
  runK_ok envOK hmix (addCall_ok (f13_ok N) (addCall_ok (f12_ok N) (addCall_ok (f11_ok N) (addCall_ok (f10_ok N) (addCall_ok (f9_ok N) (addCall_ok (f8_ok N) (addCall_ok (f7_ok N) noCalls_ok))))))) (N := N) (x := ann4) (fn := Try.f4) (c := Try.f4.body.getD .skip) (by kernel_rfl) (by kernel_rfl) (by kernel_rfl) (by kernel_rfl) (fun _ _ => by kernel_rfl)
end Go.Proofs.Ytdnmgcffccilkaa.Sh

open Go Go.Proofs.Ytdnmgcffccilkaa.Ai Go.Proofs
namespace Go.Proofs.Ytdnmgcffccilkaa.Sh
structure Cr where
  lent : Bool
  ended : Bool
  c : Int
  w : Int
  e : Int
  u : Int
  tries : Int
  waits : Int
def Cr.cells (x : Cr) : List AV := [.bool x.lent, .bool x.ended, .int .i64 x.c, .int .i64 x.w, .int .i64 x.e, .int .i64 x.u, .int .i64 x.tries, .int .i64 x.waits]
structure Tab (B : Nat) (h0 h : Heap) (tb ab : Nat) (len last : Int) (x : Cr) : Prop where
  t : h.g tb = some (.row [.int .i64 len, .int .i64 last, .slice (some (ab, 0)) 1 1 8] .own)
  a : h.g ab = some (.row [.bool x.lent, .bool x.ended, .int .i64 x.c, .int .i64 x.w, .int .i64 x.e, .int .i64 x.u, .int .i64 x.tries, .int .i64 x.waits] .own)
  ne : tb ≠ ab
  lt : tb < h.next
  la : ab < h.next
  bt : B ≤ tb
  ba : B ≤ ab
  b0 : B ≤ h0.next
  k : Keep B h0 h
variable {B : Nat} {h0 h : Heap} {tb ab : Nat} {len last : Int} {x : Cr} {N : Nat}
theorem ixK1 {β : Type} (q : Nat × Nat) (K : Nat × Nat → Option β) : ixK (some q) 1 0 8 K = K (q.1, q.2 + 0) := by simp [ixK]; rfl
theorem at_spec (ht : Tab B h0 h tb ab len last x) : f20 N (some (tb, 0)) 0 h = some (some (ab, 0), h) := by
  simp [f20, Heap.cell_g, ht.t, cellB_own, ltInt_dec, leInt_dec, ixK1]
theorem free_spec (ht : Tab B h0 h tb ab len last x) (now : Int) : f11 N (some (tb, 0)) 0 now h = some (!x.lent && !x.ended && decide (x.waits ≤ now), h) := by
  cases h1 : x.lent <;> cases h2 : x.ended <;> simp [f11, at_spec ht, Heap.cell_g, ht.a, cellB_own, leInt_dec, h1, h2]
theorem tries_spec (ht : Tab B h0 h tb ab len last x) : f13 N (some (tb, 0)) 0 h = some (x.tries, h) := by
  simp [f13, at_spec ht, Heap.cell_g, ht.a, cellB_own]
theorem timed_spec {now : Int} (h1 : 0 ≤ now) (h2 : now ≤ 1099511627776) : f21 N now h = some (true, h) := by
  simp [f21, leInt_dec, h1, h2]
def backI (n : Int) : Int := if n < 1 then 0 else if n = 1 then 1 else if n = 2 then 2 else if n = 3 then 4 else 8
theorem back_spec (n : Int) : f6 N n h = some (backI n, h) := by
  have e2 : wrapA .i64 (1 * 2) = 2 := by decide +kernel
  have e4 : wrapA .i64 (2 * 2) = 4 := by decide +kernel
  have e8 : wrapA .i64 (4 * 2) = 8 := by decide +kernel
  unfold f6 backI
  simp only [e2, e4, e8, ltInt_dec, eqInt_dec]
  by_cases h1 : n < 1
  · simp [h1]
  · by_cases h3 : n = 3
    · subst h3; simp
    · by_cases h2 : n = 2
      · subst h2; simp
      · by_cases h1' : n = 1
        · subst h1'; simp
        · simp [h1, h2, h3, h1']
set_option linter.unusedSimpArgs false in
theorem held_spec (ht : Tab B h0 h tb ab len last x) (w : Int) : ∃ r h', f15 (N + 2) (some (tb, 0)) w h = some ((r, x.lent && decide (x.w = w), ()), h') ∧ Tab B h0 h' tb ab len last x := by
  have hT0 := ht
  obtain ⟨ht, ha, hne, hlt, hla, hbt, hba, hb0, hk⟩ := ht
  have hnx := hk.next
  have e01 : wrapA .i64 1 = 1 := by decide +kernel
  cases h1 : x.lent <;> by_cases h2 : x.w = w <;>
    simp (disch := first | ((repeat (first | rw [Heap.push_next] | rw [Heap.put_next])) <;> omega) | fail) [f15, f15_l1_succ, f15_l1_b, Heap.cell_g, Heap.cells_g, Heap.store_g, g_push_eq, g_push_ne, g_put_eq, g_put_ne, ht, ha, cellB_own, cellsB_own, storeB_own, over_nil, over_zero, over_succ, takeN_zero, takeN_succ, ltInt_dec, leInt_dec, eqInt_dec, ixK1, h1, h2, e01]
  all_goals
    refine ⟨_, _, _, _, _, ⟨⟨rfl, rfl, rfl, rfl⟩, rfl⟩, ?_⟩
    constructor <;> first | exact hT0.ne | exact hT0.bt | exact hT0.ba | exact hT0.b0 | (simp (disch := first | ((repeat (first | rw [Heap.push_next] | rw [Heap.put_next])) <;> omega) | fail) [g_push_eq, g_push_ne, g_put_eq, g_put_ne, ht, ha, hne, h1, h2]; done) | (simp only [Heap.push_next, Heap.put_next]; omega) | omega | (repeat (first | exact hT0.k | refine Keep.put ?_ (by omega) _ | refine Keep.push ?_ (by omega) _))

set_option linter.unusedSimpArgs false in
theorem give_spec (ht : Tab B h0 h tb ab len last x) {w e now : Int} (hw1 : 1 ≤ w) (hw2 : w ≤ 64) (he1 : 1 ≤ e) (he2 : e ≤ 1099511627776) (hn1 : 0 ≤ now) (hn2 : now ≤ 1099511627776) (hl : x.lent = false) (hd : x.ended = false) (hwt : x.waits ≤ now) (hla : last < e) (hlen1 : 0 ≤ len) (hlen2 : len ≤ 1000) :
    ∃ h', f9 (N + 2) (some (tb, 0)) 0 w e now h = some (AV.nilIface, h') ∧ Tab B h0 h' tb ab len e { x with lent := true, c := 0, w := w, e := e, u := now + len } := by
  obtain ⟨r, h', hh, ht'⟩ := held_spec (N := N) ht w
  have hs : wrapA .i64 (now + len) = now + len := wrapA_small (by omega) (by omega)
  have g1 : ∀ (b : Blk) (c : Blk), Tab B h0 ((h'.push b).put h'.next c) tb ab len last x := fun b c => (by
    have := ht'
    obtain ⟨a1, a2, a3, a4, a5, a6, a7, a8, a9⟩ := this
    have hnx := a9.next
    constructor <;> first | exact ht'.ne | exact ht'.bt | exact ht'.ba | exact ht'.b0 | (simp (disch := first | ((repeat (first | rw [Heap.push_next] | rw [Heap.put_next])) <;> omega) | fail) [g_push_eq, g_push_ne, g_put_eq, g_put_ne, a1, a2, a3]; done) | (simp only [Heap.push_next, Heap.put_next]; omega) | omega | (repeat (first | exact ht'.k | refine Keep.put ?_ (by omega) _ | refine Keep.push ?_ (by omega) _)))
  have gn : ∀ (b : Blk) (c : Blk), ((h'.push b).put h'.next c).next = h'.next + 1 := fun _ _ => rfl
  rw [hl] at hh
  unfold f9
  simp (disch := first | ((repeat (first | rw [Heap.push_next] | rw [Heap.put_next])) <;> omega) | fail) only [at_spec ht, hh, bind2_some, Heap.store_g, g_push_eq, storeB_own, over_zero, over_nil, Option.map_some, need_some, Option.isNone_some, cond_false, ltInt_dec, leInt_dec]
  generalize hH : (h'.push _).put h'.next _ = H
  have hT : Tab B h0 H tb ab len last x := by rw [← hH]; exact g1 _ _
  clear hH g1 gn hh ht'
  have hne := hT.ne
  have hlo := hT.b0
  have hnt := hT.bt
  have hna := hT.ba
  have hnx := hT.k.next
  have hlt := hT.lt
  have hlab := hT.la
  have d1 : ¬ w < 1 := by omega
  have d2 : ¬ 65 ≤ w := by omega
  have d3 : ¬ e < 1 := by omega
  have d4 : ¬ 1099511627776 < e := by omega
  have d5 : ¬ e ≤ last := by omega
  simp (disch := first | ((repeat (first | rw [Heap.push_next] | rw [Heap.put_next])) <;> omega) | fail) [timed_spec hn1 hn2, free_spec hT, hl, hd, hwt, d1, d2, d3, d4, d5, Heap.cell_g, Heap.store_g, hT.t, hT.a, hT.ne, hT.ne.symm, cellB_own, storeB_own, over_zero, over_succ, over_nil, g_put_eq, g_put_ne, hs]
  constructor <;> first | exact hT.ne | exact hT.bt | exact hT.ba | exact hT.b0 | (simp (disch := first | ((repeat (first | rw [Heap.push_next] | rw [Heap.put_next])) <;> omega) | fail) [g_push_eq, g_push_ne, g_put_eq, g_put_ne, hT.t, hT.a, hne]; done) | (simp only [Heap.push_next, Heap.put_next]; omega) | omega | (repeat (first | exact hT.k | refine Keep.put ?_ (by omega) _ | refine Keep.push ?_ (by omega) _))

set_option linter.unusedSimpArgs false in
theorem beat_spec (ht : Tab B h0 h tb ab len last x) {now : Int} (hn1 : 0 ≤ now) (hn2 : now ≤ 1099511627776) (hl : x.lent = true) (hlen1 : 0 ≤ len) (hlen2 : len ≤ 1000) :
    ∃ h', f10 N (some (tb, 0)) 0 x.e now h = some (AV.nilIface, h') ∧ Tab B h0 h' tb ab len last { x with u := if x.u < now + len then now + len else x.u } := by
  have hs : wrapA .i64 (now + len) = now + len := wrapA_small (by omega) (by omega)
  have hne := ht.ne
  have hlo := ht.b0
  have hnt := ht.bt
  have hna := ht.ba
  have hnx := ht.k.next
  have hlt := ht.lt
  have hlab := ht.la
  by_cases hu : x.u < now + len
  all_goals
    simp (disch := first | ((repeat (first | rw [Heap.push_next] | rw [Heap.put_next])) <;> omega) | fail) [f10, at_spec ht, timed_spec hn1 hn2, hl, Heap.cell_g, Heap.store_g, ht.t, ht.a, cellB_own, storeB_own, over_zero, over_succ, over_nil, g_put_eq, g_put_ne, hs, ltInt_dec, eqInt_dec, hu]
    constructor <;> first | exact ht.ne | exact ht.bt | exact ht.ba | exact ht.b0 | (simp (disch := first | ((repeat (first | rw [Heap.push_next] | rw [Heap.put_next])) <;> omega) | fail) [g_push_eq, g_push_ne, g_put_eq, g_put_ne, ht.t, ht.a, hne, hl, hu]; done) | (simp only [Heap.push_next, Heap.put_next]; omega) | omega | (repeat (first | exact ht.k | refine Keep.put ?_ (by omega) _ | refine Keep.push ?_ (by omega) _))
theorem und34 : E.und 34 = some (.slice 3) := by kernel_rfl
theorem und3 : E.und 3 = some (.int .i64) := by kernel_rfl
theorem app_spec (A : Nat) (v : AV) (hv : AV.single v = true) (hA : h.g A = some (.row [v] .own)) : appendA E 34 34 (.slice none 0 0 0) (.slice (some (A, 0)) 1 1 1) h = some (.slice (some (h.next, 0)) 1 1 1, h.push (.row [v] .grown)) := by
  have hi : (E.info 3).map (fun i => (i.size, i.bytes)) = some (1, 8) := by kernel_rfl
  obtain ⟨i, h1, h23⟩ := Option.map_eq_some_iff.1 hi
  simp only [Prod.mk.injEq] at h23
  obtain ⟨h2, h3⟩ := h23
  have hz : E.zero 3 = some (.int .i64 0) := by kernel_rfl
  have hr : h.read A 0 1 = some [v] := cell_read (q := (A, 0)) (by rw [Heap.cell_g, hA, cellB_own]; rfl)
  simp [appendA, und34, isIntD, h1, hz, lenOfA, firstCellsA, h2, h3, hr, growA, AV.cells, hv, roomA]
  rfl
theorem over_id (ht : Tab B h0 h tb ab len last x) {now : Int} (hn1 : 0 ≤ now) (hn2 : now ≤ 1099511627776) (hc : x.lent = false ∨ now ≤ x.u) : ∃ r, f12 (N + 2) (some (tb, 0)) now h = some (r, h) := by
  have e01 : wrapA .i64 1 = 1 := by decide +kernel
  rcases hc with hl | hu
  · simp (disch := first | ((repeat (first | rw [Heap.push_next] | rw [Heap.put_next])) <;> omega) | fail) [f12, timed_spec hn1 hn2, f12_l1_succ, f12_l1_b, Heap.cell_g, ht.t, ht.a, cellB_own, ixK1, ltInt_dec, hl, e01]
  · cases hl : x.lent <;> simp (disch := first | ((repeat (first | rw [Heap.push_next] | rw [Heap.put_next])) <;> omega) | fail) [f12, timed_spec hn1 hn2, f12_l1_succ, f12_l1_b, Heap.cell_g, ht.t, ht.a, cellB_own, ixK1, ltInt_dec, leInt_dec, hl, hu, e01]

def mn (n : Int) : Int := if 8 < n + 1 then 8 else n + 1
set_option linter.unusedSimpArgs false in
theorem over_due (ht : Tab B h0 h tb ab len last x) {now : Int} (hn1 : 0 ≤ now) (hn2 : now ≤ 1099511627776) (hl : x.lent = true) (hu : x.u < now) (ht0 : 0 ≤ x.tries) (ht8 : x.tries ≤ 8) :
    ∃ r h', f12 (N + 2) (some (tb, 0)) now h = some (r, h') ∧ Tab B h0 h' tb ab len last { x with lent := false, c := 0, w := 0, e := 0, u := 0, tries := mn x.tries, waits := now + backI (mn x.tries) } := by
  have e01 : wrapA .i64 1 = 1 := by decide +kernel
  have hne := ht.ne
  have hlo := ht.b0
  have hnt := ht.bt
  have hna := ht.ba
  have hnx := ht.k.next
  have hlt := ht.lt
  have hlab := ht.la
  have hu' : ¬ now ≤ x.u := by omega
  have hb : 0 ≤ backI (mn x.tries) ∧ backI (mn x.tries) ≤ 8 := by unfold backI; (repeat' split) <;> omega
  have hs : wrapA .i64 (x.tries + 1) = x.tries + 1 := wrapA_small (by omega) (by omega)
  have hs2 : wrapA .i64 (now + backI (mn x.tries)) = now + backI (mn x.tries) := wrapA_small (by omega) (by omega)
  have hm : (bif decide (8 < x.tries + 1) then (8 : Int) else x.tries + 1) = mn x.tries := by unfold mn; by_cases h8 : 8 < x.tries + 1 <;> simp [h8]
  simp (disch := first | ((repeat (first | rw [Heap.push_next] | rw [Heap.put_next])) <;> omega) | fail) [f12, timed_spec hn1 hn2, f12_l1_succ, f12_l1_b, Heap.cell_g, Heap.store_g, ht.t, ht.a, cellB_own, storeB_own, over_zero, over_succ, over_nil, g_put_eq, g_put_ne, g_push_eq, g_push_ne, ixK1, ltInt_dec, leInt_dec, hl, hu', e01, hs, hm, back_spec, hs2, app_spec, AV.single]
  rw [app_spec h.next (.int .i64 0) rfl (by exact g_push_eq _ rfl)]
  simp only [bindT_some, cast_slice, bind3_some, Option.some.injEq, Prod.mk.injEq]
  refine ⟨_, _, ⟨rfl, rfl⟩, ?_⟩
  constructor <;> first | exact ht.ne | exact ht.bt | exact ht.ba | exact ht.b0 | (simp (disch := first | ((repeat (first | rw [Heap.push_next] | rw [Heap.put_next])) <;> omega) | fail) [g_push_eq, g_push_ne, g_put_eq, g_put_ne, ht.t, ht.a, hne, hl]; done) | (simp only [Heap.push_next, Heap.put_next]; omega) | omega | (repeat (first | exact ht.k | refine Keep.put ?_ (by omega) _ | refine Keep.push ?_ (by omega) _))
end Go.Proofs.Ytdnmgcffccilkaa.Sh

open Go Go.Proofs.Ytdnmgcffccilkaa.Ai Go.Proofs
namespace Go.Proofs.Ytdnmgcffccilkaa.Sh
variable {B : Nat} {h0 : Heap} {tb ab : Nat}
theorem back_b (n : Int) : 0 ≤ backI n ∧ backI n ≤ 8 := by unfold backI; (repeat' split) <;> omega
theorem mn_b {n : Int} (h : 0 ≤ n) : 0 ≤ mn n ∧ mn n ≤ 8 := by unfold mn; split <;> omega
/-- one round that goes on -/
theorem round_on {N M : Nat} {h h' : Heap} {now lst n k ep : Int} {a1 : SL} {a2 : Int} {bo : Bool} {r : SL} {f : Bool} (hf : f11 (N + 2) (some (tb, 0)) 0 now h = some (f, h)) (hff : f = false) (ho : f12 (N + 2) (some (tb, 0)) (now + 1) h = some (r, h'))
    (h1 : 0 ≤ now) (h2 : now ≤ 1000000) (h3 : 0 ≤ lst) (h4 : lst ≤ 1000000) (h5 : 0 ≤ n) (h6 : n ≤ 100) (hb : now + 1 ≤ lst + n + 9) :
    f4_l2 (N + 2) (M + 1) a1 a2 bo n (some (tb, 0)) now ep k lst h = f4_l2 (N + 2) M a1 a2 bo n (some (tb, 0)) (now + 1) ep k lst h' := by
  subst hff
  have e1 : wrapA .i64 (now + 1) = now + 1 := wrapA_small (by omega) (by omega)
  have e2 : wrapA .i64 (lst + n) = lst + n := wrapA_small (by omega) (by omega)
  have e3 : wrapA .i64 (lst + n + 1) = lst + n + 1 := wrapA_small (by omega) (by omega)
  have e4 : wrapA .i64 (lst + n + 1 + 8) = lst + n + 1 + 8 := wrapA_small (by omega) (by omega)
  have hd : ¬ lst + n + 1 + 8 < now + 1 := by omega
  rw [f4_l2_succ]
  unfold f4_l2_b
  simp [hf, e1, ho, e2, e3, e4, ltInt_dec, hd]
/-- the round that ends it -/
theorem round_off {N M : Nat} {h : Heap} {now lst n k ep : Int} {a1 : SL} {a2 : Int} {bo : Bool} (hf : f11 (N + 2) (some (tb, 0)) 0 now h = some (true, h)) :
    f4_l2 (N + 2) (M + 1) a1 a2 bo n (some (tb, 0)) now ep k lst h = some (.exit 2, (a1, a2, bo, n, some (tb, 0), now, ep, k, ()), h) := by
  rw [f4_l2_succ]
  unfold f4_l2_b
  simp [hf]
theorem wait_free {N : Nat} {last lst n k ep : Int} {a1 : SL} {a2 : Int} {bo : Bool} {x : Cr} (hl : x.lent = false) (hd : x.ended = false) (h3 : 0 ≤ lst) (h4 : lst ≤ 800000) (h5 : 1 ≤ n) (h6 : n ≤ 16) (hw : x.waits ≤ lst + n + 9) :
    ∀ (M : Nat) (h : Heap) (now : Int), Tab B h0 h tb ab n last x → 0 ≤ now → now ≤ 900000 → x.waits - now < M →
    ∃ now', f4_l2 (N + 2) (M + 1) a1 a2 bo n (some (tb, 0)) now ep k lst h = some (.exit 2, (a1, a2, bo, n, some (tb, 0), now', ep, k, ()), h) ∧ x.waits ≤ now' ∧ now ≤ now' ∧ (now' = now ∨ now' ≤ lst + n + 9) := by
  intro M
  induction M with
  | zero =>
    intro h now ht h1 h2 hm
    refine ⟨now, round_off ?_, by omega, by omega, .inl rfl⟩
    rw [free_spec ht]; simp [hl, hd]; omega
  | succ M ih =>
    intro h now ht h1 h2 hm
    by_cases hfr : x.waits ≤ now
    · refine ⟨now, round_off ?_, hfr, by omega, .inl rfl⟩
      rw [free_spec ht]; simp [hl, hd, hfr]
    · obtain ⟨r, ho⟩ := over_id (N := N) ht (now := now + 1) (by omega) (by omega) (.inl hl)
      obtain ⟨now', g1, g2, g3, g4⟩ := ih h (now + 1) ht (by omega) (by omega) (by omega)
      refine ⟨now', ?_, g2, by omega, by omega⟩
      rw [round_on (f := (!x.lent && !x.ended && decide (x.waits ≤ now))) (free_spec ht now) (by simp [hl, hd]; omega) ho h1 (by omega) h3 (by omega) (by omega) (by omega) (by omega)]
      exact g1
theorem wait_lent {N : Nat} {last lst n k ep : Int} {a1 : SL} {a2 : Int} {bo : Bool} {x : Cr} (hl : x.lent = true) (hd : x.ended = false) (h3 : 0 ≤ lst) (h4 : lst ≤ 800000) (h5 : 1 ≤ n) (h6 : n ≤ 16) (hu : x.u = lst + n) (ht0 : 0 ≤ x.tries) (ht8 : x.tries ≤ 8) :
    ∀ (M : Nat) (h : Heap) (now : Int), Tab B h0 h tb ab n last x → lst ≤ now → now ≤ lst + n → lst + n + 1 - now + 8 < M →
    ∃ now' h' y, f4_l2 (N + 2) (M + 1) a1 a2 bo n (some (tb, 0)) now ep k lst h = some (.exit 2, (a1, a2, bo, n, some (tb, 0), now', ep, k, ()), h') ∧ Tab B h0 h' tb ab n last y ∧ y.lent = false ∧ y.ended = false ∧ y.tries = mn x.tries ∧ y.waits ≤ now' ∧ now ≤ now' ∧ now' ≤ lst + n + 9 := by
  intro M
  induction M with
  | zero => intro h now ht h1 h2 hm; omega
  | succ M ih =>
    intro h now ht h1 h2 hm
    have hfr : (!x.lent && !x.ended && decide (x.waits ≤ now)) = false := by simp [hl]
    by_cases hlast : now + 1 ≤ lst + n
    · obtain ⟨r, ho⟩ := over_id (N := N) ht (now := now + 1) (by omega) (by omega) (.inr (by omega))
      obtain ⟨now', h', y, g1, g2⟩ := ih h (now + 1) ht (by omega) (by omega) (by omega)
      refine ⟨now', h', y, ?_, g2.1, g2.2.1, g2.2.2.1, g2.2.2.2.1, g2.2.2.2.2.1, by omega, by omega⟩
      rw [round_on (free_spec ht now) hfr ho (by omega) (by omega) h3 (by omega) (by omega) (by omega) (by omega)]
      exact g1
    · obtain ⟨r, h1', ho, ht'⟩ := over_due (N := N) ht (now := now + 1) (by omega) (by omega) hl (by omega) ht0 ht8
      have hb := back_b (mn x.tries)
      obtain ⟨M', rfl⟩ : ∃ M', M = M' + 1 := ⟨M - 1, by omega⟩
      obtain ⟨now', g1, g2, g3, g4⟩ := wait_free (N := N) (x := { x with lent := false, c := 0, w := 0, e := 0, u := 0, tries := mn x.tries, waits := now + 1 + backI (mn x.tries) }) (k := k) (ep := ep) (a1 := a1) (a2 := a2) (bo := bo) (lst := lst) rfl hd h3 h4 h5 h6 (by show now + 1 + backI (mn x.tries) ≤ _; omega) (M' + 1) h1' (now + 1) ht' (by omega) (by omega) (by show now + 1 + backI (mn x.tries) - _ < _; omega)
      refine ⟨now', h1', _, ?_, ht', rfl, hd, rfl, g2, by omega, by omega⟩
      rw [round_on (free_spec ht now) hfr ho (by omega) (by omega) h3 (by omega) (by omega) (by omega) (by omega)]
      exact g1

theorem new_spec (N : Nat) (h : Heap) (n : Int) (h1 : 1 ≤ n) (h2 : n ≤ 16) : ∃ h' tb ab, f8 N 1 n h = some ((some (tb, 0), AV.nilIface, ()), h') ∧ Tab h.next h h' tb ab n 0 ⟨false, false, 0, 0, 0, 0, 0, 0⟩ := by
  have hm : makeSliceA E 51 (.int .i64 1) (.int .i64 1) h = some (.slice (some (h.next, 0)) 1 1 8, h.push (.row [.bool false, .bool false, .int .i64 0, .int .i64 0, .int .i64 0, .int .i64 0, .int .i64 0, .int .i64 0] .own)) := by kernel_rfl
  have d1 : ¬ n < 1 := by omega
  have d2 : ¬ 1000 < n := by omega
  simp (disch := first | ((repeat (first | rw [Heap.push_next] | rw [Heap.put_next])) <;> omega) | fail) [f8, ltInt_dec, hm, d1, d2]
  refine ⟨_, _, ⟨rfl, rfl⟩, h.next, ?_⟩
  refine ⟨?_, ?_, ?_, ?_, ?_, ?_, ?_, Nat.le_refl _, ((Keep.refl _ _).push (Nat.le_refl _) _).push (Nat.le_refl _) _⟩ <;> (try simp (disch := first | ((repeat (first | rw [Heap.push_next] | rw [Heap.put_next])) <;> omega) | fail) [g_push_eq, g_push_ne]) <;> (try simp only [Heap.push_next]) <;> omega
def minK (k : Nat) : Int := if k ≤ 8 then k else 8
theorem mn_minK (k : Nat) : mn (minK k) = minK (k + 1) := by unfold mn minK; (repeat' split) <;> omega
theorem minK_b (k : Nat) : 0 ≤ minK k ∧ minK k ≤ 8 := by unfold minK; split <;> omega
theorem rounds_of (times : Int) : ∃ v r T : Int, 1 ≤ T ∧ T ≤ 12 ∧ bitsA .and .i64 times 15 = some (.int .i64 v) ∧ binInt .rem .i64 v 12 = some (.int .i64 r) ∧ wrapA .i64 (1 + r) = T := by
  have h15 : lowN .i64 15 = 15 := by decide +kernel
  have hl : Nat.land (lowN .i64 times) 15 = lowN .i64 times % 16 := by
    show lowN .i64 times &&& 15 = _
    rw [show (15 : Nat) = 2 ^ 4 - 1 from rfl, Nat.and_two_pow_sub_one_eq_mod]
  have e0 : bitsA .and .i64 times 15 = some (.int .i64 (wrapA .i64 ((lowN .i64 times % 16 : Nat) : Int))) := by
    simp only [bitsA, h15, hl]
  generalize lowN .i64 times = a at *
  have hlt : a % 16 < 16 := Nat.mod_lt _ (by decide)
  have hw : wrapA .i64 ((a % 16 : Nat) : Int) = ((a % 16 : Nat) : Int) := wrapA_small (by omega) (by omega)
  have hr : ((a % 16 : Nat) : Int).tmod 12 = (((a % 16) % 12 : Nat) : Int) := by rw [Int.tmod_eq_emod_of_nonneg (by omega)]; omega
  have hw2 : wrapA .i64 (1 + (((a % 16) % 12 : Nat) : Int)) = 1 + (((a % 16) % 12 : Nat) : Int) := wrapA_small (by omega) (by omega)
  refine ⟨((a % 16 : Nat) : Int), (((a % 16) % 12 : Nat) : Int), 1 + (((a % 16) % 12 : Nat) : Int), by omega, by omega, ?_, ?_, hw2⟩
  · rw [e0, hw]
  · simp only [binInt, hr]; rfl
theorem nn44 : binA E .neq 28 (.tmp 44) (.const .nilIface) AV.nilIface AV.nilIface = some (.bool false) := by kernel_rfl
theorem nn62 : binA E .neq 28 (.tmp 62) (.const .nilIface) AV.nilIface AV.nilIface = some (.bool false) := by kernel_rfl
theorem worker (k : Int) : ∃ v w : Int, 1 ≤ w ∧ w ≤ 2 ∧ bitsA .and .i64 k 1 = some (.int .i64 v) ∧ wrapA .i64 (1 + v) = w := by
  have h1 : lowN .i64 1 = 1 := by decide +kernel
  have hl : Nat.land (lowN .i64 k) 1 = lowN .i64 k % 2 := by
    show lowN .i64 k &&& 1 = _
    rw [show (1 : Nat) = 2 ^ 1 - 1 from rfl, Nat.and_two_pow_sub_one_eq_mod]
  have e0 : bitsA .and .i64 k 1 = some (.int .i64 (wrapA .i64 ((lowN .i64 k % 2 : Nat) : Int))) := by
    simp only [bitsA, h1, hl]
  generalize lowN .i64 k = a at *
  have hlt : a % 2 < 2 := Nat.mod_lt _ (by decide)
  have hw : wrapA .i64 ((a % 2 : Nat) : Int) = ((a % 2 : Nat) : Int) := wrapA_small (by omega) (by omega)
  have hw2 : wrapA .i64 (1 + ((a % 2 : Nat) : Int)) = 1 + ((a % 2 : Nat) : Int) := wrapA_small (by omega) (by omega)
  exact ⟨((a % 2 : Nat) : Int), 1 + ((a % 2 : Nat) : Int), by omega, by omega, by rw [e0, hw], hw2⟩

theorem outer {N : Nat} {n times : Int} {a1 : SL} {bs : List Bool} (hN : 40 ≤ N) (h5 : 1 ≤ n) (h6 : n ≤ 16) (hs : Sees h0 a1 (bs.map AV.bool)) (hz : a1.sz = 1 ∨ a1.len = 0) (hub : a1.under B) :
    ∀ (M k : Nat) (h : Heap) (now : Int) (x : Cr), Tab B h0 h tb ab n k x → x.lent = false → x.ended = false → x.tries = minK k → x.waits ≤ now → 0 ≤ now → now ≤ 40 * k → k ≤ 12 → 13 < M + k →
    ∃ h', f4_l1 (N + 2) M a1 times false n (some (tb, 0)) now k k h = some (.exit 0, (false, ()), h') := by
  obtain ⟨v, r, T, hT1, hT2, hT3, hT4, hT5⟩ := rounds_of times
  intro M
  induction M with
  | zero => intro k h now x ht hl hd hk hw h1 h2 h3 h4; omega
  | succ M ih =>
    intro k h now x ht hl hd hk hw h1 h2 h3 h4
    rw [f4_l1_succ]
    by_cases hkT : (k : Int) < T
    · obtain ⟨v2, w, hw1, hw2, hw3, hw4⟩ := worker k
      have ek : wrapA .i64 ((k : Int) + 1) = k + 1 := wrapA_small (by omega) (by omega)
      have en : wrapA .i64 (now + 1) = now + 1 := wrapA_small (by omega) (by omega)
      have hkb := minK_b k
      have hkb1 := minK_b (k + 1)
      obtain ⟨h1', hg, ht1⟩ := give_spec (N := N) ht (w := w) (e := k + 1) (now := now) hw1 (by omega) (by omega) (by omega) h1 (by omega) hl hd hw (by omega) (by omega) (by omega)
      have hmin : (bif decide (8 < (k : Int) + 1) then (8 : Int) else (k : Int) + 1) = minK (k + 1) := by
        unfold minK
        by_cases h8 : (8 : Int) < k + 1
        · rw [if_neg (by omega)]; simp [h8]
        · rw [if_pos (by omega)]; simp [h8]
      -- what stands behind the wait
      have tail : ∀ (h2 : Heap) (now2 : Int) (y : Cr), Tab B h0 h2 tb ab n ((k : Int) + 1) y → y.lent = false → y.ended = false → y.tries = mn x.tries → y.waits ≤ now2 → 0 ≤ now2 → now2 ≤ 40 * k + 40 →
          f13 (N + 2) (some (tb, 0)) 0 h2 = some (minK (k + 1), h2) ∧ ∃ h', f4_l1 (N + 2) M a1 times false n (some (tb, 0)) now2 ((k : Int) + 1) ((k : Int) + 1) h2 = some (.exit 0, (false, ()), h') := by
        intro h2 now2 y hy1 hy2 hy3 hy4 hy5 hy6 hy7
        refine ⟨?_, ?_⟩
        · rw [tries_spec hy1, hy4, hk, mn_minK]
        · have := ih (k + 1) h2 now2 y (by simpa using hy1) hy2 hy3 (by rw [hy4, hk, mn_minK]) hy5 hy6 (by simp; omega) (by omega) (by omega)
          simpa using this
      -- the wait, of whatever length
      have wait : ∀ (h2 : Heap) (now1 : Int) (u : Int), Tab B h0 h2 tb ab n ((k : Int) + 1) { x with lent := true, c := 0, w := w, e := (k : Int) + 1, u := now1 + n } → now ≤ now1 → now1 ≤ now + 1 → 
          ∃ now2 h3 y, f4_l2 (N + 2) (N + 2) a1 times false n (some (tb, 0)) now1 ((k : Int) + 1) k now1 h2 = some (.exit 2, (a1, times, false, n, some (tb, 0), now2, (k : Int) + 1, (k : Int), ()), h3) ∧ Tab B h0 h3 tb ab n ((k : Int) + 1) y ∧ y.lent = false ∧ y.ended = false ∧ y.tries = mn x.tries ∧ y.waits ≤ now2 ∧ 0 ≤ now2 ∧ now2 ≤ 40 * k + 40 := by
        intro h2 now1 u hy h7 h8
        obtain ⟨now2, h3, y, g1, g2, g3, g4, g5, g6, g7, g8⟩ := wait_lent (N := N) (a1 := a1) (a2 := times) (bo := false) (k := (k : Int)) (ep := (k : Int) + 1) (n := n) (lst := now1) (x := { x with lent := true, c := 0, w := w, e := (k : Int) + 1, u := now1 + n }) rfl hd (by omega) (by omega) h5 h6 rfl (by show 0 ≤ x.tries; omega) (by show x.tries ≤ 8; omega) (N + 1) h2 now1 hy (by omega) (by omega) (by omega)
        exact ⟨now2, h3, y, g1, g2, g3, g4, g5, g6, by omega, by omega⟩
      unfold f4_l1_b
      by_cases hlen : k < a1.len
      · have hsz : a1.sz = 1 := by rcases hz with h | h <;> omega
        have hbl : (bs.map AV.bool).length = a1.len := by have := hs.1; rw [hsz] at this; simpa using this
        have hbk : k < bs.length := by rw [List.length_map] at hbl; omega
        have hsee : Sees h1' a1 (bs.map AV.bool) := Sees.keep ht1.k hub hs
        have hcell : h1'.cell (a1.at k 1) = some (.bool bs[k]) := by rw [hsee.cell hsz hlen]; simp [hbk]
        have hix : ∀ {β : Type} (K : Nat × Nat → Option β), ixK a1.a a1.len (k : Int) 1 K = K (a1.at k 1) := fun K => ixK_at (hs.isSome (by omega)) hlen K
        cases hb : bs[k] with
        | true =>
          rw [hb] at hcell
          obtain ⟨h2', hbt, ht2⟩ := beat_spec (N := N + 2) ht1 (now := now + 1) (by omega) (by omega) rfl (by omega) (by omega)
          have hu : (if now + n < now + 1 + n then now + 1 + n else now + n) = now + 1 + n := by rw [if_pos (by omega)]
          simp only [hu] at ht2
          obtain ⟨now2, h3, y, g1, g2, g3, g4, g5, g6, g7, g8⟩ := wait h2' (now + 1) 0 ht2 (by omega) (by omega)
          obtain ⟨t1, h', t2⟩ := tail h3 now2 y g2 g3 g4 g5 g6 g7 g8
          refine ⟨h', ?_⟩
          simp only [] at hbt
          simp [hT3, hT4, hT5, hw3, hw4, ltInt_dec, hkT, ek, hg, nn44, hlen, hix, hcell, en, hbt, nn62, g1, t1, hmin, eqInt_dec, t2]
        | false =>
          rw [hb] at hcell
          obtain ⟨now2, h3, y, g1, g2, g3, g4, g5, g6, g7, g8⟩ := wait h1' now 0 ht1 (by omega) (by omega)
          obtain ⟨t1, h', t2⟩ := tail h3 now2 y g2 g3 g4 g5 g6 g7 g8
          have e3 : f4_l3 (N + 2) (N + 2) a1 times false n (some (tb, 0)) now ((k : Int) + 1) k now h1' = f4_l2 (N + 2) (N + 2) a1 times false n (some (tb, 0)) now ((k : Int) + 1) k now h1' := rfl
          refine ⟨h', ?_⟩
          simp [hT3, hT4, hT5, hw3, hw4, ltInt_dec, hkT, ek, hg, nn44, hlen, hix, hcell, e3, g1, t1, hmin, eqInt_dec, t2]
      · obtain ⟨now2, h3, y, g1, g2, g3, g4, g5, g6, g7, g8⟩ := wait h1' now 0 ht1 (by omega) (by omega)
        obtain ⟨t1, h', t2⟩ := tail h3 now2 y g2 g3 g4 g5 g6 g7 g8
        have e3 : f4_l4 (N + 2) (N + 2) a1 times false n (some (tb, 0)) now ((k : Int) + 1) k now h1' = f4_l2 (N + 2) (N + 2) a1 times false n (some (tb, 0)) now ((k : Int) + 1) k now h1' := rfl
        refine ⟨h', ?_⟩
        simp [hT3, hT4, hT5, hw3, hw4, ltInt_dec, hkT, ek, hg, nn44, hlen, e3, g1, t1, hmin, eqInt_dec, t2]
    · refine ⟨h, ?_⟩
      unfold f4_l1_b
      simp [hT3, hT4, hT5, ltInt_dec, hkT]
end Go.Proofs.Ytdnmgcffccilkaa.Sh

open Go Go.Proofs.Ytdnmgcffccilkaa.Ai Go.Proofs
namespace Go.Proofs.Ytdnmgcffccilkaa.Sh
theorem len_of (length : Int) : ∃ v n : Int, 1 ≤ n ∧ n ≤ 16 ∧ bitsA .and .i64 length 15 = some (.int .i64 v) ∧ wrapA .i64 (1 + v) = n := by
  have h15 : lowN .i64 15 = 15 := by decide +kernel
  have hl : Nat.land (lowN .i64 length) 15 = lowN .i64 length % 16 := by
    show lowN .i64 length &&& 15 = _
    rw [show (15 : Nat) = 2 ^ 4 - 1 from rfl, Nat.and_two_pow_sub_one_eq_mod]
  have e0 : bitsA .and .i64 length 15 = some (.int .i64 (wrapA .i64 ((lowN .i64 length % 16 : Nat) : Int))) := by
    simp only [bitsA, h15, hl]
  generalize lowN .i64 length = a at *
  have hlt : a % 16 < 16 := Nat.mod_lt _ (by decide)
  have hw : wrapA .i64 ((a % 16 : Nat) : Int) = ((a % 16 : Nat) : Int) := wrapA_small (by omega) (by omega)
  exact ⟨((a % 16 : Nat) : Int), 1 + ((a % 16 : Nat) : Int), by omega, by omega, by rw [e0, hw], wrapA_small (by omega) (by omega)⟩
theorem nn22 : binA E .neq 28 (.tmp 22) (.const .nilIface) AV.nilIface AV.nilIface = some (.bool false) := by kernel_rfl
theorem free_law (h : Heap) (length times : Int) (a1 : SL) (bs : List Bool) (hs : Sees h a1 (bs.map AV.bool)) (hz : a1.sz = 1 ∨ a1.len = 0) : ∃ h', f4 100 length a1 times h = some (true, h') := by
  obtain ⟨v, n, h5, h6, e1, e2⟩ := len_of length
  obtain ⟨h1, tb, ab, e3, ht⟩ := new_spec 100 h n h5 h6
  obtain ⟨h2, e4⟩ := outer (N := 98) (times := times) (by omega) h5 h6 hs hz hs.under 100 0 h1 0 _ ht rfl rfl (by simp [minK]) (by simp) (by omega) (by omega) (by omega) (by omega)
  refine ⟨h2, ?_⟩
  have e4' : f4_l1 100 100 a1 times false n (some (tb, 0)) 0 0 0 h1 = some (.exit 0, (false, ()), h2) := e4
  simp [f4, e1, e2, e3, nn22, e4', f7]
theorem undP3 : Try.prog.underlying 3 = some (.int .i64) := by kernel_rfl
theorem undP4 : Try.prog.underlying 4 = some .bool := by kernel_rfl
theorem undP25 : Try.prog.underlying 25 = some (.slice 4) := by kernel_rfl
theorem free_true {H : Type} (h : Heap) (vs : List AV) (ds : List (DataW H)) (hr : RdArgs Try.prog h [3, 25, 3] vs ds) : ∃ xs : vdens [.one (.int .i64), .one .slice, .one (.int .i64)], ∃ h', VTy.tos _ xs = vs ∧ (fun (x : vdens [.one (.int .i64), .one .slice, .one (.int .i64)]) h => f4 100 x.1 x.2.1 x.2.2.1 h) xs h = some (true, h') := by
  obtain ⟨c0, d0, _, _, rfl, rfl, r0, hr⟩ := hr.cons_inv
  obtain ⟨c1, d1, _, _, rfl, rfl, r1, hr⟩ := hr.cons_inv
  obtain ⟨c2, d2, _, _, rfl, rfl, r2, hr⟩ := hr.cons_inv
  obtain ⟨rfl, rfl⟩ := hr.nil_inv
  obtain ⟨n0, rfl, _⟩ := Rd.int_inv undP3 r0
  obtain ⟨n2, rfl, _⟩ := Rd.int_inv undP3 r2
  obtain ⟨s, bs, rfl, hz, _, _, hs⟩ := Rd.bools undP25 undP4 (by kernel_rfl) r1
  obtain ⟨h', e⟩ := free_law h n0 n2 s bs hs hz
  refine ⟨(n0, s, n2, ()), h', ?_, e⟩
  simp [VTy.tos, VTy.to, CTy.to, argOf, undP3, undP25]
end Go.Proofs.Ytdnmgcffccilkaa.Sh
