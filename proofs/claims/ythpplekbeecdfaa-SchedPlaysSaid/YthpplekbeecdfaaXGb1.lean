import Derived.Test.YthpplekbeecdfaaAi3
import Derived.Test.YthpplekbeecdfaaProg
/- Functions of the program as plain functions, and what they come to; part 1. -/
set_option linter.unusedVariables false
set_option linter.unusedSimpArgs false
set_option maxRecDepth 100000
open Go Go.Proofs.Ythpplekbeecdfaa.Ai Go.Proofs
namespace Go.Proofs.Ythpplekbeecdfaa.Gb
noncomputable def E : Env := envOf Try.prog [] noNative
theorem envOK : EnvOK E Try.prog := envOf_ok (by kernel_rfl) (by kernel_rfl)
theorem hmix : Try.prog.follows .mixedOrders = true := by kernel_rfl
/- usufruct/usufructlaw11.fit -/
noncomputable def f10_l2_b (N : Nat) (go : SL → Bool → SL → Bool → SL → Int → SL → Int → Heap → Option (Out × (SL × Bool × SL × Bool × SL × Int × SL × Unit) × Heap)) (v0 : SL) (v1 : Bool) (v4 : SL) (v5 : Bool) (v6 : SL) (v7 : Int) (v8 : SL) (v9 : Int) (h : Heap) : Option (Out × (SL × Bool × SL × Bool × SL × Int × SL × Unit) × Heap) :=
  (ixK v0.a v0.len v7 1 fun q6 =>
  (bindV (.val (.one .slice)) (h.cell q6) fun (x7 : SL) =>
  let x8 : Bool := ltInt v9 (Int.ofNat x7.len)
  (bif x8 then
   (ixK v0.a v0.len v7 1 fun q9 =>
   (bindV (.val (.one .slice)) (h.cell q9) fun (x10 : SL) =>
   (ixK x10.a x10.len v9 1 fun q11 =>
   (bindV (.val (.one (.int .i64))) (h.cell q11) fun (x12 : Int) =>
   let x13 : Bool := !v1
   (bif x13 then
    let x14 : Int := wrapA .u64 x12
    let x15 : Int := (bif ltInt 70 (Int.ofNat v0.len) then 70 else (Int.ofNat v0.len))
    let x16 : Int := wrapA .u64 x15
    (bindV (.val (.one (.int .u64))) (binInt .rem .u64 x14 x16) fun (x17 : Int) =>
    let x18 : Int := wrapA .i64 x17
    let h19 : Heap := h.push (.row [(.int .i64 x18)] .own)
    (bindT (.val (.one .slice)) (appendA E 26 26 (.slice v8.a v8.len v8.cap v8.sz) (.slice (some (h.next, 0)) 1 1 1) h19) fun (x20 : SL) h21 =>
    let x22 : Int := wrapA .i64 (v9 + 1)
    go v0 v1 v4 v5 v6 v7 x20 x22 h21))
   else
    let h23 : Heap := h.push (.row [(.int .i64 x12)] .own)
    (bindT (.val (.one .slice)) (appendA E 26 26 (.slice v8.a v8.len v8.cap v8.sz) (.slice (some (h.next, 0)) 1 1 1) h23) fun (x24 : SL) h25 =>
    let x26 : Int := wrapA .i64 (v9 + 1)
    go v0 v1 v4 v5 v6 v7 x24 x26 h25))))))
  else
   some ((Out.exit 2), (v0, v1, v4, v5, v6, v7, v8, ()), h))))
noncomputable def f10_l2 (N M : Nat) (v0 : SL) (v1 : Bool) (v4 : SL) (v5 : Bool) (v6 : SL) (v7 : Int) (v8 : SL) (v9 : Int) (h : Heap) : Option (Out × (SL × Bool × SL × Bool × SL × Int × SL × Unit) × Heap) := iter (fun go s h => f10_l2_b N (fun v0 v1 v4 v5 v6 v7 v8 v9 h => go (v0, v1, v4, v5, v6, v7, v8, v9, ()) h) s.1 s.2.1 s.2.2.1 s.2.2.2.1 s.2.2.2.2.1 s.2.2.2.2.2.1 s.2.2.2.2.2.2.1 s.2.2.2.2.2.2.2.1 h) M (v0, v1, v4, v5, v6, v7, v8, v9, ()) h
theorem f10_l2_succ (N M : Nat) (v0 : SL) (v1 : Bool) (v4 : SL) (v5 : Bool) (v6 : SL) (v7 : Int) (v8 : SL) (v9 : Int) (h : Heap) : f10_l2 N (M + 1) v0 v1 v4 v5 v6 v7 v8 v9 h = f10_l2_b N (f10_l2 N M) v0 v1 v4 v5 v6 v7 v8 v9 h := rfl
theorem f10_l2_zero (N : Nat) (v0 : SL) (v1 : Bool) (v4 : SL) (v5 : Bool) (v6 : SL) (v7 : Int) (v8 : SL) (v9 : Int) (h : Heap) : f10_l2 N 0 v0 v1 v4 v5 v6 v7 v8 v9 h = none := rfl
noncomputable def f10_l1_b (N : Nat) (go : SL → Bool → SL → Bool → SL → Int → Heap → Option (Out × (SL × Bool × SL × Unit) × Heap)) (v0 : SL) (v1 : Bool) (v4 : SL) (v5 : Bool) (v6 : SL) (v7 : Int) (h : Heap) : Option (Out × (SL × Bool × SL × Unit) × Heap) :=
  let x1 : Bool := ltInt v7 (Int.ofNat v0.len)
  (bif x1 then
   let x2 : Bool := ltInt v7 70
   (bif x2 then
    (ixK v0.a v0.len v7 1 fun q3 =>
    (bindV (.val (.one .slice)) (h.cell q3) fun (x4 : SL) =>
    let x5 : Bool := ltInt 70 (Int.ofNat x4.len)
    (bif x5 then
     some (Out.ret, (⟨none, 0, 0, 0⟩, false, v6, ()), h)
    else
     (bind3 (f10_l2 N N v0 v1 v4 v5 v6 v7 ⟨none, 0, 0, 0⟩ 0 h) fun _ (j28 : (SL × Bool × SL × Bool × SL × Int × SL × Unit)) h29 =>
     let h30 : Heap := h29.push (.row [(.slice j28.2.2.2.2.2.2.1.a j28.2.2.2.2.2.2.1.len j28.2.2.2.2.2.2.1.cap j28.2.2.2.2.2.2.1.sz)] .own)
     (bindT (.val (.one .slice)) (appendA E 22 22 (.slice j28.2.2.2.2.1.a j28.2.2.2.2.1.len j28.2.2.2.2.1.cap j28.2.2.2.2.1.sz) (.slice (some (h29.next, 0)) 1 1 1) h30) fun (x31 : SL) h32 =>
     let x33 : Int := wrapA .i64 (j28.2.2.2.2.2.1 + 1)
     go j28.1 j28.2.1 j28.2.2.1 j28.2.2.2.1 x31 x33 h32)))))
   else
    some ((Out.exit 0), (v4, v5, v6, ()), h))
  else
   some ((Out.exit 0), (v4, v5, v6, ()), h))
noncomputable def f10_l1 (N M : Nat) (v0 : SL) (v1 : Bool) (v4 : SL) (v5 : Bool) (v6 : SL) (v7 : Int) (h : Heap) : Option (Out × (SL × Bool × SL × Unit) × Heap) := iter (fun go s h => f10_l1_b N (fun v0 v1 v4 v5 v6 v7 h => go (v0, v1, v4, v5, v6, v7, ()) h) s.1 s.2.1 s.2.2.1 s.2.2.2.1 s.2.2.2.2.1 s.2.2.2.2.2.1 h) M (v0, v1, v4, v5, v6, v7, ()) h
theorem f10_l1_succ (N M : Nat) (v0 : SL) (v1 : Bool) (v4 : SL) (v5 : Bool) (v6 : SL) (v7 : Int) (h : Heap) : f10_l1 N (M + 1) v0 v1 v4 v5 v6 v7 h = f10_l1_b N (f10_l1 N M) v0 v1 v4 v5 v6 v7 h := rfl
theorem f10_l1_zero (N : Nat) (v0 : SL) (v1 : Bool) (v4 : SL) (v5 : Bool) (v6 : SL) (v7 : Int) (h : Heap) : f10_l1 N 0 v0 v1 v4 v5 v6 v7 h = none := rfl
noncomputable def f10 (N : Nat) (a0 : SL) (a1 : Bool) (h : Heap) : Option ((SL × Bool × Unit) × Heap) :=
  (bind3 (f10_l1 N N a0 a1 ⟨none, 0, 0, 0⟩ false ⟨none, 0, 0, 0⟩ 0 h) fun o34 (j35 : (SL × Bool × SL × Unit)) h36 =>
  (bif eqOut o34 (.exit 0) then
   some ((j35.2.2.1, true, ()), h36)
  else
   some ((j35.1, j35.2.1, ()), h36)))
noncomputable def ann10 : Ann := (.two .n (.two .n (.two (.two .n (.two (.loop [(0, (.one .slice)), (1, (.one .bool)), (4, (.one .slice)), (5, (.one .bool)), (6, (.one .slice)), (7, (.one (.int .i64)))] [(.exit 0), .ret] [(4, (.one .slice)), (5, (.one .bool)), (6, (.one .slice))] (.two .n (.two (.two (.two .n (.two .n (.two (.two .n (.two (.loop [(0, (.one .slice)), (1, (.one .bool)), (4, (.one .slice)), (5, (.one .bool)), (6, (.one .slice)), (7, (.one (.int .i64))), (8, (.one .slice)), (9, (.one (.int .i64)))] [(.exit 2)] [(0, (.one .slice)), (1, (.one .bool)), (4, (.one .slice)), (5, (.one .bool)), (6, (.one .slice)), (7, (.one (.int .i64))), (8, (.one .slice))] .n) .n)) .n))) .n) .n))) .n)) .n)))
theorem f10_ok (N : Nat) : FnOK Try.prog 10 [(.one .slice), (.one .bool)] (.tup [(.one .slice), (.one .bool)]) (fun x h => f10 N x.1 x.2.1 h) :=
  runK_ok envOK hmix noCalls_ok (N := N) (x := ann10) (fn := Try.f10) (c := Try.f10.body.getD .skip) (by kernel_rfl) (by kernel_rfl) (by kernel_rfl) (by kernel_rfl) (fun _ _ => by kernel_rfl)

/- usufruct/usufructlaw11.told -/
noncomputable def f11 (N : Nat) (h : Heap) : Option (Bool × Heap) := some (true, h)
theorem f11_ok (N : Nat) : FnOK Try.prog 11 [] (.val (.one .bool)) (fun _ h => f11 N h) :=
  fnOK_told envOK (fn := Try.f11) (by kernel_rfl) (by kernel_rfl) (calls_true envOK hmix noNative_ok (fn := Try.f11) (by kernel_rfl) (by kernel_rfl) (args := []) VRs.nil (n := 1000) (by kernel_rfl))

/- usufruct/fault.New -/
noncomputable def f46 (N : Nat) (a0 : Int) (a1 : Int) (h : Heap) : Option (AV × Heap) :=
  let x1 : Bool := eqInt a0 0
  (bif x1 then
   some (AV.nilIface, h)
  else
   let h2 : Heap := h.push (.row [(.int .i64 a0), (.int .i64 a1), (AV.iface 71 (.int .i64 a0))] .own)
   some ((AV.iface 69 (.ptr (some (h.next, 0)))), h2))
noncomputable def ann46 : Ann := .n
theorem f46_ok (N : Nat) : FnOK Try.prog 46 [(.one (.int .i64)), (.one (.int .i64))] (.val (.one .any)) (fun x h => f46 N x.1 x.2.1 h) :=
  runK_ok envOK hmix noCalls_ok (N := N) (x := ann46) (fn := Try.f46) (c := Try.f46.body.getD .skip) (by kernel_rfl) (by kernel_rfl) (by kernel_rfl) (by kernel_rfl) (fun _ _ => by kernel_rfl)

/- usufruct/graph.may -/
noncomputable def f38_l3_b (N : Nat) (go : SL → AV → Int → SL → Int → Int → SL → Int → Int → Heap → Option (Out × (SL × AV × SL × Int × Int × Unit) × Heap)) (v0 : SL) (v2 : AV) (v5 : Int) (v26 : SL) (v27 : Int) (v28 : Int) (v33 : SL) (v34 : Int) (v35 : Int) (h : Heap) : Option (Out × (SL × AV × SL × Int × Int × Unit) × Heap) :=
  let x17 : Bool := ltInt v35 v34
  (bif x17 then
   (ixK v33.a v33.len v35 1 fun q18 =>
   (bindV (.val (.one (.int .i64))) (h.cell q18) fun (x19 : Int) =>
   let x20 : Bool := ltInt x19 0
   (bif x20 then
    (bind2 (f46 N 2 v5 h) fun (x21 : AV) h22 =>
    some (Out.ret, (v0, x21, v26, v27, v28, ()), h22))
   else
    let x23 : Bool := leInt (Int.ofNat v0.len) x19
    (bif x23 then
     (bind2 (f46 N 2 v5 h) fun (x24 : AV) h25 =>
     some (Out.ret, (v0, x24, v26, v27, v28, ()), h25))
    else
     let x26 : Int := wrapA .i64 (v35 + 1)
     go v0 v2 v5 v26 v27 v28 v33 v34 x26 h))))
  else
   some ((Out.exit 4), (v0, v2, v26, v27, v28, ()), h))
noncomputable def f38_l3 (N M : Nat) (v0 : SL) (v2 : AV) (v5 : Int) (v26 : SL) (v27 : Int) (v28 : Int) (v33 : SL) (v34 : Int) (v35 : Int) (h : Heap) : Option (Out × (SL × AV × SL × Int × Int × Unit) × Heap) := iter (fun go s h => f38_l3_b N (fun v0 v2 v5 v26 v27 v28 v33 v34 v35 h => go (v0, v2, v5, v26, v27, v28, v33, v34, v35, ()) h) s.1 s.2.1 s.2.2.1 s.2.2.2.1 s.2.2.2.2.1 s.2.2.2.2.2.1 s.2.2.2.2.2.2.1 s.2.2.2.2.2.2.2.1 s.2.2.2.2.2.2.2.2.1 h) M (v0, v2, v5, v26, v27, v28, v33, v34, v35, ()) h
theorem f38_l3_succ (N M : Nat) (v0 : SL) (v2 : AV) (v5 : Int) (v26 : SL) (v27 : Int) (v28 : Int) (v33 : SL) (v34 : Int) (v35 : Int) (h : Heap) : f38_l3 N (M + 1) v0 v2 v5 v26 v27 v28 v33 v34 v35 h = f38_l3_b N (f38_l3 N M) v0 v2 v5 v26 v27 v28 v33 v34 v35 h := rfl
theorem f38_l3_zero (N : Nat) (v0 : SL) (v2 : AV) (v5 : Int) (v26 : SL) (v27 : Int) (v28 : Int) (v33 : SL) (v34 : Int) (v35 : Int) (h : Heap) : f38_l3 N 0 v0 v2 v5 v26 v27 v28 v33 v34 v35 h = none := rfl
noncomputable def f38_l2_b (N : Nat) (go : SL → AV → SL → Int → Int → Heap → Option (Out × (AV × Unit) × Heap)) (v0 : SL) (v2 : AV) (v26 : SL) (v27 : Int) (v28 : Int) (h : Heap) : Option (Out × (AV × Unit) × Heap) :=
  let x14 : Bool := ltInt v28 v27
  (bif x14 then
   (ixK v26.a v26.len v28 1 fun q15 =>
   (bindV (.val (.one .slice)) (h.cell q15) fun (x16 : SL) =>
   (bind3 (f38_l3 N N v0 v2 v28 v26 v27 v28 x16 (Int.ofNat x16.len) 0 h) fun o27 (j28 : (SL × AV × SL × Int × Int × Unit)) h29 =>
   (bif eqOut o27 (.exit 4) then
    let x30 : Int := wrapA .i64 (j28.2.2.2.2.1 + 1)
    go j28.1 j28.2.1 j28.2.2.1 j28.2.2.2.1 x30 h29
   else
    some (Out.ret, (j28.2.1, ()), h29)))))
  else
   some ((Out.exit 2), (v2, ()), h))
noncomputable def f38_l2 (N M : Nat) (v0 : SL) (v2 : AV) (v26 : SL) (v27 : Int) (v28 : Int) (h : Heap) : Option (Out × (AV × Unit) × Heap) := iter (fun go s h => f38_l2_b N (fun v0 v2 v26 v27 v28 h => go (v0, v2, v26, v27, v28, ()) h) s.1 s.2.1 s.2.2.1 s.2.2.2.1 s.2.2.2.2.1 h) M (v0, v2, v26, v27, v28, ()) h
theorem f38_l2_succ (N M : Nat) (v0 : SL) (v2 : AV) (v26 : SL) (v27 : Int) (v28 : Int) (h : Heap) : f38_l2 N (M + 1) v0 v2 v26 v27 v28 h = f38_l2_b N (f38_l2 N M) v0 v2 v26 v27 v28 h := rfl
theorem f38_l2_zero (N : Nat) (v0 : SL) (v2 : AV) (v26 : SL) (v27 : Int) (v28 : Int) (h : Heap) : f38_l2 N 0 v0 v2 v26 v27 v28 h = none := rfl
noncomputable def f38_l1_b (N : Nat) (go : SL → AV → SL → Int → Int → Heap → Option (Out × (SL × AV × Unit) × Heap)) (v0 : SL) (v2 : AV) (v13 : SL) (v14 : Int) (v15 : Int) (h : Heap) : Option (Out × (SL × AV × Unit) × Heap) :=
  let x4 : Bool := ltInt v15 v14
  (bif x4 then
   (ixK v13.a v13.len v15 1 fun q5 =>
   (bindV (.val (.one .slice)) (h.cell q5) fun (x6 : SL) =>
   let x7 : Bool := ltInt 64 (Int.ofNat x6.len)
   (bif x7 then
    (bind2 (f46 N 5 v15 h) fun (x8 : AV) h9 =>
    some (Out.ret, (v0, x8, ()), h9))
   else
    let x10 : Int := wrapA .i64 (v15 + 1)
    go v0 v2 v13 v14 x10 h)))
  else
   some ((Out.exit 0), (v0, v2, ()), h))
noncomputable def f38_l1 (N M : Nat) (v0 : SL) (v2 : AV) (v13 : SL) (v14 : Int) (v15 : Int) (h : Heap) : Option (Out × (SL × AV × Unit) × Heap) := iter (fun go s h => f38_l1_b N (fun v0 v2 v13 v14 v15 h => go (v0, v2, v13, v14, v15, ()) h) s.1 s.2.1 s.2.2.1 s.2.2.2.1 s.2.2.2.2.1 h) M (v0, v2, v13, v14, v15, ()) h
theorem f38_l1_succ (N M : Nat) (v0 : SL) (v2 : AV) (v13 : SL) (v14 : Int) (v15 : Int) (h : Heap) : f38_l1 N (M + 1) v0 v2 v13 v14 v15 h = f38_l1_b N (f38_l1 N M) v0 v2 v13 v14 v15 h := rfl
theorem f38_l1_zero (N : Nat) (v0 : SL) (v2 : AV) (v13 : SL) (v14 : Int) (v15 : Int) (h : Heap) : f38_l1 N 0 v0 v2 v13 v14 v15 h = none := rfl
noncomputable def f38 (N : Nat) (a0 : SL) (h : Heap) : Option (AV × Heap) :=
  let x1 : Bool := ltInt 64 (Int.ofNat a0.len)
  (bif x1 then
   (bind2 (f46 N 5 0 h) fun (x2 : AV) h3 =>
   some (x2, h3))
  else
   (bind3 (f38_l1 N N a0 AV.nilIface a0 (Int.ofNat a0.len) 0 h) fun o11 (j12 : (SL × AV × Unit)) h13 =>
   (bif eqOut o11 (.exit 0) then
    (bind3 (f38_l2 N N j12.1 j12.2.1 j12.1 (Int.ofNat j12.1.len) 0 h13) fun o31 (j32 : (AV × Unit)) h33 =>
    (bif eqOut o31 (.exit 2) then
     some (AV.nilIface, h33)
    else
     some (j32.1, h33)))
   else
    some (j12.2.1, h13))))
noncomputable def ann38 : Ann := (.two .n (.two .n (.two (.two .n (.two (.loop [(0, (.one .slice)), (2, (.one .any)), (13, (.one .slice)), (14, (.one (.int .i64))), (15, (.one (.int .i64)))] [(.exit 0), .ret] [(0, (.one .slice)), (2, (.one .any))] .n) .n)) (.two (.two .n (.two (.loop [(0, (.one .slice)), (2, (.one .any)), (26, (.one .slice)), (27, (.one (.int .i64))), (28, (.one (.int .i64)))] [(.exit 2), .ret] [(2, (.one .any))] (.two .n (.two .n (.two (.two (.two .n (.two .n (.two (.loop [(0, (.one .slice)), (2, (.one .any)), (5, (.one (.int .i64))), (26, (.one .slice)), (27, (.one (.int .i64))), (28, (.one (.int .i64))), (33, (.one .slice)), (34, (.one (.int .i64))), (35, (.one (.int .i64)))] [(.exit 4), .ret] [(0, (.one .slice)), (2, (.one .any)), (26, (.one .slice)), (27, (.one (.int .i64))), (28, (.one (.int .i64)))] .n) .n))) .n) .n)))) .n)) .n))))
theorem f38_ok (N : Nat) : FnOK Try.prog 38 [(.one .slice)] (.val (.one .any)) (fun x h => f38 N x.1 h) :=
  runK_ok envOK hmix (addCall_ok (f46_ok N) noCalls_ok) (N := N) (x := ann38) (fn := Try.f38) (c := Try.f38.body.getD .skip) (by kernel_rfl) (by kernel_rfl) (by kernel_rfl) (by kernel_rfl) (fun _ _ => by kernel_rfl)

/- usufruct/graph.below -/
noncomputable def f39_l2_b (N : Nat) (go : SL → SL → SL → SL → Int → Int → Heap → Option (Out × (SL × SL × SL × Unit) × Heap)) (v0 : SL) (v5 : SL) (v6 : SL) (v32 : SL) (v33 : Int) (v34 : Int) (h : Heap) : Option (Out × (SL × SL × SL × Unit) × Heap) :=
  let x12 : Bool := ltInt v34 v33
  (bif x12 then
   (ixK v32.a v32.len v34 1 fun q13 =>
   (bindV (.val (.one (.int .i64))) (h.cell q13) fun (x14 : Int) =>
   (ixK v5.a v5.len x14 1 fun q15 =>
   (bindV (.val (.one .bool)) (h.cell q15) fun (x16 : Bool) =>
   let x17 : Bool := !x16
   (bif x17 then
    (ixK v5.a v5.len x14 1 fun q18 =>
    (need (h.store q18 [(.bool true)]) fun h19 =>
    let h20 : Heap := h19.push (.row [(.int .i64 x14)] .own)
    (bindT (.val (.one .slice)) (appendA E 26 26 (.slice v6.a v6.len v6.cap v6.sz) (.slice (some (h19.next, 0)) 1 1 1) h20) fun (x21 : SL) h22 =>
    let x23 : Int := wrapA .i64 (v34 + 1)
    go v0 v5 x21 v32 v33 x23 h22)))
   else
    let x24 : Int := wrapA .i64 (v34 + 1)
    go v0 v5 v6 v32 v33 x24 h)))))
  else
   some ((Out.exit 2), (v0, v5, v6, ()), h))
noncomputable def f39_l2 (N M : Nat) (v0 : SL) (v5 : SL) (v6 : SL) (v32 : SL) (v33 : Int) (v34 : Int) (h : Heap) : Option (Out × (SL × SL × SL × Unit) × Heap) := iter (fun go s h => f39_l2_b N (fun v0 v5 v6 v32 v33 v34 h => go (v0, v5, v6, v32, v33, v34, ()) h) s.1 s.2.1 s.2.2.1 s.2.2.2.1 s.2.2.2.2.1 s.2.2.2.2.2.1 h) M (v0, v5, v6, v32, v33, v34, ()) h
theorem f39_l2_succ (N M : Nat) (v0 : SL) (v5 : SL) (v6 : SL) (v32 : SL) (v33 : Int) (v34 : Int) (h : Heap) : f39_l2 N (M + 1) v0 v5 v6 v32 v33 v34 h = f39_l2_b N (f39_l2 N M) v0 v5 v6 v32 v33 v34 h := rfl
theorem f39_l2_zero (N : Nat) (v0 : SL) (v5 : SL) (v6 : SL) (v32 : SL) (v33 : Int) (v34 : Int) (h : Heap) : f39_l2 N 0 v0 v5 v6 v32 v33 v34 h = none := rfl
noncomputable def f39_l1_b (N : Nat) (go : SL → SL → SL → Heap → Option (Out × (SL × Unit) × Heap)) (v0 : SL) (v5 : SL) (v6 : SL) (h : Heap) : Option (Out × (SL × Unit) × Heap) :=
  let x4 : Bool := ltInt 0 (Int.ofNat v6.len)
  (bif x4 then
   let x5 : Int := wrapA .i64 ((Int.ofNat v6.len) - 1)
   (ixK v6.a v6.len x5 1 fun q6 =>
   (bindV (.val (.one (.int .i64))) (h.cell q6) fun (x7 : Int) =>
   let x8 : Int := wrapA .i64 ((Int.ofNat v6.len) - 1)
   (bindV (.val (.one .slice)) (sliceA E h 26 (.slice v6.a v6.len v6.cap v6.sz) none (some (.int .i64 x8))) fun (x9 : SL) =>
   (ixK v0.a v0.len x7 1 fun q10 =>
   (bindV (.val (.one .slice)) (h.cell q10) fun (x11 : SL) =>
   (bind3 (f39_l2 N N v0 v5 x9 x11 (Int.ofNat x11.len) 0 h) fun _ (j26 : (SL × SL × SL × Unit)) h27 =>
   go j26.1 j26.2.1 j26.2.2.1 h27))))))
  else
   some ((Out.exit 0), (v5, ()), h))
noncomputable def f39_l1 (N M : Nat) (v0 : SL) (v5 : SL) (v6 : SL) (h : Heap) : Option (Out × (SL × Unit) × Heap) := iter (fun go s h => f39_l1_b N (fun v0 v5 v6 h => go (v0, v5, v6, ()) h) s.1 s.2.1 s.2.2.1 h) M (v0, v5, v6, ()) h
theorem f39_l1_succ (N M : Nat) (v0 : SL) (v5 : SL) (v6 : SL) (h : Heap) : f39_l1 N (M + 1) v0 v5 v6 h = f39_l1_b N (f39_l1 N M) v0 v5 v6 h := rfl
theorem f39_l1_zero (N : Nat) (v0 : SL) (v5 : SL) (v6 : SL) (h : Heap) : f39_l1 N 0 v0 v5 v6 h = none := rfl
noncomputable def f39 (N : Nat) (a0 : SL) (a1 : Int) (h : Heap) : Option (SL × Heap) :=
  (bindT (.val (.one .slice)) (makeSliceA E 43 (.int .i64 (Int.ofNat a0.len)) (.int .i64 (Int.ofNat a0.len)) h) fun (x1 : SL) h2 =>
  let h3 : Heap := h2.push (.row [(.int .i64 a1)] .own)
  (bind3 (f39_l1 N N a0 x1 ⟨(some (h2.next, 0)), 1, 1, 1⟩ h3) fun _ (j29 : (SL × Unit)) h30 =>
  some (j29.1, h30)))
noncomputable def ann39 : Ann := (.two .n (.two .n (.two .n (.two (.two (.loop [(0, (.one .slice)), (5, (.one .slice)), (6, (.one .slice))] [(.exit 0)] [(5, (.one .slice))] (.two .n (.two (.two .n (.two .n (.two .n (.two (.loop [(0, (.one .slice)), (5, (.one .slice)), (6, (.one .slice)), (32, (.one .slice)), (33, (.one (.int .i64))), (34, (.one (.int .i64)))] [(.exit 2)] [(0, (.one .slice)), (5, (.one .slice)), (6, (.one .slice))] .n) .n)))) .n))) .n) .n))))
theorem f39_ok (N : Nat) : FnOK Try.prog 39 [(.one .slice), (.one (.int .i64))] (.val (.one .slice)) (fun x h => f39 N x.1 x.2.1 h) :=
  runK_ok envOK hmix noCalls_ok (N := N) (x := ann39) (fn := Try.f39) (c := Try.f39.body.getD .skip) (by kernel_rfl) (by kernel_rfl) (by kernel_rfl) (by kernel_rfl) (fun _ _ => by kernel_rfl)

/- usufruct/graph.Below -/
noncomputable def f12_l1_b (N : Nat) (go : SL → SL → Int → Int → Heap → Option (Out × (SL × Unit) × Heap)) (v5 : SL) (v23 : SL) (v24 : Int) (v25 : Int) (h : Heap) : Option (Out × (SL × Unit) × Heap) :=
  let x8 : Bool := ltInt v25 v24
  (bif x8 then
   (ixK v23.a v23.len v25 1 fun q9 =>
   (bindV (.val (.one .bool)) (h.cell q9) fun (x10 : Bool) =>
   (bif x10 then
    let h11 : Heap := h.push (.row [(.int .i64 v25)] .own)
    (bindT (.val (.one .slice)) (appendA E 26 26 (.slice v5.a v5.len v5.cap v5.sz) (.slice (some (h.next, 0)) 1 1 1) h11) fun (x12 : SL) h13 =>
    let x14 : Int := wrapA .i64 (v25 + 1)
    go x12 v23 v24 x14 h13)
   else
    let x15 : Int := wrapA .i64 (v25 + 1)
    go v5 v23 v24 x15 h)))
  else
   some ((Out.exit 0), (v5, ()), h))
noncomputable def f12_l1 (N M : Nat) (v5 : SL) (v23 : SL) (v24 : Int) (v25 : Int) (h : Heap) : Option (Out × (SL × Unit) × Heap) := iter (fun go s h => f12_l1_b N (fun v5 v23 v24 v25 h => go (v5, v23, v24, v25, ()) h) s.1 s.2.1 s.2.2.1 s.2.2.2.1 h) M (v5, v23, v24, v25, ()) h
theorem f12_l1_succ (N M : Nat) (v5 : SL) (v23 : SL) (v24 : Int) (v25 : Int) (h : Heap) : f12_l1 N (M + 1) v5 v23 v24 v25 h = f12_l1_b N (f12_l1 N M) v5 v23 v24 v25 h := rfl
theorem f12_l1_zero (N : Nat) (v5 : SL) (v23 : SL) (v24 : Int) (v25 : Int) (h : Heap) : f12_l1 N 0 v5 v23 v24 v25 h = none := rfl
noncomputable def f12 (N : Nat) (a0 : SL) (a1 : Int) (h : Heap) : Option (SL × Heap) :=
  (bind2 (f38 N a0 h) fun (x1 : AV) h2 =>
  (bindV (.val (.one .bool)) (binA E .neq 32 (.tmp 9) (.const .nilIface) x1 AV.nilIface) fun (x3 : Bool) =>
  (bif x3 then
   some (⟨none, 0, 0, 0⟩, h2)
  else
   let x4 : Bool := ltInt a1 0
   (bif x4 then
    some (⟨none, 0, 0, 0⟩, h2)
   else
    let x5 : Bool := leInt (Int.ofNat a0.len) a1
    (bif x5 then
     some (⟨none, 0, 0, 0⟩, h2)
    else
     (bind2 (f39 N a0 a1 h2) fun (x6 : SL) h7 =>
     (bind3 (f12_l1 N N ⟨none, 0, 0, 0⟩ x6 (Int.ofNat x6.len) 0 h7) fun _ (j17 : (SL × Unit)) h18 =>
     some (j17.1, h18))))))))
noncomputable def ann12 : Ann := (.two .n (.two .n (.two .n (.two (.two .n (.two (.loop [(5, (.one .slice)), (23, (.one .slice)), (24, (.one (.int .i64))), (25, (.one (.int .i64)))] [(.exit 0)] [(5, (.one .slice))] .n) .n)) .n))))
theorem f12_ok (N : Nat) : FnOK Try.prog 12 [(.one .slice), (.one (.int .i64))] (.val (.one .slice)) (fun x h => f12 N x.1 x.2.1 h) :=
  runK_ok envOK hmix (addCall_ok (f39_ok N) (addCall_ok (f38_ok N) noCalls_ok)) (N := N) (x := ann12) (fn := Try.f12) (c := Try.f12.body.getD .skip) (by kernel_rfl) (by kernel_rfl) (by kernel_rfl) (by kernel_rfl) (fun _ _ => by kernel_rfl)

/- usufruct/usufructlaw11.has -/
noncomputable def f13_l1_b (N : Nat) (go : SL → Int → Bool → Int → Heap → Option (Out × (Bool × Unit) × Heap)) (v0 : SL) (v1 : Int) (v4 : Bool) (v5 : Int) (h : Heap) : Option (Out × (Bool × Unit) × Heap) :=
  let x1 : Bool := ltInt v5 (Int.ofNat v0.len)
  (bif x1 then
   (ixK v0.a v0.len v5 1 fun q2 =>
   (bindV (.val (.one (.int .i64))) (h.cell q2) fun (x3 : Int) =>
   let x4 : Bool := eqInt x3 v1
   (bif x4 then
    some (Out.ret, (true, ()), h)
   else
    let x5 : Int := wrapA .i64 (v5 + 1)
    go v0 v1 v4 x5 h)))
  else
   some ((Out.exit 0), (v4, ()), h))
noncomputable def f13_l1 (N M : Nat) (v0 : SL) (v1 : Int) (v4 : Bool) (v5 : Int) (h : Heap) : Option (Out × (Bool × Unit) × Heap) := iter (fun go s h => f13_l1_b N (fun v0 v1 v4 v5 h => go (v0, v1, v4, v5, ()) h) s.1 s.2.1 s.2.2.1 s.2.2.2.1 h) M (v0, v1, v4, v5, ()) h
theorem f13_l1_succ (N M : Nat) (v0 : SL) (v1 : Int) (v4 : Bool) (v5 : Int) (h : Heap) : f13_l1 N (M + 1) v0 v1 v4 v5 h = f13_l1_b N (f13_l1 N M) v0 v1 v4 v5 h := rfl
theorem f13_l1_zero (N : Nat) (v0 : SL) (v1 : Int) (v4 : Bool) (v5 : Int) (h : Heap) : f13_l1 N 0 v0 v1 v4 v5 h = none := rfl
noncomputable def f13 (N : Nat) (a0 : SL) (a1 : Int) (h : Heap) : Option (Bool × Heap) :=
  (bind3 (f13_l1 N N a0 a1 false 0 h) fun o6 (j7 : (Bool × Unit)) h8 =>
  (bif eqOut o6 (.exit 0) then
   some (false, h8)
  else
   some (j7.1, h8)))
noncomputable def ann13 : Ann := (.two .n (.two (.two .n (.two (.loop [(0, (.one .slice)), (1, (.one (.int .i64))), (4, (.one .bool)), (5, (.one (.int .i64)))] [(.exit 0), .ret] [(4, (.one .bool))] .n) .n)) .n))
theorem f13_ok (N : Nat) : FnOK Try.prog 13 [(.one .slice), (.one (.int .i64))] (.val (.one .bool)) (fun x h => f13 N x.1 x.2.1 h) :=
  runK_ok envOK hmix noCalls_ok (N := N) (x := ann13) (fn := Try.f13) (c := Try.f13.body.getD .skip) (by kernel_rfl) (by kernel_rfl) (by kernel_rfl) (by kernel_rfl) (fun _ _ => by kernel_rfl)

/- usufruct/usufructlaw11.GraphBelow -/
noncomputable def f3_l7_b (N : Nat) (go : Bool → SL → Int → SL → Int → Bool → Int → Int → Heap → Option (Out × (Bool × SL × Int × SL × Int × Bool × Int × Unit) × Heap)) (v4 : Bool) (v5 : SL) (v8 : Int) (v9 : SL) (v11 : Int) (v12 : Bool) (v13 : Int) (v14 : Int) (h : Heap) : Option (Out × (Bool × SL × Int × SL × Int × Bool × Int × Unit) × Heap) :=
  (ixK v9.a v9.len v13 1 fun q114 =>
  (bindV (.val (.one (.int .i64))) (h.cell q114) fun (x115 : Int) =>
  (ixK v5.a v5.len x115 1 fun q116 =>
  (bindV (.val (.one .slice)) (h.cell q116) fun (x117 : SL) =>
  let x118 : Bool := ltInt v14 (Int.ofNat x117.len)
  (bif x118 then
   (ixK v9.a v9.len v13 1 fun q119 =>
   (bindV (.val (.one (.int .i64))) (h.cell q119) fun (x120 : Int) =>
   (ixK v5.a v5.len x120 1 fun q121 =>
   (bindV (.val (.one .slice)) (h.cell q121) fun (x122 : SL) =>
   (ixK x122.a x122.len v14 1 fun q123 =>
   (bindV (.val (.one (.int .i64))) (h.cell q123) fun (x124 : Int) =>
   (bind2 (f13 N v9 x124 h) fun (x125 : Bool) h126 =>
   let x127 : Bool := !x125
   (bif x127 then
    some (Out.ret, (false, v5, v8, v9, v11, v12, v13, ()), h126)
   else
    let x128 : Int := wrapA .i64 (v14 + 1)
    go v4 v5 v8 v9 v11 v12 v13 x128 h126))))))))
  else
   some ((Out.exit 8), (v4, v5, v8, v9, v11, v12, v13, ()), h))))))
noncomputable def f3_l7 (N M : Nat) (v4 : Bool) (v5 : SL) (v8 : Int) (v9 : SL) (v11 : Int) (v12 : Bool) (v13 : Int) (v14 : Int) (h : Heap) : Option (Out × (Bool × SL × Int × SL × Int × Bool × Int × Unit) × Heap) := iter (fun go s h => f3_l7_b N (fun v4 v5 v8 v9 v11 v12 v13 v14 h => go (v4, v5, v8, v9, v11, v12, v13, v14, ()) h) s.1 s.2.1 s.2.2.1 s.2.2.2.1 s.2.2.2.2.1 s.2.2.2.2.2.1 s.2.2.2.2.2.2.1 s.2.2.2.2.2.2.2.1 h) M (v4, v5, v8, v9, v11, v12, v13, v14, ()) h
theorem f3_l7_succ (N M : Nat) (v4 : Bool) (v5 : SL) (v8 : Int) (v9 : SL) (v11 : Int) (v12 : Bool) (v13 : Int) (v14 : Int) (h : Heap) : f3_l7 N (M + 1) v4 v5 v8 v9 v11 v12 v13 v14 h = f3_l7_b N (f3_l7 N M) v4 v5 v8 v9 v11 v12 v13 v14 h := rfl
theorem f3_l7_zero (N : Nat) (v4 : Bool) (v5 : SL) (v8 : Int) (v9 : SL) (v11 : Int) (v12 : Bool) (v13 : Int) (v14 : Int) (h : Heap) : f3_l7 N 0 v4 v5 v8 v9 v11 v12 v13 v14 h = none := rfl
noncomputable def f3_l6_b (N : Nat) (go : Bool → SL → Int → SL → Int → Bool → Int → Heap → Option (Out × (Bool × SL × Int × SL × Int × Bool × Unit) × Heap)) (v4 : Bool) (v5 : SL) (v8 : Int) (v9 : SL) (v11 : Int) (v12 : Bool) (v13 : Int) (h : Heap) : Option (Out × (Bool × SL × Int × SL × Int × Bool × Unit) × Heap) :=
  let x102 : Bool := ltInt v13 (Int.ofNat v9.len)
  (bif x102 then
   (bind2 (α := (Bool × SL × Int × SL × Int × Bool × Int × Unit)) (
    (bif v12 then
     some ((v4, v5, v8, v9, v11, true, v13, ()), h)
    else
     let x103 : Bool := !eqInt v13 v11
     (bif x103 then
      (ixK v9.a v9.len v13 1 fun q104 =>
      (bindV (.val (.one (.int .i64))) (h.cell q104) fun (x105 : Int) =>
      (ixK v5.a v5.len x105 1 fun q106 =>
      (bindV (.val (.one .slice)) (h.cell q106) fun (x107 : SL) =>
      (ixK v9.a v9.len v11 1 fun q108 =>
      (bindV (.val (.one (.int .i64))) (h.cell q108) fun (x109 : Int) =>
      (bind2 (f13 N x107 x109 h) fun (x110 : Bool) h111 =>
      some ((v4, v5, v8, v9, v11, x110, v13, ()), h111))))))))
     else
      some ((v4, v5, v8, v9, v11, false, v13, ()), h)))) fun (j112 : (Bool × SL × Int × SL × Int × Bool × Int × Unit)) h113 =>
   (bind3 (f3_l7 N N j112.1 j112.2.1 j112.2.2.1 j112.2.2.2.1 j112.2.2.2.2.1 j112.2.2.2.2.2.1 j112.2.2.2.2.2.2.1 0 h113) fun o129 (j130 : (Bool × SL × Int × SL × Int × Bool × Int × Unit)) h131 =>
   (bif eqOut o129 (.exit 8) then
    let x132 : Int := wrapA .i64 (j130.2.2.2.2.2.2.1 + 1)
    go j130.1 j130.2.1 j130.2.2.1 j130.2.2.2.1 j130.2.2.2.2.1 j130.2.2.2.2.2.1 x132 h131
   else
    some (Out.ret, (j130.1, j130.2.1, j130.2.2.1, j130.2.2.2.1, j130.2.2.2.2.1, j130.2.2.2.2.2.1, ()), h131))))
  else
   some ((Out.exit 6), (v4, v5, v8, v9, v11, v12, ()), h))
noncomputable def f3_l6 (N M : Nat) (v4 : Bool) (v5 : SL) (v8 : Int) (v9 : SL) (v11 : Int) (v12 : Bool) (v13 : Int) (h : Heap) : Option (Out × (Bool × SL × Int × SL × Int × Bool × Unit) × Heap) := iter (fun go s h => f3_l6_b N (fun v4 v5 v8 v9 v11 v12 v13 h => go (v4, v5, v8, v9, v11, v12, v13, ()) h) s.1 s.2.1 s.2.2.1 s.2.2.2.1 s.2.2.2.2.1 s.2.2.2.2.2.1 s.2.2.2.2.2.2.1 h) M (v4, v5, v8, v9, v11, v12, v13, ()) h
theorem f3_l6_succ (N M : Nat) (v4 : Bool) (v5 : SL) (v8 : Int) (v9 : SL) (v11 : Int) (v12 : Bool) (v13 : Int) (h : Heap) : f3_l6 N (M + 1) v4 v5 v8 v9 v11 v12 v13 h = f3_l6_b N (f3_l6 N M) v4 v5 v8 v9 v11 v12 v13 h := rfl
theorem f3_l6_zero (N : Nat) (v4 : Bool) (v5 : SL) (v8 : Int) (v9 : SL) (v11 : Int) (v12 : Bool) (v13 : Int) (h : Heap) : f3_l6 N 0 v4 v5 v8 v9 v11 v12 v13 h = none := rfl
noncomputable def f3_l5_b (N : Nat) (go : Bool → SL → Int → SL → Int → Bool → Int → Int → Heap → Option (Out × (Bool × SL × Int × SL × Int × Bool × Int × Unit) × Heap)) (v4 : Bool) (v5 : SL) (v8 : Int) (v9 : SL) (v11 : Int) (v12 : Bool) (v13 : Int) (v14 : Int) (h : Heap) : Option (Out × (Bool × SL × Int × SL × Int × Bool × Int × Unit) × Heap) :=
  (ixK v9.a v9.len v13 1 fun q72 =>
  (bindV (.val (.one (.int .i64))) (h.cell q72) fun (x73 : Int) =>
  (ixK v5.a v5.len x73 1 fun q74 =>
  (bindV (.val (.one .slice)) (h.cell q74) fun (x75 : SL) =>
  let x76 : Bool := ltInt v14 (Int.ofNat x75.len)
  (bif x76 then
   (ixK v9.a v9.len v13 1 fun q77 =>
   (bindV (.val (.one (.int .i64))) (h.cell q77) fun (x78 : Int) =>
   (ixK v5.a v5.len x78 1 fun q79 =>
   (bindV (.val (.one .slice)) (h.cell q79) fun (x80 : SL) =>
   (ixK x80.a x80.len v14 1 fun q81 =>
   (bindV (.val (.one (.int .i64))) (h.cell q81) fun (x82 : Int) =>
   (bind2 (f13 N v9 x82 h) fun (x83 : Bool) h84 =>
   let x85 : Bool := !x83
   (bif x85 then
    some (Out.ret, (false, v5, v8, v9, v11, v12, v13, ()), h84)
   else
    let x86 : Int := wrapA .i64 (v14 + 1)
    go v4 v5 v8 v9 v11 v12 v13 x86 h84))))))))
  else
   some ((Out.exit 8), (v4, v5, v8, v9, v11, v12, v13, ()), h))))))
noncomputable def f3_l5 (N M : Nat) (v4 : Bool) (v5 : SL) (v8 : Int) (v9 : SL) (v11 : Int) (v12 : Bool) (v13 : Int) (v14 : Int) (h : Heap) : Option (Out × (Bool × SL × Int × SL × Int × Bool × Int × Unit) × Heap) := iter (fun go s h => f3_l5_b N (fun v4 v5 v8 v9 v11 v12 v13 v14 h => go (v4, v5, v8, v9, v11, v12, v13, v14, ()) h) s.1 s.2.1 s.2.2.1 s.2.2.2.1 s.2.2.2.2.1 s.2.2.2.2.2.1 s.2.2.2.2.2.2.1 s.2.2.2.2.2.2.2.1 h) M (v4, v5, v8, v9, v11, v12, v13, v14, ()) h
theorem f3_l5_succ (N M : Nat) (v4 : Bool) (v5 : SL) (v8 : Int) (v9 : SL) (v11 : Int) (v12 : Bool) (v13 : Int) (v14 : Int) (h : Heap) : f3_l5 N (M + 1) v4 v5 v8 v9 v11 v12 v13 v14 h = f3_l5_b N (f3_l5 N M) v4 v5 v8 v9 v11 v12 v13 v14 h := rfl
theorem f3_l5_zero (N : Nat) (v4 : Bool) (v5 : SL) (v8 : Int) (v9 : SL) (v11 : Int) (v12 : Bool) (v13 : Int) (v14 : Int) (h : Heap) : f3_l5 N 0 v4 v5 v8 v9 v11 v12 v13 v14 h = none := rfl
noncomputable def f3_l4_b (N : Nat) (go : Bool → SL → Int → SL → Int → Bool → Int → Heap → Option (Out × (Bool × SL × Int × SL × Int × Bool × Unit) × Heap)) (v4 : Bool) (v5 : SL) (v8 : Int) (v9 : SL) (v11 : Int) (v12 : Bool) (v13 : Int) (h : Heap) : Option (Out × (Bool × SL × Int × SL × Int × Bool × Unit) × Heap) :=
  let x60 : Bool := ltInt v13 (Int.ofNat v9.len)
  (bif x60 then
   (bind2 (α := (Bool × SL × Int × SL × Int × Bool × Int × Unit)) (
    (bif v12 then
     some ((v4, v5, v8, v9, v11, true, v13, ()), h)
    else
     let x61 : Bool := !eqInt v13 v11
     (bif x61 then
      (ixK v9.a v9.len v13 1 fun q62 =>
      (bindV (.val (.one (.int .i64))) (h.cell q62) fun (x63 : Int) =>
      (ixK v5.a v5.len x63 1 fun q64 =>
      (bindV (.val (.one .slice)) (h.cell q64) fun (x65 : SL) =>
      (ixK v9.a v9.len v11 1 fun q66 =>
      (bindV (.val (.one (.int .i64))) (h.cell q66) fun (x67 : Int) =>
      (bind2 (f13 N x65 x67 h) fun (x68 : Bool) h69 =>
      some ((v4, v5, v8, v9, v11, x68, v13, ()), h69))))))))
     else
      some ((v4, v5, v8, v9, v11, false, v13, ()), h)))) fun (j70 : (Bool × SL × Int × SL × Int × Bool × Int × Unit)) h71 =>
   (bind3 (f3_l5 N N j70.1 j70.2.1 j70.2.2.1 j70.2.2.2.1 j70.2.2.2.2.1 j70.2.2.2.2.2.1 j70.2.2.2.2.2.2.1 0 h71) fun o87 (j88 : (Bool × SL × Int × SL × Int × Bool × Int × Unit)) h89 =>
   (bif eqOut o87 (.exit 8) then
    let x90 : Int := wrapA .i64 (j88.2.2.2.2.2.2.1 + 1)
    go j88.1 j88.2.1 j88.2.2.1 j88.2.2.2.1 j88.2.2.2.2.1 j88.2.2.2.2.2.1 x90 h89
   else
    some (Out.ret, (j88.1, j88.2.1, j88.2.2.1, j88.2.2.2.1, j88.2.2.2.2.1, j88.2.2.2.2.2.1, ()), h89))))
  else
   some ((Out.exit 6), (v4, v5, v8, v9, v11, v12, ()), h))
noncomputable def f3_l4 (N M : Nat) (v4 : Bool) (v5 : SL) (v8 : Int) (v9 : SL) (v11 : Int) (v12 : Bool) (v13 : Int) (h : Heap) : Option (Out × (Bool × SL × Int × SL × Int × Bool × Unit) × Heap) := iter (fun go s h => f3_l4_b N (fun v4 v5 v8 v9 v11 v12 v13 h => go (v4, v5, v8, v9, v11, v12, v13, ()) h) s.1 s.2.1 s.2.2.1 s.2.2.2.1 s.2.2.2.2.1 s.2.2.2.2.2.1 s.2.2.2.2.2.2.1 h) M (v4, v5, v8, v9, v11, v12, v13, ()) h
theorem f3_l4_succ (N M : Nat) (v4 : Bool) (v5 : SL) (v8 : Int) (v9 : SL) (v11 : Int) (v12 : Bool) (v13 : Int) (h : Heap) : f3_l4 N (M + 1) v4 v5 v8 v9 v11 v12 v13 h = f3_l4_b N (f3_l4 N M) v4 v5 v8 v9 v11 v12 v13 h := rfl
theorem f3_l4_zero (N : Nat) (v4 : Bool) (v5 : SL) (v8 : Int) (v9 : SL) (v11 : Int) (v12 : Bool) (v13 : Int) (h : Heap) : f3_l4 N 0 v4 v5 v8 v9 v11 v12 v13 h = none := rfl
noncomputable def f3_l3_b (N : Nat) (go : Bool → SL → Int → SL → Int → Heap → Option (Out × (Bool × Unit) × Heap)) (v4 : Bool) (v5 : SL) (v8 : Int) (v9 : SL) (v11 : Int) (h : Heap) : Option (Out × (Bool × Unit) × Heap) :=
  let x40 : Bool := ltInt v11 (Int.ofNat v9.len)
  (bif x40 then
   (ixK v9.a v9.len v11 1 fun q41 =>
   (bindV (.val (.one (.int .i64))) (h.cell q41) fun (x42 : Int) =>
   let x43 : Bool := ltInt x42 0
   (bif x43 then
    some (Out.ret, (false, ()), h)
   else
    (ixK v9.a v9.len v11 1 fun q44 =>
    (bindV (.val (.one (.int .i64))) (h.cell q44) fun (x45 : Int) =>
    let x46 : Bool := leInt (Int.ofNat v5.len) x45
    (bif x46 then
     some (Out.ret, (false, ()), h)
    else
     let x47 : Bool := ltInt 0 v11
     (bif x47 then
      let x48 : Int := wrapA .i64 (v11 - 1)
      (ixK v9.a v9.len x48 1 fun q49 =>
      (bindV (.val (.one (.int .i64))) (h.cell q49) fun (x50 : Int) =>
      (ixK v9.a v9.len v11 1 fun q51 =>
      (bindV (.val (.one (.int .i64))) (h.cell q51) fun (x52 : Int) =>
      let x53 : Bool := leInt x52 x50
      (bif x53 then
       some (Out.ret, (false, ()), h)
      else
       (ixK v5.a v5.len v8 1 fun q54 =>
       (bindV (.val (.one .slice)) (h.cell q54) fun (x55 : SL) =>
       (ixK v9.a v9.len v11 1 fun q56 =>
       (bindV (.val (.one (.int .i64))) (h.cell q56) fun (x57 : Int) =>
       (bind2 (f13 N x55 x57 h) fun (x58 : Bool) h59 =>
       (bind3 (f3_l4 N N v4 v5 v8 v9 v11 x58 0 h59) fun o91 (j92 : (Bool × SL × Int × SL × Int × Bool × Unit)) h93 =>
       (bif eqOut o91 (.exit 6) then
        let x94 : Bool := !j92.2.2.2.2.2.1
        (bif x94 then
         some (Out.ret, (false, ()), h93)
        else
         let x95 : Int := wrapA .i64 (j92.2.2.2.2.1 + 1)
         go j92.1 j92.2.1 j92.2.2.1 j92.2.2.2.1 x95 h93)
       else
        some (Out.ret, (j92.1, ()), h93)))))))))))))
     else
      (ixK v5.a v5.len v8 1 fun q96 =>
      (bindV (.val (.one .slice)) (h.cell q96) fun (x97 : SL) =>
      (ixK v9.a v9.len v11 1 fun q98 =>
      (bindV (.val (.one (.int .i64))) (h.cell q98) fun (x99 : Int) =>
      (bind2 (f13 N x97 x99 h) fun (x100 : Bool) h101 =>
      (bind3 (f3_l6 N N v4 v5 v8 v9 v11 x100 0 h101) fun o133 (j134 : (Bool × SL × Int × SL × Int × Bool × Unit)) h135 =>
      (bif eqOut o133 (.exit 6) then
       let x136 : Bool := !j134.2.2.2.2.2.1
       (bif x136 then
        some (Out.ret, (false, ()), h135)
       else
        let x137 : Int := wrapA .i64 (j134.2.2.2.2.1 + 1)
        go j134.1 j134.2.1 j134.2.2.1 j134.2.2.2.1 x137 h135)
      else
       some (Out.ret, (j134.1, ()), h135)))))))))))))))
  else
   some ((Out.exit 4), (v4, ()), h))
noncomputable def f3_l3 (N M : Nat) (v4 : Bool) (v5 : SL) (v8 : Int) (v9 : SL) (v11 : Int) (h : Heap) : Option (Out × (Bool × Unit) × Heap) := iter (fun go s h => f3_l3_b N (fun v4 v5 v8 v9 v11 h => go (v4, v5, v8, v9, v11, ()) h) s.1 s.2.1 s.2.2.1 s.2.2.2.1 s.2.2.2.2.1 h) M (v4, v5, v8, v9, v11, ()) h
theorem f3_l3_succ (N M : Nat) (v4 : Bool) (v5 : SL) (v8 : Int) (v9 : SL) (v11 : Int) (h : Heap) : f3_l3 N (M + 1) v4 v5 v8 v9 v11 h = f3_l3_b N (f3_l3 N M) v4 v5 v8 v9 v11 h := rfl
theorem f3_l3_zero (N : Nat) (v4 : Bool) (v5 : SL) (v8 : Int) (v9 : SL) (v11 : Int) (h : Heap) : f3_l3 N 0 v4 v5 v8 v9 v11 h = none := rfl
noncomputable def f3_l2_b (N : Nat) (go : Bool → SL → Int → SL → Int → Heap → Option (Out × (Bool × SL × Int × SL × Unit) × Heap)) (v4 : Bool) (v5 : SL) (v8 : Int) (v9 : SL) (v10 : Int) (h : Heap) : Option (Out × (Bool × SL × Int × SL × Unit) × Heap) :=
  (ixK v5.a v5.len v8 1 fun q26 =>
  (bindV (.val (.one .slice)) (h.cell q26) fun (x27 : SL) =>
  let x28 : Bool := ltInt v10 (Int.ofNat x27.len)
  (bif x28 then
   (ixK v5.a v5.len v8 1 fun q29 =>
   (bindV (.val (.one .slice)) (h.cell q29) fun (x30 : SL) =>
   (ixK x30.a x30.len v10 1 fun q31 =>
   (bindV (.val (.one (.int .i64))) (h.cell q31) fun (x32 : Int) =>
   (bind2 (f13 N v9 x32 h) fun (x33 : Bool) h34 =>
   let x35 : Bool := !x33
   (bif x35 then
    some (Out.ret, (false, v5, v8, v9, ()), h34)
   else
    let x36 : Int := wrapA .i64 (v10 + 1)
    go v4 v5 v8 v9 x36 h34))))))
  else
   some ((Out.exit 2), (v4, v5, v8, v9, ()), h))))
noncomputable def f3_l2 (N M : Nat) (v4 : Bool) (v5 : SL) (v8 : Int) (v9 : SL) (v10 : Int) (h : Heap) : Option (Out × (Bool × SL × Int × SL × Unit) × Heap) := iter (fun go s h => f3_l2_b N (fun v4 v5 v8 v9 v10 h => go (v4, v5, v8, v9, v10, ()) h) s.1 s.2.1 s.2.2.1 s.2.2.2.1 s.2.2.2.2.1 h) M (v4, v5, v8, v9, v10, ()) h
theorem f3_l2_succ (N M : Nat) (v4 : Bool) (v5 : SL) (v8 : Int) (v9 : SL) (v10 : Int) (h : Heap) : f3_l2 N (M + 1) v4 v5 v8 v9 v10 h = f3_l2_b N (f3_l2 N M) v4 v5 v8 v9 v10 h := rfl
theorem f3_l2_zero (N : Nat) (v4 : Bool) (v5 : SL) (v8 : Int) (v9 : SL) (v10 : Int) (h : Heap) : f3_l2 N 0 v4 v5 v8 v9 v10 h = none := rfl
noncomputable def f3_l1_b (N : Nat) (go : Int → Bool → SL → Int → Heap → Option (Out × (Int × Bool × SL × Unit) × Heap)) (v1 : Int) (v4 : Bool) (v5 : SL) (v7 : Int) (h : Heap) : Option (Out × (Int × Bool × SL × Unit) × Heap) :=
  let x10 : Bool := ltInt v7 (Int.ofNat v5.len)
  (bif x10 then
   (ixK v5.a v5.len v7 1 fun q11 =>
   (bindV (.val (.one .slice)) (h.cell q11) fun (x12 : SL) =>
   let x13 : Bool := ltInt 64 (Int.ofNat x12.len)
   (bif x13 then
    (bind2 (f11 N  h) fun (x14 : Bool) h15 =>
    some (Out.ret, (v1, x14, v5, ()), h15))
   else
    let x16 : Int := wrapA .i64 (v7 + 1)
    go v1 v4 v5 x16 h)))
  else
   some ((Out.exit 0), (v1, v4, v5, ()), h))
noncomputable def f3_l1 (N M : Nat) (v1 : Int) (v4 : Bool) (v5 : SL) (v7 : Int) (h : Heap) : Option (Out × (Int × Bool × SL × Unit) × Heap) := iter (fun go s h => f3_l1_b N (fun v1 v4 v5 v7 h => go (v1, v4, v5, v7, ()) h) s.1 s.2.1 s.2.2.1 s.2.2.2.1 h) M (v1, v4, v5, v7, ()) h
theorem f3_l1_succ (N M : Nat) (v1 : Int) (v4 : Bool) (v5 : SL) (v7 : Int) (h : Heap) : f3_l1 N (M + 1) v1 v4 v5 v7 h = f3_l1_b N (f3_l1 N M) v1 v4 v5 v7 h := rfl
theorem f3_l1_zero (N : Nat) (v1 : Int) (v4 : Bool) (v5 : SL) (v7 : Int) (h : Heap) : f3_l1 N 0 v1 v4 v5 v7 h = none := rfl
noncomputable def f3 (N : Nat) (a0 : SL) (a1 : Int) (h : Heap) : Option (Bool × Heap) :=
  (bind2 (f10 N a0 false h) fun (x1 : (SL × Bool × Unit)) h2 =>
  (bind2 (α := (Int × Bool × SL × Bool × Unit)) (
   let x3 : Bool := !x1.2.1
   (bif x3 then
    some ((a1, false, x1.1, true, ()), h2)
   else
    let x4 : Bool := eqInt (Int.ofNat x1.1.len) 0
    (bif x4 then
     some ((a1, false, x1.1, true, ()), h2)
    else
     let x5 : Bool := ltInt 64 (Int.ofNat x1.1.len)
     some ((a1, false, x1.1, x5, ()), h2)))) fun (j6 : (Int × Bool × SL × Bool × Unit)) h7 =>
  (bif j6.2.2.2.1 then
   (bind2 (f11 N  h7) fun (x8 : Bool) h9 =>
   some (x8, h9))
  else
   (bind3 (f3_l1 N N j6.1 j6.2.1 j6.2.2.1 0 h7) fun o17 (j18 : (Int × Bool × SL × Unit)) h19 =>
   (bif eqOut o17 (.exit 0) then
    let x20 : Int := wrapA .u64 j18.1
    let x21 : Int := wrapA .u64 (Int.ofNat j18.2.2.1.len)
    (bindV (.val (.one (.int .u64))) (binInt .rem .u64 x20 x21) fun (x22 : Int) =>
    let x23 : Int := wrapA .i64 x22
    (bind2 (f12 N j18.2.2.1 x23 h19) fun (x24 : SL) h25 =>
    (bind3 (f3_l2 N N j18.2.1 j18.2.2.1 x23 x24 0 h25) fun o37 (j38 : (Bool × SL × Int × SL × Unit)) h39 =>
    (bif eqOut o37 (.exit 2) then
     (bind3 (f3_l3 N N j38.1 j38.2.1 j38.2.2.1 j38.2.2.2.1 0 h39) fun o138 (j139 : (Bool × Unit)) h140 =>
     (bif eqOut o138 (.exit 4) then
      (bind2 (f11 N  h140) fun (x141 : Bool) h142 =>
      some (x141, h142))
     else
      some (j139.1, h140)))
    else
     some (j38.1, h39)))))
   else
    some (j18.2.1, h19))))))
noncomputable def ann3 : Ann := (.two .n (.two .n (.two (.two (.join [(1, (.one (.int .i64))), (4, (.one .bool)), (5, (.one .slice)), (31, (.one .bool))] .n) .n) (.two (.two .n (.two (.loop [(1, (.one (.int .i64))), (4, (.one .bool)), (5, (.one .slice)), (7, (.one (.int .i64)))] [(.exit 0), .ret] [(1, (.one (.int .i64))), (4, (.one .bool)), (5, (.one .slice))] .n) .n)) (.two .n (.two .n (.two (.two .n (.two (.loop [(4, (.one .bool)), (5, (.one .slice)), (8, (.one (.int .i64))), (9, (.one .slice)), (10, (.one (.int .i64)))] [(.exit 2), .ret] [(4, (.one .bool)), (5, (.one .slice)), (8, (.one (.int .i64))), (9, (.one .slice))] .n) .n)) (.two (.two .n (.two (.loop [(4, (.one .bool)), (5, (.one .slice)), (8, (.one (.int .i64))), (9, (.one .slice)), (11, (.one (.int .i64)))] [(.exit 4), .ret] [(4, (.one .bool))] (.two .n (.two (.two (.two .n (.two .n (.two (.two .n (.two (.loop [(4, (.one .bool)), (5, (.one .slice)), (8, (.one (.int .i64))), (9, (.one .slice)), (11, (.one (.int .i64))), (12, (.one .bool)), (13, (.one (.int .i64)))] [(.exit 6), .ret] [(4, (.one .bool)), (5, (.one .slice)), (8, (.one (.int .i64))), (9, (.one .slice)), (11, (.one (.int .i64))), (12, (.one .bool))] (.two .n (.two (.two (.two (.join [(4, (.one .bool)), (5, (.one .slice)), (8, (.one (.int .i64))), (9, (.one .slice)), (11, (.one (.int .i64))), (12, (.one .bool)), (13, (.one (.int .i64)))] .n) (.two .n (.two (.loop [(4, (.one .bool)), (5, (.one .slice)), (8, (.one (.int .i64))), (9, (.one .slice)), (11, (.one (.int .i64))), (12, (.one .bool)), (13, (.one (.int .i64))), (14, (.one (.int .i64)))] [(.exit 8), .ret] [(4, (.one .bool)), (5, (.one .slice)), (8, (.one (.int .i64))), (9, (.one .slice)), (11, (.one (.int .i64))), (12, (.one .bool)), (13, (.one (.int .i64)))] .n) .n))) .n) .n))) .n)) .n))) .n) .n))) .n)) .n))))))))
theorem f3_ok (N : Nat) : FnOK Try.prog 3 [(.one .slice), (.one (.int .i64))] (.val (.one .bool)) (fun x h => f3 N x.1 x.2.1 h) :=
  runK_ok envOK hmix (addCall_ok (f13_ok N) (addCall_ok (f12_ok N) (addCall_ok (f11_ok N) (addCall_ok (f10_ok N) noCalls_ok)))) (N := N) (x := ann3) (fn := Try.f3) (c := Try.f3.body.getD .skip) (by kernel_rfl) (by kernel_rfl) (by kernel_rfl) (by kernel_rfl) (fun _ _ => by kernel_rfl)

/- usufruct/graph.ringed -/
noncomputable def f43_l1_b (N : Nat) (go : SL → Int → Int → Int → Heap → Option (Out × (Int × Unit) × Heap)) (v0 : SL) (v2 : Int) (v5 : Int) (v6 : Int) (h : Heap) : Option (Out × (Int × Unit) × Heap) :=
  let x1 : Bool := ltInt v6 v5
  (bif x1 then
   (bind2 (f39 N v0 v6 h) fun (x2 : SL) h3 =>
   (ixK x2.a x2.len v6 1 fun q4 =>
   (bindV (.val (.one .bool)) (h3.cell q4) fun (x5 : Bool) =>
   (bif x5 then
    some (Out.ret, (v6, ()), h3)
   else
    let x6 : Int := wrapA .i64 (v6 + 1)
    go v0 v2 v5 x6 h3))))
  else
   some ((Out.exit 0), (v2, ()), h))
noncomputable def f43_l1 (N M : Nat) (v0 : SL) (v2 : Int) (v5 : Int) (v6 : Int) (h : Heap) : Option (Out × (Int × Unit) × Heap) := iter (fun go s h => f43_l1_b N (fun v0 v2 v5 v6 h => go (v0, v2, v5, v6, ()) h) s.1 s.2.1 s.2.2.1 s.2.2.2.1 h) M (v0, v2, v5, v6, ()) h
theorem f43_l1_succ (N M : Nat) (v0 : SL) (v2 : Int) (v5 : Int) (v6 : Int) (h : Heap) : f43_l1 N (M + 1) v0 v2 v5 v6 h = f43_l1_b N (f43_l1 N M) v0 v2 v5 v6 h := rfl
theorem f43_l1_zero (N : Nat) (v0 : SL) (v2 : Int) (v5 : Int) (v6 : Int) (h : Heap) : f43_l1 N 0 v0 v2 v5 v6 h = none := rfl
noncomputable def f43 (N : Nat) (a0 : SL) (h : Heap) : Option (Int × Heap) :=
  (bind3 (f43_l1 N N a0 0 (Int.ofNat a0.len) 0 h) fun o7 (j8 : (Int × Unit)) h9 =>
  (bif eqOut o7 (.exit 0) then
   some ((-1), h9)
  else
   some (j8.1, h9)))
noncomputable def ann43 : Ann := (.two .n (.two (.two .n (.two (.loop [(0, (.one .slice)), (2, (.one (.int .i64))), (5, (.one (.int .i64))), (6, (.one (.int .i64)))] [(.exit 0), .ret] [(2, (.one (.int .i64)))] .n) .n)) .n))
theorem f43_ok (N : Nat) : FnOK Try.prog 43 [(.one .slice)] (.val (.one (.int .i64))) (fun x h => f43 N x.1 h) :=
  runK_ok envOK hmix (addCall_ok (f39_ok N) noCalls_ok) (N := N) (x := ann43) (fn := Try.f43) (c := Try.f43.body.getD .skip) (by kernel_rfl) (by kernel_rfl) (by kernel_rfl) (by kernel_rfl) (fun _ _ => by kernel_rfl)

/- usufruct/graph.check -/
noncomputable def f40 (N : Nat) (a0 : SL) (h : Heap) : Option (AV × Heap) :=
  (bind2 (f38 N a0 h) fun (x1 : AV) h2 =>
  (bindV (.val (.one .bool)) (binA E .neq 32 (.tmp 7) (.const .nilIface) x1 AV.nilIface) fun (x3 : Bool) =>
  (bif x3 then
   some (x1, h2)
  else
   (bind2 (f43 N a0 h2) fun (x4 : Int) h5 =>
   let x6 : Bool := leInt 0 x4
   (bif x6 then
    (bind2 (f46 N 42 x4 h5) fun (x7 : AV) h8 =>
    some (x7, h8))
   else
    some (AV.nilIface, h5))))))
noncomputable def ann40 : Ann := .n
theorem f40_ok (N : Nat) : FnOK Try.prog 40 [(.one .slice)] (.val (.one .any)) (fun x h => f40 N x.1 h) :=
  runK_ok envOK hmix (addCall_ok (f46_ok N) (addCall_ok (f43_ok N) (addCall_ok (f38_ok N) noCalls_ok))) (N := N) (x := ann40) (fn := Try.f40) (c := Try.f40.body.getD .skip) (by kernel_rfl) (by kernel_rfl) (by kernel_rfl) (by kernel_rfl) (fun _ _ => by kernel_rfl)

/- usufruct/graph.Order -/
noncomputable def f14_l3_b (N : Nat) (go : SL → SL → SL → Int → Int → SL → Int → Int → SL → Int → Int → Heap → Option (Out × (SL × SL × SL × Int × Int × SL × Int × Int × Unit) × Heap)) (v0 : SL) (v5 : SL) (v6 : SL) (v7 : Int) (v9 : Int) (v26 : SL) (v27 : Int) (v28 : Int) (v33 : SL) (v34 : Int) (v35 : Int) (h : Heap) : Option (Out × (SL × SL × SL × Int × Int × SL × Int × Int × Unit) × Heap) :=
  let x10 : Bool := ltInt v35 v34
  (bif x10 then
   (ixK v33.a v33.len v35 1 fun q11 =>
   (bindV (.val (.one (.int .i64))) (h.cell q11) fun (x12 : Int) =>
   (ixK v5.a v5.len x12 1 fun q13 =>
   (bindV (.val (.one (.int .i64))) (h.cell q13) fun (x14 : Int) =>
   let x15 : Bool := !eqInt x14 2
   (bif x15 then
    let x16 : Int := wrapA .i64 (v35 + 1)
    go v0 v5 v6 v7 0 v26 v27 v28 v33 v34 x16 h
   else
    let x17 : Int := wrapA .i64 (v35 + 1)
    go v0 v5 v6 v7 v9 v26 v27 v28 v33 v34 x17 h)))))
  else
   some ((Out.exit 4), (v0, v5, v6, v7, v9, v26, v27, v28, ()), h))
noncomputable def f14_l3 (N M : Nat) (v0 : SL) (v5 : SL) (v6 : SL) (v7 : Int) (v9 : Int) (v26 : SL) (v27 : Int) (v28 : Int) (v33 : SL) (v34 : Int) (v35 : Int) (h : Heap) : Option (Out × (SL × SL × SL × Int × Int × SL × Int × Int × Unit) × Heap) := iter (fun go s h => f14_l3_b N (fun v0 v5 v6 v7 v9 v26 v27 v28 v33 v34 v35 h => go (v0, v5, v6, v7, v9, v26, v27, v28, v33, v34, v35, ()) h) s.1 s.2.1 s.2.2.1 s.2.2.2.1 s.2.2.2.2.1 s.2.2.2.2.2.1 s.2.2.2.2.2.2.1 s.2.2.2.2.2.2.2.1 s.2.2.2.2.2.2.2.2.1 s.2.2.2.2.2.2.2.2.2.1 s.2.2.2.2.2.2.2.2.2.2.1 h) M (v0, v5, v6, v7, v9, v26, v27, v28, v33, v34, v35, ()) h
theorem f14_l3_succ (N M : Nat) (v0 : SL) (v5 : SL) (v6 : SL) (v7 : Int) (v9 : Int) (v26 : SL) (v27 : Int) (v28 : Int) (v33 : SL) (v34 : Int) (v35 : Int) (h : Heap) : f14_l3 N (M + 1) v0 v5 v6 v7 v9 v26 v27 v28 v33 v34 v35 h = f14_l3_b N (f14_l3 N M) v0 v5 v6 v7 v9 v26 v27 v28 v33 v34 v35 h := rfl
theorem f14_l3_zero (N : Nat) (v0 : SL) (v5 : SL) (v6 : SL) (v7 : Int) (v9 : Int) (v26 : SL) (v27 : Int) (v28 : Int) (v33 : SL) (v34 : Int) (v35 : Int) (h : Heap) : f14_l3 N 0 v0 v5 v6 v7 v9 v26 v27 v28 v33 v34 v35 h = none := rfl
noncomputable def f14_l2_b (N : Nat) (go : SL → SL → SL → SL → Int → Int → Heap → Option (Out × (SL × SL × SL × Unit) × Heap)) (v0 : SL) (v5 : SL) (v6 : SL) (v26 : SL) (v27 : Int) (v28 : Int) (h : Heap) : Option (Out × (SL × SL × SL × Unit) × Heap) :=
  let x7 : Bool := ltInt v28 v27
  (bif x7 then
   (ixK v26.a v26.len v28 1 fun q8 =>
   (bindV (.val (.one .slice)) (h.cell q8) fun (x9 : SL) =>
   (bind3 (f14_l3 N N v0 v5 v6 v28 1 v26 v27 v28 x9 (Int.ofNat x9.len) 0 h) fun _ (j19 : (SL × SL × SL × Int × Int × SL × Int × Int × Unit)) h20 =>
   (ixK j19.2.1.a j19.2.1.len j19.2.2.2.1 1 fun q21 =>
   (bindV (.val (.one (.int .i64))) (h20.cell q21) fun (x22 : Int) =>
   let x23 : Bool := eqInt x22 2
   (bif x23 then
    let x24 : Int := wrapA .i64 (j19.2.2.2.2.2.2.2.1 + 1)
    go j19.1 j19.2.1 j19.2.2.1 j19.2.2.2.2.2.1 j19.2.2.2.2.2.2.1 x24 h20
   else
    let x25 : Bool := eqInt j19.2.2.2.2.1 1
    (bif x25 then
     let h26 : Heap := h20.push (.row [(.int .i64 j19.2.2.2.1)] .own)
     (bindT (.val (.one .slice)) (appendA E 26 26 (.slice j19.2.2.1.a j19.2.2.1.len j19.2.2.1.cap j19.2.2.1.sz) (.slice (some (h20.next, 0)) 1 1 1) h26) fun (x27 : SL) h28 =>
     (ixK j19.2.1.a j19.2.1.len j19.2.2.2.1 1 fun q29 =>
     (need (h28.store q29 [(.int .i64 2)]) fun h30 =>
     some ((Out.exit 2), (j19.1, j19.2.1, x27, ()), h30))))
    else
     let x31 : Int := wrapA .i64 (j19.2.2.2.2.2.2.2.1 + 1)
     go j19.1 j19.2.1 j19.2.2.1 j19.2.2.2.2.2.1 j19.2.2.2.2.2.2.1 x31 h20)))))))
  else
   some ((Out.exit 2), (v0, v5, v6, ()), h))
noncomputable def f14_l2 (N M : Nat) (v0 : SL) (v5 : SL) (v6 : SL) (v26 : SL) (v27 : Int) (v28 : Int) (h : Heap) : Option (Out × (SL × SL × SL × Unit) × Heap) := iter (fun go s h => f14_l2_b N (fun v0 v5 v6 v26 v27 v28 h => go (v0, v5, v6, v26, v27, v28, ()) h) s.1 s.2.1 s.2.2.1 s.2.2.2.1 s.2.2.2.2.1 s.2.2.2.2.2.1 h) M (v0, v5, v6, v26, v27, v28, ()) h
theorem f14_l2_succ (N M : Nat) (v0 : SL) (v5 : SL) (v6 : SL) (v26 : SL) (v27 : Int) (v28 : Int) (h : Heap) : f14_l2 N (M + 1) v0 v5 v6 v26 v27 v28 h = f14_l2_b N (f14_l2 N M) v0 v5 v6 v26 v27 v28 h := rfl
theorem f14_l2_zero (N : Nat) (v0 : SL) (v5 : SL) (v6 : SL) (v26 : SL) (v27 : Int) (v28 : Int) (h : Heap) : f14_l2 N 0 v0 v5 v6 v26 v27 v28 h = none := rfl
noncomputable def f14_l1_b (N : Nat) (go : SL → SL → SL → Heap → Option (Out × (SL × Unit) × Heap)) (v0 : SL) (v5 : SL) (v6 : SL) (h : Heap) : Option (Out × (SL × Unit) × Heap) :=
  let x6 : Bool := ltInt (Int.ofNat v6.len) (Int.ofNat v0.len)
  (bif x6 then
   (bind3 (f14_l2 N N v0 v5 v6 v0 (Int.ofNat v0.len) 0 h) fun _ (j33 : (SL × SL × SL × Unit)) h34 =>
   go j33.1 j33.2.1 j33.2.2.1 h34)
  else
   some ((Out.exit 0), (v6, ()), h))
noncomputable def f14_l1 (N M : Nat) (v0 : SL) (v5 : SL) (v6 : SL) (h : Heap) : Option (Out × (SL × Unit) × Heap) := iter (fun go s h => f14_l1_b N (fun v0 v5 v6 h => go (v0, v5, v6, ()) h) s.1 s.2.1 s.2.2.1 h) M (v0, v5, v6, ()) h
theorem f14_l1_succ (N M : Nat) (v0 : SL) (v5 : SL) (v6 : SL) (h : Heap) : f14_l1 N (M + 1) v0 v5 v6 h = f14_l1_b N (f14_l1 N M) v0 v5 v6 h := rfl
theorem f14_l1_zero (N : Nat) (v0 : SL) (v5 : SL) (v6 : SL) (h : Heap) : f14_l1 N 0 v0 v5 v6 h = none := rfl
noncomputable def f14 (N : Nat) (a0 : SL) (h : Heap) : Option ((SL × AV × Unit) × Heap) :=
  (bind2 (f40 N a0 h) fun (x1 : AV) h2 =>
  (bindV (.val (.one .bool)) (binA E .neq 32 (.tmp 15) (.const .nilIface) x1 AV.nilIface) fun (x3 : Bool) =>
  (bif x3 then
   some ((⟨none, 0, 0, 0⟩, x1, ()), h2)
  else
   (bindT (.val (.one .slice)) (makeSliceA E 26 (.int .i64 (Int.ofNat a0.len)) (.int .i64 (Int.ofNat a0.len)) h2) fun (x4 : SL) h5 =>
   (bind3 (f14_l1 N N a0 x4 ⟨none, 0, 0, 0⟩ h5) fun _ (j36 : (SL × Unit)) h37 =>
   some ((j36.1, AV.nilIface, ()), h37))))))
noncomputable def ann14 : Ann := (.two .n (.two .n (.two .n (.two .n (.two (.two (.loop [(0, (.one .slice)), (5, (.one .slice)), (6, (.one .slice))] [(.exit 0)] [(6, (.one .slice))] (.two .n (.two (.two .n (.two (.loop [(0, (.one .slice)), (5, (.one .slice)), (6, (.one .slice)), (26, (.one .slice)), (27, (.one (.int .i64))), (28, (.one (.int .i64)))] [(.exit 2)] [(0, (.one .slice)), (5, (.one .slice)), (6, (.one .slice))] (.two .n (.two .n (.two (.two (.two .n (.two .n (.two (.two .n (.two (.loop [(0, (.one .slice)), (5, (.one .slice)), (6, (.one .slice)), (7, (.one (.int .i64))), (9, (.one (.int .i64))), (26, (.one .slice)), (27, (.one (.int .i64))), (28, (.one (.int .i64))), (33, (.one .slice)), (34, (.one (.int .i64))), (35, (.one (.int .i64)))] [(.exit 4)] [(0, (.one .slice)), (5, (.one .slice)), (6, (.one .slice)), (7, (.one (.int .i64))), (9, (.one (.int .i64))), (26, (.one .slice)), (27, (.one (.int .i64))), (28, (.one (.int .i64)))] .n) .n)) .n))) .n) .n)))) .n)) .n))) .n) .n)))))
theorem f14_ok (N : Nat) : FnOK Try.prog 14 [(.one .slice)] (.tup [(.one .slice), (.one .any)]) (fun x h => f14 N x.1 h) :=
  runK_ok envOK hmix (addCall_ok (f40_ok N) noCalls_ok) (N := N) (x := ann14) (fn := Try.f14) (c := Try.f14.body.getD .skip) (by kernel_rfl) (by kernel_rfl) (by kernel_rfl) (by kernel_rfl) (fun _ _ => by kernel_rfl)

/- usufruct/graph.Levels -/
noncomputable def f16_l2_b (N : Nat) (go : SL → SL → Int → SL → Int → Int → SL → Int → Int → Heap → Option (Out × (SL × SL × SL × Int × Int × Unit) × Heap)) (v0 : SL) (v6 : SL) (v8 : Int) (v22 : SL) (v23 : Int) (v24 : Int) (v31 : SL) (v32 : Int) (v33 : Int) (h : Heap) : Option (Out × (SL × SL × SL × Int × Int × Unit) × Heap) :=
  let x11 : Bool := ltInt v33 v32
  (bif x11 then
   (ixK v31.a v31.len v33 1 fun q12 =>
   (bindV (.val (.one (.int .i64))) (h.cell q12) fun (x13 : Int) =>
   (ixK v6.a v6.len v8 1 fun q14 =>
   (bindV (.val (.one (.int .i64))) (h.cell q14) fun (x15 : Int) =>
   (ixK v6.a v6.len x13 1 fun q16 =>
   (bindV (.val (.one (.int .i64))) (h.cell q16) fun (x17 : Int) =>
   let x18 : Int := wrapA .i64 (x17 + 1)
   let x19 : Int := (bif ltInt x15 x18 then x18 else x15)
   (ixK v6.a v6.len v8 1 fun q20 =>
   (need (h.store q20 [(.int .i64 x19)]) fun h21 =>
   let x22 : Int := wrapA .i64 (v33 + 1)
   go v0 v6 v8 v22 v23 v24 v31 v32 x22 h21))))))))
  else
   some ((Out.exit 2), (v0, v6, v22, v23, v24, ()), h))
noncomputable def f16_l2 (N M : Nat) (v0 : SL) (v6 : SL) (v8 : Int) (v22 : SL) (v23 : Int) (v24 : Int) (v31 : SL) (v32 : Int) (v33 : Int) (h : Heap) : Option (Out × (SL × SL × SL × Int × Int × Unit) × Heap) := iter (fun go s h => f16_l2_b N (fun v0 v6 v8 v22 v23 v24 v31 v32 v33 h => go (v0, v6, v8, v22, v23, v24, v31, v32, v33, ()) h) s.1 s.2.1 s.2.2.1 s.2.2.2.1 s.2.2.2.2.1 s.2.2.2.2.2.1 s.2.2.2.2.2.2.1 s.2.2.2.2.2.2.2.1 s.2.2.2.2.2.2.2.2.1 h) M (v0, v6, v8, v22, v23, v24, v31, v32, v33, ()) h
theorem f16_l2_succ (N M : Nat) (v0 : SL) (v6 : SL) (v8 : Int) (v22 : SL) (v23 : Int) (v24 : Int) (v31 : SL) (v32 : Int) (v33 : Int) (h : Heap) : f16_l2 N (M + 1) v0 v6 v8 v22 v23 v24 v31 v32 v33 h = f16_l2_b N (f16_l2 N M) v0 v6 v8 v22 v23 v24 v31 v32 v33 h := rfl
theorem f16_l2_zero (N : Nat) (v0 : SL) (v6 : SL) (v8 : Int) (v22 : SL) (v23 : Int) (v24 : Int) (v31 : SL) (v32 : Int) (v33 : Int) (h : Heap) : f16_l2 N 0 v0 v6 v8 v22 v23 v24 v31 v32 v33 h = none := rfl
noncomputable def f16_l1_b (N : Nat) (go : SL → SL → SL → Int → Int → Heap → Option (Out × (SL × Unit) × Heap)) (v0 : SL) (v6 : SL) (v22 : SL) (v23 : Int) (v24 : Int) (h : Heap) : Option (Out × (SL × Unit) × Heap) :=
  let x6 : Bool := ltInt v24 v23
  (bif x6 then
   (ixK v22.a v22.len v24 1 fun q7 =>
   (bindV (.val (.one (.int .i64))) (h.cell q7) fun (x8 : Int) =>
   (ixK v0.a v0.len x8 1 fun q9 =>
   (bindV (.val (.one .slice)) (h.cell q9) fun (x10 : SL) =>
   (bind3 (f16_l2 N N v0 v6 x8 v22 v23 v24 x10 (Int.ofNat x10.len) 0 h) fun _ (j24 : (SL × SL × SL × Int × Int × Unit)) h25 =>
   let x26 : Int := wrapA .i64 (j24.2.2.2.2.1 + 1)
   go j24.1 j24.2.1 j24.2.2.1 j24.2.2.2.1 x26 h25)))))
  else
   some ((Out.exit 0), (v6, ()), h))
noncomputable def f16_l1 (N M : Nat) (v0 : SL) (v6 : SL) (v22 : SL) (v23 : Int) (v24 : Int) (h : Heap) : Option (Out × (SL × Unit) × Heap) := iter (fun go s h => f16_l1_b N (fun v0 v6 v22 v23 v24 h => go (v0, v6, v22, v23, v24, ()) h) s.1 s.2.1 s.2.2.1 s.2.2.2.1 s.2.2.2.2.1 h) M (v0, v6, v22, v23, v24, ()) h
theorem f16_l1_succ (N M : Nat) (v0 : SL) (v6 : SL) (v22 : SL) (v23 : Int) (v24 : Int) (h : Heap) : f16_l1 N (M + 1) v0 v6 v22 v23 v24 h = f16_l1_b N (f16_l1 N M) v0 v6 v22 v23 v24 h := rfl
theorem f16_l1_zero (N : Nat) (v0 : SL) (v6 : SL) (v22 : SL) (v23 : Int) (v24 : Int) (h : Heap) : f16_l1 N 0 v0 v6 v22 v23 v24 h = none := rfl
noncomputable def f16 (N : Nat) (a0 : SL) (h : Heap) : Option ((SL × AV × Unit) × Heap) :=
  (bind2 (f14 N a0 h) fun (x1 : (SL × AV × Unit)) h2 =>
  (bindV (.val (.one .bool)) (binA E .neq 32 (.tmp 16) (.const .nilIface) x1.2.1 AV.nilIface) fun (x3 : Bool) =>
  (bif x3 then
   some ((⟨none, 0, 0, 0⟩, x1.2.1, ()), h2)
  else
   (bindT (.val (.one .slice)) (makeSliceA E 26 (.int .i64 (Int.ofNat a0.len)) (.int .i64 (Int.ofNat a0.len)) h2) fun (x4 : SL) h5 =>
   (bind3 (f16_l1 N N a0 x4 x1.1 (Int.ofNat x1.1.len) 0 h5) fun _ (j28 : (SL × Unit)) h29 =>
   some ((j28.1, AV.nilIface, ()), h29))))))
noncomputable def ann16 : Ann := (.two .n (.two .n (.two .n (.two .n (.two (.two .n (.two (.loop [(0, (.one .slice)), (6, (.one .slice)), (22, (.one .slice)), (23, (.one (.int .i64))), (24, (.one (.int .i64)))] [(.exit 0)] [(6, (.one .slice))] (.two .n (.two .n (.two (.two (.two .n (.two .n (.two (.loop [(0, (.one .slice)), (6, (.one .slice)), (8, (.one (.int .i64))), (22, (.one .slice)), (23, (.one (.int .i64))), (24, (.one (.int .i64))), (31, (.one .slice)), (32, (.one (.int .i64))), (33, (.one (.int .i64)))] [(.exit 2)] [(0, (.one .slice)), (6, (.one .slice)), (22, (.one .slice)), (23, (.one (.int .i64))), (24, (.one (.int .i64)))] .n) .n))) .n) .n)))) .n)) .n)))))
theorem f16_ok (N : Nat) : FnOK Try.prog 16 [(.one .slice)] (.tup [(.one .slice), (.one .any)]) (fun x h => f16 N x.1 h) :=
  runK_ok envOK hmix (addCall_ok (f14_ok N) noCalls_ok) (N := N) (x := ann16) (fn := Try.f16) (c := Try.f16.body.getD .skip) (by kernel_rfl) (by kernel_rfl) (by kernel_rfl) (by kernel_rfl) (fun _ _ => by kernel_rfl)

/- usufruct/usufructlaw1.Told -/
noncomputable def f23_l1_b (N : Nat) (go : Option (Nat × Nat) → Int → Int → Int → Heap → Option (Out × (Int × Int × Unit) × Heap)) (v4 : Option (Nat × Nat)) (v6 : Int) (v7 : Int) (v8 : Int) (h : Heap) : Option (Out × (Int × Int × Unit) × Heap) :=
  let x8 : Bool := ltInt v8 200
  (bif x8 then
   (need v4 fun q9 =>
   (bindV (.val (.one .any)) (h.cell (q9.1, q9.2 + 2)) fun (x10 : AV) =>
   (bindV (.tup [(.one .ptr), (.one .bool)]) (assertA E x10 69 true) fun (x11 : (Option (Nat × Nat) × Bool × Unit)) =>
   let x12 : Bool := !x11.2.1
   (bif x12 then
    some ((Out.exit 0), (v6, v7, ()), h)
   else
    (bif x11.1.isNone then
     some ((Out.exit 0), (v6, v7, ()), h)
    else
     (need x11.1 fun q13 =>
     (bindV (.val (.one (.int .i64))) (h.cell (q13.1, q13.2 + 1)) fun (x14 : Int) =>
     let x15 : Int := wrapA .i64 (v8 + 1)
     go x11.1 v6 x14 x15 h)))))))
  else
   some ((Out.exit 0), (v6, v7, ()), h))
noncomputable def f23_l1 (N M : Nat) (v4 : Option (Nat × Nat)) (v6 : Int) (v7 : Int) (v8 : Int) (h : Heap) : Option (Out × (Int × Int × Unit) × Heap) := iter (fun go s h => f23_l1_b N (fun v4 v6 v7 v8 h => go (v4, v6, v7, v8, ()) h) s.1 s.2.1 s.2.2.1 s.2.2.2.1 h) M (v4, v6, v7, v8, ()) h
theorem f23_l1_succ (N M : Nat) (v4 : Option (Nat × Nat)) (v6 : Int) (v7 : Int) (v8 : Int) (h : Heap) : f23_l1 N (M + 1) v4 v6 v7 v8 h = f23_l1_b N (f23_l1 N M) v4 v6 v7 v8 h := rfl
theorem f23_l1_zero (N : Nat) (v4 : Option (Nat × Nat)) (v6 : Int) (v7 : Int) (v8 : Int) (h : Heap) : f23_l1 N 0 v4 v6 v7 v8 h = none := rfl
noncomputable def f23 (N : Nat) (a0 : AV) (h : Heap) : Option ((Int × Int × Unit) × Heap) :=
  (bindV (.val (.one .bool)) (binA E .eql 32 (.tmp 11) (.const .nilIface) a0 AV.nilIface) fun (x1 : Bool) =>
  (bif x1 then
   some ((0, 0, ()), h)
  else
   (bindV (.tup [(.one .ptr), (.one .bool)]) (assertA E a0 69 true) fun (x2 : (Option (Nat × Nat) × Bool × Unit)) =>
   let x3 : Bool := !x2.2.1
   (bif x3 then
    some (((-1), 0, ()), h)
   else
    (bif x2.1.isNone then
     some (((-1), 0, ()), h)
    else
     (need x2.1 fun q4 =>
     (bindV (.val (.one (.int .i64))) (h.cell (q4.1, q4.2 + 0)) fun (x5 : Int) =>
     (need x2.1 fun q6 =>
     (bindV (.val (.one (.int .i64))) (h.cell (q6.1, q6.2 + 1)) fun (x7 : Int) =>
     (bind3 (f23_l1 N N x2.1 x5 x7 0 h) fun _ (j17 : (Int × Int × Unit)) h18 =>
     some ((j17.1, j17.2.1, ()), h18)))))))))))
noncomputable def ann23 : Ann := (.two .n (.two .n (.two .n (.two .n (.two .n (.two (.two .n (.two (.loop [(4, (.one .ptr)), (6, (.one (.int .i64))), (7, (.one (.int .i64))), (8, (.one (.int .i64)))] [(.exit 0)] [(6, (.one (.int .i64))), (7, (.one (.int .i64)))] .n) .n)) .n))))))
theorem f23_ok (N : Nat) : FnOK Try.prog 23 [(.one .any)] (.tup [(.one (.int .i64)), (.one (.int .i64))]) (fun x h => f23 N x.1 h) :=
  runK_ok envOK hmix noCalls_ok (N := N) (x := ann23) (fn := Try.f23) (c := Try.f23.body.getD .skip) (by kernel_rfl) (by kernel_rfl) (by kernel_rfl) (by kernel_rfl) (fun _ _ => by kernel_rfl)

/- usufruct/usufructlaw11.GraphRenamed -/
noncomputable def f6_l4_b (N : Nat) (go : Bool → Int → SL → SL → Int → Heap → Option (Out × (Bool × SL × SL × Unit) × Heap)) (v4 : Bool) (v7 : Int) (v21 : SL) (v22 : SL) (v23 : Int) (h : Heap) : Option (Out × (Bool × SL × SL × Unit) × Heap) :=
  let x80 : Bool := ltInt v23 (Int.ofNat v21.len)
  (bif x80 then
   let x81 : Bool := !eqInt (Int.ofNat v22.len) (Int.ofNat v21.len)
   (bif x81 then
    some (Out.ret, (false, v21, v22, ()), h)
   else
    let x82 : Int := wrapA .i64 ((Int.ofNat v22.len) - 1)
    let x83 : Int := wrapA .i64 (x82 - v23)
    (ixK v22.a v22.len x83 1 fun q84 =>
    (bindV (.val (.one (.int .i64))) (h.cell q84) fun (x85 : Int) =>
    let x86 : Int := wrapA .i64 (v7 - 1)
    (ixK v21.a v21.len v23 1 fun q87 =>
    (bindV (.val (.one (.int .i64))) (h.cell q87) fun (x88 : Int) =>
    let x89 : Int := wrapA .i64 (x86 - x88)
    let x90 : Bool := !eqInt x85 x89
    (bif x90 then
     some (Out.ret, (false, v21, v22, ()), h)
    else
     let x91 : Int := wrapA .i64 (v23 + 1)
     go v4 v7 v21 v22 x91 h))))))
  else
   some ((Out.exit 6), (v4, v21, v22, ()), h))
noncomputable def f6_l4 (N M : Nat) (v4 : Bool) (v7 : Int) (v21 : SL) (v22 : SL) (v23 : Int) (h : Heap) : Option (Out × (Bool × SL × SL × Unit) × Heap) := iter (fun go s h => f6_l4_b N (fun v4 v7 v21 v22 v23 h => go (v4, v7, v21, v22, v23, ()) h) s.1 s.2.1 s.2.2.1 s.2.2.2.1 s.2.2.2.2.1 h) M (v4, v7, v21, v22, v23, ()) h
theorem f6_l4_succ (N M : Nat) (v4 : Bool) (v7 : Int) (v21 : SL) (v22 : SL) (v23 : Int) (h : Heap) : f6_l4 N (M + 1) v4 v7 v21 v22 v23 h = f6_l4_b N (f6_l4 N M) v4 v7 v21 v22 v23 h := rfl
theorem f6_l4_zero (N : Nat) (v4 : Bool) (v7 : Int) (v21 : SL) (v22 : SL) (v23 : Int) (h : Heap) : f6_l4 N 0 v4 v7 v21 v22 v23 h = none := rfl
noncomputable def f6_l3_b (N : Nat) (go : Int → Bool → SL → Int → SL → SL → SL → Int → Heap → Option (Out × (Int × Bool × SL × Int × SL × Unit) × Heap)) (v1 : Int) (v4 : Bool) (v5 : SL) (v7 : Int) (v8 : SL) (v11 : SL) (v13 : SL) (v19 : Int) (h : Heap) : Option (Out × (Int × Bool × SL × Int × SL × Unit) × Heap) :=
  let x58 : Bool := ltInt v19 (Int.ofNat v11.len)
  (bif x58 then
   (ixK v11.a v11.len v19 1 fun q59 =>
   (bindV (.val (.one (.int .i64))) (h.cell q59) fun (x60 : Int) =>
   let x61 : Int := wrapA .i64 (v7 - 1)
   let x62 : Int := wrapA .i64 (x61 - v19)
   (ixK v13.a v13.len x62 1 fun q63 =>
   (bindV (.val (.one (.int .i64))) (h.cell q63) fun (x64 : Int) =>
   let x65 : Bool := !eqInt x60 x64
   (bif x65 then
    some (Out.ret, (v1, false, v5, v7, v8, ()), h)
   else
    let x66 : Int := wrapA .i64 (v19 + 1)
    go v1 v4 v5 v7 v8 v11 v13 x66 h)))))
  else
   some ((Out.exit 4), (v1, v4, v5, v7, v8, ()), h))
noncomputable def f6_l3 (N M : Nat) (v1 : Int) (v4 : Bool) (v5 : SL) (v7 : Int) (v8 : SL) (v11 : SL) (v13 : SL) (v19 : Int) (h : Heap) : Option (Out × (Int × Bool × SL × Int × SL × Unit) × Heap) := iter (fun go s h => f6_l3_b N (fun v1 v4 v5 v7 v8 v11 v13 v19 h => go (v1, v4, v5, v7, v8, v11, v13, v19, ()) h) s.1 s.2.1 s.2.2.1 s.2.2.2.1 s.2.2.2.2.1 s.2.2.2.2.2.1 s.2.2.2.2.2.2.1 s.2.2.2.2.2.2.2.1 h) M (v1, v4, v5, v7, v8, v11, v13, v19, ()) h
theorem f6_l3_succ (N M : Nat) (v1 : Int) (v4 : Bool) (v5 : SL) (v7 : Int) (v8 : SL) (v11 : SL) (v13 : SL) (v19 : Int) (h : Heap) : f6_l3 N (M + 1) v1 v4 v5 v7 v8 v11 v13 v19 h = f6_l3_b N (f6_l3 N M) v1 v4 v5 v7 v8 v11 v13 v19 h := rfl
theorem f6_l3_zero (N : Nat) (v1 : Int) (v4 : Bool) (v5 : SL) (v7 : Int) (v8 : SL) (v11 : SL) (v13 : SL) (v19 : Int) (h : Heap) : f6_l3 N 0 v1 v4 v5 v7 v8 v11 v13 v19 h = none := rfl
noncomputable def f6_l2_b (N : Nat) (go : Int → Bool → SL → Int → SL → Int → Int → Heap → Option (Out × (Int × Bool × SL × Int × SL × Int × Unit) × Heap)) (v1 : Int) (v4 : Bool) (v5 : SL) (v7 : Int) (v8 : SL) (v9 : Int) (v10 : Int) (h : Heap) : Option (Out × (Int × Bool × SL × Int × SL × Int × Unit) × Heap) :=
  (ixK v5.a v5.len v9 1 fun q20 =>
  (bindV (.val (.one .slice)) (h.cell q20) fun (x21 : SL) =>
  let x22 : Bool := ltInt v10 (Int.ofNat x21.len)
  (bif x22 then
   let x23 : Int := wrapA .i64 (v7 - 1)
   let x24 : Int := wrapA .i64 (x23 - v9)
   let x25 : Int := wrapA .i64 (v7 - 1)
   let x26 : Int := wrapA .i64 (x25 - v9)
   (ixK v8.a v8.len x26 1 fun q27 =>
   (bindV (.val (.one .slice)) (h.cell q27) fun (x28 : SL) =>
   let x29 : Int := wrapA .i64 (v7 - 1)
   (ixK v5.a v5.len v9 1 fun q30 =>
   (bindV (.val (.one .slice)) (h.cell q30) fun (x31 : SL) =>
   (ixK x31.a x31.len v10 1 fun q32 =>
   (bindV (.val (.one (.int .i64))) (h.cell q32) fun (x33 : Int) =>
   let x34 : Int := wrapA .i64 (x29 - x33)
   let h35 : Heap := h.push (.row [(.int .i64 x34)] .own)
   (bindT (.val (.one .slice)) (appendA E 26 26 (.slice x28.a x28.len x28.cap x28.sz) (.slice (some (h.next, 0)) 1 1 1) h35) fun (x36 : SL) h37 =>
   (ixK v8.a v8.len x24 1 fun q38 =>
   (need (h37.store q38 [(.slice x36.a x36.len x36.cap x36.sz)]) fun h39 =>
   (guardB (bif (sameO (h.cell q32) (.int .i64 x33)) then (bif (sameO (h.cell q30) (.slice x31.a x31.len x31.cap x31.sz)) then (bif (sameO (h35.cell q27) (.slice x28.a x28.len x28.cap x28.sz)) then (bif (sameO (h.cell q27) (.slice x28.a x28.len x28.cap x28.sz)) then true else false) else false) else false) else false) (
   let x40 : Int := wrapA .i64 (v10 + 1)
   go v1 v4 v5 v7 v8 v9 x40 h39)))))))))))
  else
   some ((Out.exit 2), (v1, v4, v5, v7, v8, v9, ()), h))))
noncomputable def f6_l2 (N M : Nat) (v1 : Int) (v4 : Bool) (v5 : SL) (v7 : Int) (v8 : SL) (v9 : Int) (v10 : Int) (h : Heap) : Option (Out × (Int × Bool × SL × Int × SL × Int × Unit) × Heap) := iter (fun go s h => f6_l2_b N (fun v1 v4 v5 v7 v8 v9 v10 h => go (v1, v4, v5, v7, v8, v9, v10, ()) h) s.1 s.2.1 s.2.2.1 s.2.2.2.1 s.2.2.2.2.1 s.2.2.2.2.2.1 s.2.2.2.2.2.2.1 h) M (v1, v4, v5, v7, v8, v9, v10, ()) h
theorem f6_l2_succ (N M : Nat) (v1 : Int) (v4 : Bool) (v5 : SL) (v7 : Int) (v8 : SL) (v9 : Int) (v10 : Int) (h : Heap) : f6_l2 N (M + 1) v1 v4 v5 v7 v8 v9 v10 h = f6_l2_b N (f6_l2 N M) v1 v4 v5 v7 v8 v9 v10 h := rfl
theorem f6_l2_zero (N : Nat) (v1 : Int) (v4 : Bool) (v5 : SL) (v7 : Int) (v8 : SL) (v9 : Int) (v10 : Int) (h : Heap) : f6_l2 N 0 v1 v4 v5 v7 v8 v9 v10 h = none := rfl
noncomputable def f6_l1_b (N : Nat) (go : Int → Bool → SL → Int → SL → Int → Heap → Option (Out × (Int × Bool × SL × Int × SL × Unit) × Heap)) (v1 : Int) (v4 : Bool) (v5 : SL) (v7 : Int) (v8 : SL) (v9 : Int) (h : Heap) : Option (Out × (Int × Bool × SL × Int × SL × Unit) × Heap) :=
  let x14 : Bool := ltInt v9 v7
  (bif x14 then
   (ixK v5.a v5.len v9 1 fun q15 =>
   (bindV (.val (.one .slice)) (h.cell q15) fun (x16 : SL) =>
   let x17 : Bool := ltInt 64 (Int.ofNat x16.len)
   (bif x17 then
    (bind2 (f11 N  h) fun (x18 : Bool) h19 =>
    some (Out.ret, (v1, x18, v5, v7, v8, ()), h19))
   else
    (bind3 (f6_l2 N N v1 v4 v5 v7 v8 v9 0 h) fun _ (j42 : (Int × Bool × SL × Int × SL × Int × Unit)) h43 =>
    let x44 : Int := wrapA .i64 (j42.2.2.2.2.2.1 + 1)
    go j42.1 j42.2.1 j42.2.2.1 j42.2.2.2.1 j42.2.2.2.2.1 x44 h43))))
  else
   some ((Out.exit 0), (v1, v4, v5, v7, v8, ()), h))
noncomputable def f6_l1 (N M : Nat) (v1 : Int) (v4 : Bool) (v5 : SL) (v7 : Int) (v8 : SL) (v9 : Int) (h : Heap) : Option (Out × (Int × Bool × SL × Int × SL × Unit) × Heap) := iter (fun go s h => f6_l1_b N (fun v1 v4 v5 v7 v8 v9 h => go (v1, v4, v5, v7, v8, v9, ()) h) s.1 s.2.1 s.2.2.1 s.2.2.2.1 s.2.2.2.2.1 s.2.2.2.2.2.1 h) M (v1, v4, v5, v7, v8, v9, ()) h
theorem f6_l1_succ (N M : Nat) (v1 : Int) (v4 : Bool) (v5 : SL) (v7 : Int) (v8 : SL) (v9 : Int) (h : Heap) : f6_l1 N (M + 1) v1 v4 v5 v7 v8 v9 h = f6_l1_b N (f6_l1 N M) v1 v4 v5 v7 v8 v9 h := rfl
theorem f6_l1_zero (N : Nat) (v1 : Int) (v4 : Bool) (v5 : SL) (v7 : Int) (v8 : SL) (v9 : Int) (h : Heap) : f6_l1 N 0 v1 v4 v5 v7 v8 v9 h = none := rfl
noncomputable def f6 (N : Nat) (a0 : SL) (a1 : Int) (h : Heap) : Option (Bool × Heap) :=
  (bind2 (f10 N a0 false h) fun (x1 : (SL × Bool × Unit)) h2 =>
  let x3 : Bool := !x1.2.1
  (bif x3 then
   (bind2 (f11 N  h2) fun (x4 : Bool) h5 =>
   some (x4, h5))
  else
   let x6 : Bool := eqInt (Int.ofNat x1.1.len) 0
   (bif x6 then
    (bind2 (f11 N  h2) fun (x7 : Bool) h8 =>
    some (x7, h8))
   else
    let x9 : Bool := ltInt 64 (Int.ofNat x1.1.len)
    (bif x9 then
     (bind2 (f11 N  h2) fun (x10 : Bool) h11 =>
     some (x10, h11))
    else
     (bindT (.val (.one .slice)) (makeSliceA E 22 (.int .i64 (Int.ofNat x1.1.len)) (.int .i64 (Int.ofNat x1.1.len)) h2) fun (x12 : SL) h13 =>
     (bind3 (f6_l1 N N a1 false x1.1 (Int.ofNat x1.1.len) x12 0 h13) fun o45 (j46 : (Int × Bool × SL × Int × SL × Unit)) h47 =>
     (bif eqOut o45 (.exit 0) then
      (bind2 (f16 N j46.2.2.1 h47) fun (x48 : (SL × AV × Unit)) h49 =>
      (bind2 (f16 N j46.2.2.2.2.1 h49) fun (x50 : (SL × AV × Unit)) h51 =>
      (bind2 (f23 N x48.2.1 h51) fun (x52 : (Int × Int × Unit)) h53 =>
      (bind2 (f23 N x50.2.1 h53) fun (x54 : (Int × Int × Unit)) h55 =>
      let x56 : Bool := !eqInt x52.1 x54.1
      (bif x56 then
       some (false, h55)
      else
       let x57 : Bool := !eqInt (Int.ofNat x48.1.len) (Int.ofNat x50.1.len)
       (bif x57 then
        some (false, h55)
       else
        (bind3 (f6_l3 N N j46.1 j46.2.1 j46.2.2.1 j46.2.2.2.1 j46.2.2.2.2.1 x48.1 x50.1 0 h55) fun o67 (j68 : (Int × Bool × SL × Int × SL × Unit)) h69 =>
        (bif eqOut o67 (.exit 4) then
         let x70 : Int := wrapA .u64 j68.1
         let x71 : Int := wrapA .u64 j68.2.2.2.1
         (bindV (.val (.one (.int .u64))) (binInt .rem .u64 x70 x71) fun (x72 : Int) =>
         let x73 : Int := wrapA .i64 x72
         (bind2 (f12 N j68.2.2.1 x73 h69) fun (x74 : SL) h75 =>
         let x76 : Int := wrapA .i64 (j68.2.2.2.1 - 1)
         let x77 : Int := wrapA .i64 (x76 - x73)
         (bind2 (f12 N j68.2.2.2.2.1 x77 h75) fun (x78 : SL) h79 =>
         (bind3 (f6_l4 N N j68.2.1 j68.2.2.2.1 x74 x78 0 h79) fun o92 (j93 : (Bool × SL × SL × Unit)) h94 =>
         (bif eqOut o92 (.exit 6) then
          (bind2 (f11 N  h94) fun (x95 : Bool) h96 =>
          (bif x95 then
           let x97 : Bool := eqInt (Int.ofNat j93.2.1.len) (Int.ofNat j93.2.2.1.len)
           some (x97, h96)
          else
           some (false, h96)))
         else
          some (j93.1, h94))))))
        else
         some (j68.2.1, h69)))))))))
     else
      some (j46.2.1, h47))))))))
noncomputable def ann6 : Ann := (.two .n (.two .n (.two .n (.two .n (.two .n (.two (.two .n (.two (.loop [(1, (.one (.int .i64))), (4, (.one .bool)), (5, (.one .slice)), (7, (.one (.int .i64))), (8, (.one .slice)), (9, (.one (.int .i64)))] [(.exit 0), .ret] [(1, (.one (.int .i64))), (4, (.one .bool)), (5, (.one .slice)), (7, (.one (.int .i64))), (8, (.one .slice))] (.two .n (.two (.two (.two .n (.two .n (.two (.loop [(1, (.one (.int .i64))), (4, (.one .bool)), (5, (.one .slice)), (7, (.one (.int .i64))), (8, (.one .slice)), (9, (.one (.int .i64))), (10, (.one (.int .i64)))] [(.exit 2)] [(1, (.one (.int .i64))), (4, (.one .bool)), (5, (.one .slice)), (7, (.one (.int .i64))), (8, (.one .slice)), (9, (.one (.int .i64)))] .n) .n))) .n) .n))) .n)) (.two .n (.two .n (.two .n (.two .n (.two .n (.two (.two .n (.two (.loop [(1, (.one (.int .i64))), (4, (.one .bool)), (5, (.one .slice)), (7, (.one (.int .i64))), (8, (.one .slice)), (11, (.one .slice)), (13, (.one .slice)), (19, (.one (.int .i64)))] [(.exit 4), .ret] [(1, (.one (.int .i64))), (4, (.one .bool)), (5, (.one .slice)), (7, (.one (.int .i64))), (8, (.one .slice))] .n) .n)) (.two .n (.two .n (.two (.two .n (.two (.loop [(4, (.one .bool)), (7, (.one (.int .i64))), (21, (.one .slice)), (22, (.one .slice)), (23, (.one (.int .i64)))] [(.exit 6), .ret] [(4, (.one .bool)), (21, (.one .slice)), (22, (.one .slice))] .n) .n)) .n)))))))))))))))
theorem f6_ok (N : Nat) : FnOK Try.prog 6 [(.one .slice), (.one (.int .i64))] (.val (.one .bool)) (fun x h => f6 N x.1 x.2.1 h) :=
  runK_ok envOK hmix (addCall_ok (f23_ok N) (addCall_ok (f16_ok N) (addCall_ok (f12_ok N) (addCall_ok (f11_ok N) (addCall_ok (f10_ok N) noCalls_ok))))) (N := N) (x := ann6) (fn := Try.f6) (c := Try.f6.body.getD .skip) (by kernel_rfl) (by kernel_rfl) (by kernel_rfl) (by kernel_rfl) (fun _ _ => by kernel_rfl)

/- usufruct/graph.back -/
noncomputable def f44_l4_b (N : Nat) (go : SL → SL → Int → Int → SL → Int → Int → SL → Int → Int → Heap → Option (Out × (SL × SL × Int × SL × Int × Int × Unit) × Heap)) (v0 : SL) (v5 : SL) (v7 : Int) (v8 : Int) (v33 : SL) (v34 : Int) (v35 : Int) (v40 : SL) (v41 : Int) (v42 : Int) (h : Heap) : Option (Out × (SL × SL × Int × SL × Int × Int × Unit) × Heap) :=
  let x16 : Bool := ltInt v42 v41
  (bif x16 then
   (ixK v40.a v40.len v42 1 fun q17 =>
   (bindV (.val (.one (.int .i64))) (h.cell q17) fun (x18 : Int) =>
   (ixK v5.a v5.len v8 1 fun q19 =>
   (bindV (.val (.one (.int .i64))) (h.cell q19) fun (x20 : Int) =>
   let x21 : Bool := ltInt x20 0
   (bif x21 then
    (ixK v5.a v5.len x18 1 fun q22 =>
    (bindV (.val (.one (.int .i64))) (h.cell q22) fun (x23 : Int) =>
    let x24 : Bool := eqInt x23 v7
    (bif x24 then
     let x25 : Int := wrapA .i64 (v7 + 1)
     (ixK v5.a v5.len v8 1 fun q26 =>
     (need (h.store q26 [(.int .i64 x25)]) fun h27 =>
     let x28 : Int := wrapA .i64 (v42 + 1)
     go v0 v5 v7 v8 v33 v34 v35 v40 v41 x28 h27))
    else
     let x29 : Int := wrapA .i64 (v42 + 1)
     go v0 v5 v7 v8 v33 v34 v35 v40 v41 x29 h)))
   else
    let x30 : Int := wrapA .i64 (v42 + 1)
    go v0 v5 v7 v8 v33 v34 v35 v40 v41 x30 h)))))
  else
   some ((Out.exit 6), (v0, v5, v7, v33, v34, v35, ()), h))
noncomputable def f44_l4 (N M : Nat) (v0 : SL) (v5 : SL) (v7 : Int) (v8 : Int) (v33 : SL) (v34 : Int) (v35 : Int) (v40 : SL) (v41 : Int) (v42 : Int) (h : Heap) : Option (Out × (SL × SL × Int × SL × Int × Int × Unit) × Heap) := iter (fun go s h => f44_l4_b N (fun v0 v5 v7 v8 v33 v34 v35 v40 v41 v42 h => go (v0, v5, v7, v8, v33, v34, v35, v40, v41, v42, ()) h) s.1 s.2.1 s.2.2.1 s.2.2.2.1 s.2.2.2.2.1 s.2.2.2.2.2.1 s.2.2.2.2.2.2.1 s.2.2.2.2.2.2.2.1 s.2.2.2.2.2.2.2.2.1 s.2.2.2.2.2.2.2.2.2.1 h) M (v0, v5, v7, v8, v33, v34, v35, v40, v41, v42, ()) h
theorem f44_l4_succ (N M : Nat) (v0 : SL) (v5 : SL) (v7 : Int) (v8 : Int) (v33 : SL) (v34 : Int) (v35 : Int) (v40 : SL) (v41 : Int) (v42 : Int) (h : Heap) : f44_l4 N (M + 1) v0 v5 v7 v8 v33 v34 v35 v40 v41 v42 h = f44_l4_b N (f44_l4 N M) v0 v5 v7 v8 v33 v34 v35 v40 v41 v42 h := rfl
theorem f44_l4_zero (N : Nat) (v0 : SL) (v5 : SL) (v7 : Int) (v8 : Int) (v33 : SL) (v34 : Int) (v35 : Int) (v40 : SL) (v41 : Int) (v42 : Int) (h : Heap) : f44_l4 N 0 v0 v5 v7 v8 v33 v34 v35 v40 v41 v42 h = none := rfl
noncomputable def f44_l3_b (N : Nat) (go : SL → SL → Int → SL → Int → Int → Heap → Option (Out × (SL × SL × Int × Unit) × Heap)) (v0 : SL) (v5 : SL) (v7 : Int) (v33 : SL) (v34 : Int) (v35 : Int) (h : Heap) : Option (Out × (SL × SL × Int × Unit) × Heap) :=
  let x13 : Bool := ltInt v35 v34
  (bif x13 then
   (ixK v33.a v33.len v35 1 fun q14 =>
   (bindV (.val (.one .slice)) (h.cell q14) fun (x15 : SL) =>
   (bind3 (f44_l4 N N v0 v5 v7 v35 v33 v34 v35 x15 (Int.ofNat x15.len) 0 h) fun _ (j32 : (SL × SL × Int × SL × Int × Int × Unit)) h33 =>
   let x34 : Int := wrapA .i64 (j32.2.2.2.2.2.1 + 1)
   go j32.1 j32.2.1 j32.2.2.1 j32.2.2.2.1 j32.2.2.2.2.1 x34 h33)))
  else
   some ((Out.exit 4), (v0, v5, v7, ()), h))
noncomputable def f44_l3 (N M : Nat) (v0 : SL) (v5 : SL) (v7 : Int) (v33 : SL) (v34 : Int) (v35 : Int) (h : Heap) : Option (Out × (SL × SL × Int × Unit) × Heap) := iter (fun go s h => f44_l3_b N (fun v0 v5 v7 v33 v34 v35 h => go (v0, v5, v7, v33, v34, v35, ()) h) s.1 s.2.1 s.2.2.1 s.2.2.2.1 s.2.2.2.2.1 s.2.2.2.2.2.1 h) M (v0, v5, v7, v33, v34, v35, ()) h
theorem f44_l3_succ (N M : Nat) (v0 : SL) (v5 : SL) (v7 : Int) (v33 : SL) (v34 : Int) (v35 : Int) (h : Heap) : f44_l3 N (M + 1) v0 v5 v7 v33 v34 v35 h = f44_l3_b N (f44_l3 N M) v0 v5 v7 v33 v34 v35 h := rfl
theorem f44_l3_zero (N : Nat) (v0 : SL) (v5 : SL) (v7 : Int) (v33 : SL) (v34 : Int) (v35 : Int) (h : Heap) : f44_l3 N 0 v0 v5 v7 v33 v34 v35 h = none := rfl
noncomputable def f44_l2_b (N : Nat) (go : SL → SL → Int → Heap → Option (Out × (SL × Unit) × Heap)) (v0 : SL) (v5 : SL) (v7 : Int) (h : Heap) : Option (Out × (SL × Unit) × Heap) :=
  let x12 : Bool := ltInt v7 (Int.ofNat v0.len)
  (bif x12 then
   (bind3 (f44_l3 N N v0 v5 v7 v0 (Int.ofNat v0.len) 0 h) fun _ (j36 : (SL × SL × Int × Unit)) h37 =>
   let x38 : Int := wrapA .i64 (j36.2.2.1 + 1)
   go j36.1 j36.2.1 x38 h37)
  else
   some ((Out.exit 2), (v5, ()), h))
noncomputable def f44_l2 (N M : Nat) (v0 : SL) (v5 : SL) (v7 : Int) (h : Heap) : Option (Out × (SL × Unit) × Heap) := iter (fun go s h => f44_l2_b N (fun v0 v5 v7 h => go (v0, v5, v7, ()) h) s.1 s.2.1 s.2.2.1 h) M (v0, v5, v7, ()) h
theorem f44_l2_succ (N M : Nat) (v0 : SL) (v5 : SL) (v7 : Int) (h : Heap) : f44_l2 N (M + 1) v0 v5 v7 h = f44_l2_b N (f44_l2 N M) v0 v5 v7 h := rfl
theorem f44_l2_zero (N : Nat) (v0 : SL) (v5 : SL) (v7 : Int) (h : Heap) : f44_l2 N 0 v0 v5 v7 h = none := rfl
noncomputable def f44_l1_b (N : Nat) (go : SL → Int → SL → Int → Int → Heap → Option (Out × (SL × Int × SL × Unit) × Heap)) (v0 : SL) (v1 : Int) (v5 : SL) (v16 : Int) (v17 : Int) (h : Heap) : Option (Out × (SL × Int × SL × Unit) × Heap) :=
  let x3 : Bool := ltInt v17 v16
  (bif x3 then
   (ixK v5.a v5.len v17 1 fun q4 =>
   (need (h.store q4 [(.int .i64 (-1))]) fun h5 =>
   let x6 : Int := wrapA .i64 (v17 + 1)
   go v0 v1 v5 v16 x6 h5))
  else
   some ((Out.exit 0), (v0, v1, v5, ()), h))
noncomputable def f44_l1 (N M : Nat) (v0 : SL) (v1 : Int) (v5 : SL) (v16 : Int) (v17 : Int) (h : Heap) : Option (Out × (SL × Int × SL × Unit) × Heap) := iter (fun go s h => f44_l1_b N (fun v0 v1 v5 v16 v17 h => go (v0, v1, v5, v16, v17, ()) h) s.1 s.2.1 s.2.2.1 s.2.2.2.1 s.2.2.2.2.1 h) M (v0, v1, v5, v16, v17, ()) h
theorem f44_l1_succ (N M : Nat) (v0 : SL) (v1 : Int) (v5 : SL) (v16 : Int) (v17 : Int) (h : Heap) : f44_l1 N (M + 1) v0 v1 v5 v16 v17 h = f44_l1_b N (f44_l1 N M) v0 v1 v5 v16 v17 h := rfl
theorem f44_l1_zero (N : Nat) (v0 : SL) (v1 : Int) (v5 : SL) (v16 : Int) (v17 : Int) (h : Heap) : f44_l1 N 0 v0 v1 v5 v16 v17 h = none := rfl
noncomputable def f44 (N : Nat) (a0 : SL) (a1 : Int) (h : Heap) : Option (SL × Heap) :=
  (bindT (.val (.one .slice)) (makeSliceA E 26 (.int .i64 (Int.ofNat a0.len)) (.int .i64 (Int.ofNat a0.len)) h) fun (x1 : SL) h2 =>
  (bind3 (f44_l1 N N a0 a1 x1 (Int.ofNat x1.len) 0 h2) fun _ (j8 : (SL × Int × SL × Unit)) h9 =>
  (ixK j8.2.2.1.a j8.2.2.1.len j8.2.1 1 fun q10 =>
  (need (h9.store q10 [(.int .i64 0)]) fun h11 =>
  (bind3 (f44_l2 N N j8.1 j8.2.2.1 0 h11) fun _ (j40 : (SL × Unit)) h41 =>
  some (j40.1, h41))))))
noncomputable def ann44 : Ann := (.two .n (.two .n (.two (.two .n (.two (.loop [(0, (.one .slice)), (1, (.one (.int .i64))), (5, (.one .slice)), (16, (.one (.int .i64))), (17, (.one (.int .i64)))] [(.exit 0)] [(0, (.one .slice)), (1, (.one (.int .i64))), (5, (.one .slice))] .n) .n)) (.two .n (.two (.two .n (.two (.loop [(0, (.one .slice)), (5, (.one .slice)), (7, (.one (.int .i64)))] [(.exit 2)] [(5, (.one .slice))] (.two .n (.two (.two (.two .n (.two (.loop [(0, (.one .slice)), (5, (.one .slice)), (7, (.one (.int .i64))), (33, (.one .slice)), (34, (.one (.int .i64))), (35, (.one (.int .i64)))] [(.exit 4)] [(0, (.one .slice)), (5, (.one .slice)), (7, (.one (.int .i64)))] (.two .n (.two .n (.two (.two (.two .n (.two .n (.two (.loop [(0, (.one .slice)), (5, (.one .slice)), (7, (.one (.int .i64))), (8, (.one (.int .i64))), (33, (.one .slice)), (34, (.one (.int .i64))), (35, (.one (.int .i64))), (40, (.one .slice)), (41, (.one (.int .i64))), (42, (.one (.int .i64)))] [(.exit 6)] [(0, (.one .slice)), (5, (.one .slice)), (7, (.one (.int .i64))), (33, (.one .slice)), (34, (.one (.int .i64))), (35, (.one (.int .i64)))] .n) .n))) .n) .n)))) .n)) .n) .n))) .n)) .n)))))
theorem f44_ok (N : Nat) : FnOK Try.prog 44 [(.one .slice), (.one (.int .i64))] (.val (.one .slice)) (fun x h => f44 N x.1 x.2.1 h) :=
  runK_ok envOK hmix noCalls_ok (N := N) (x := ann44) (fn := Try.f44) (c := Try.f44.body.getD .skip) (by kernel_rfl) (by kernel_rfl) (by kernel_rfl) (by kernel_rfl) (fun _ _ => by kernel_rfl)

/- usufruct/graph.Ring -/
noncomputable def f20_l2_b (N : Nat) (go : SL → SL → Int → SL → SL → Int → SL → Int → Int → Heap → Option (Out × (SL × SL × Int × SL × SL × Int × Unit) × Heap)) (v0 : SL) (v2 : SL) (v3 : Int) (v4 : SL) (v5 : SL) (v7 : Int) (v26 : SL) (v27 : Int) (v28 : Int) (h : Heap) : Option (Out × (SL × SL × Int × SL × SL × Int × Unit) × Heap) :=
  let x12 : Bool := ltInt v28 v27
  (bif x12 then
   (ixK v26.a v26.len v28 1 fun q13 =>
   (bindV (.val (.one (.int .i64))) (h.cell q13) fun (x14 : Int) =>
   (ixK v4.a v4.len x14 1 fun q15 =>
   (bindV (.val (.one (.int .i64))) (h.cell q15) fun (x16 : Int) =>
   let x17 : Bool := leInt 0 x16
   (bif x17 then
    let x18 : Bool := ltInt v7 0
    (bif x18 then
     let x19 : Int := wrapA .i64 (v28 + 1)
     go v0 v2 v3 v4 v5 x14 v26 v27 x19 h
    else
     (ixK v4.a v4.len x14 1 fun q20 =>
     (bindV (.val (.one (.int .i64))) (h.cell q20) fun (x21 : Int) =>
     (ixK v4.a v4.len v7 1 fun q22 =>
     (bindV (.val (.one (.int .i64))) (h.cell q22) fun (x23 : Int) =>
     let x24 : Bool := ltInt x21 x23
     (bif x24 then
      let x25 : Int := wrapA .i64 (v28 + 1)
      go v0 v2 v3 v4 v5 x14 v26 v27 x25 h
     else
      (ixK v4.a v4.len x14 1 fun q26 =>
      (bindV (.val (.one (.int .i64))) (h.cell q26) fun (x27 : Int) =>
      (ixK v4.a v4.len v7 1 fun q28 =>
      (bindV (.val (.one (.int .i64))) (h.cell q28) fun (x29 : Int) =>
      let x30 : Bool := eqInt x27 x29
      (bif x30 then
       let x31 : Bool := ltInt x14 v7
       (bif x31 then
        let x32 : Int := wrapA .i64 (v28 + 1)
        go v0 v2 v3 v4 v5 x14 v26 v27 x32 h
       else
        let x33 : Int := wrapA .i64 (v28 + 1)
        go v0 v2 v3 v4 v5 v7 v26 v27 x33 h)
      else
       let x34 : Int := wrapA .i64 (v28 + 1)
       go v0 v2 v3 v4 v5 v7 v26 v27 x34 h)))))))))))
   else
    let x35 : Int := wrapA .i64 (v28 + 1)
    go v0 v2 v3 v4 v5 v7 v26 v27 x35 h)))))
  else
   some ((Out.exit 2), (v0, v2, v3, v4, v5, v7, ()), h))
noncomputable def f20_l2 (N M : Nat) (v0 : SL) (v2 : SL) (v3 : Int) (v4 : SL) (v5 : SL) (v7 : Int) (v26 : SL) (v27 : Int) (v28 : Int) (h : Heap) : Option (Out × (SL × SL × Int × SL × SL × Int × Unit) × Heap) := iter (fun go s h => f20_l2_b N (fun v0 v2 v3 v4 v5 v7 v26 v27 v28 h => go (v0, v2, v3, v4, v5, v7, v26, v27, v28, ()) h) s.1 s.2.1 s.2.2.1 s.2.2.2.1 s.2.2.2.2.1 s.2.2.2.2.2.1 s.2.2.2.2.2.2.1 s.2.2.2.2.2.2.2.1 s.2.2.2.2.2.2.2.2.1 h) M (v0, v2, v3, v4, v5, v7, v26, v27, v28, ()) h
theorem f20_l2_succ (N M : Nat) (v0 : SL) (v2 : SL) (v3 : Int) (v4 : SL) (v5 : SL) (v7 : Int) (v26 : SL) (v27 : Int) (v28 : Int) (h : Heap) : f20_l2 N (M + 1) v0 v2 v3 v4 v5 v7 v26 v27 v28 h = f20_l2_b N (f20_l2 N M) v0 v2 v3 v4 v5 v7 v26 v27 v28 h := rfl
theorem f20_l2_zero (N : Nat) (v0 : SL) (v2 : SL) (v3 : Int) (v4 : SL) (v5 : SL) (v7 : Int) (v26 : SL) (v27 : Int) (v28 : Int) (h : Heap) : f20_l2 N 0 v0 v2 v3 v4 v5 v7 v26 v27 v28 h = none := rfl
noncomputable def f20_l1_b (N : Nat) (go : SL → SL → Int → SL → SL → Int → Heap → Option (Out × (SL × Unit) × Heap)) (v0 : SL) (v2 : SL) (v3 : Int) (v4 : SL) (v5 : SL) (v6 : Int) (h : Heap) : Option (Out × (SL × Unit) × Heap) :=
  (ixK v0.a v0.len v6 1 fun q10 =>
  (bindV (.val (.one .slice)) (h.cell q10) fun (x11 : SL) =>
  (bind3 (f20_l2 N N v0 v2 v3 v4 v5 (-1) x11 (Int.ofNat x11.len) 0 h) fun _ (j37 : (SL × SL × Int × SL × SL × Int × Unit)) h38 =>
  let x39 : Bool := eqInt j37.2.2.2.2.2.1 j37.2.2.1
  (bif x39 then
   some (Out.ret, (j37.2.2.2.2.1, ()), h38)
  else
   let x40 : Bool := ltInt j37.2.2.2.2.2.1 0
   (bif x40 then
    some (Out.ret, (j37.2.2.2.2.1, ()), h38)
   else
    let h41 : Heap := h38.push (.row [(.int .i64 j37.2.2.2.2.2.1)] .own)
    (bindT (.val (.one .slice)) (appendA E 26 26 (.slice j37.2.2.2.2.1.a j37.2.2.2.2.1.len j37.2.2.2.2.1.cap j37.2.2.2.2.1.sz) (.slice (some (h38.next, 0)) 1 1 1) h41) fun (x42 : SL) h43 =>
    go j37.1 j37.2.1 j37.2.2.1 j37.2.2.2.1 x42 j37.2.2.2.2.2.1 h43))))))
noncomputable def f20_l1 (N M : Nat) (v0 : SL) (v2 : SL) (v3 : Int) (v4 : SL) (v5 : SL) (v6 : Int) (h : Heap) : Option (Out × (SL × Unit) × Heap) := iter (fun go s h => f20_l1_b N (fun v0 v2 v3 v4 v5 v6 h => go (v0, v2, v3, v4, v5, v6, ()) h) s.1 s.2.1 s.2.2.1 s.2.2.2.1 s.2.2.2.2.1 s.2.2.2.2.2.1 h) M (v0, v2, v3, v4, v5, v6, ()) h
theorem f20_l1_succ (N M : Nat) (v0 : SL) (v2 : SL) (v3 : Int) (v4 : SL) (v5 : SL) (v6 : Int) (h : Heap) : f20_l1 N (M + 1) v0 v2 v3 v4 v5 v6 h = f20_l1_b N (f20_l1 N M) v0 v2 v3 v4 v5 v6 h := rfl
theorem f20_l1_zero (N : Nat) (v0 : SL) (v2 : SL) (v3 : Int) (v4 : SL) (v5 : SL) (v6 : Int) (h : Heap) : f20_l1 N 0 v0 v2 v3 v4 v5 v6 h = none := rfl
noncomputable def f20 (N : Nat) (a0 : SL) (h : Heap) : Option (SL × Heap) :=
  (bind2 (f38 N a0 h) fun (x1 : AV) h2 =>
  (bindV (.val (.one .bool)) (binA E .neq 32 (.tmp 11) (.const .nilIface) x1 AV.nilIface) fun (x3 : Bool) =>
  (bif x3 then
   some (⟨none, 0, 0, 0⟩, h2)
  else
   (bind2 (f43 N a0 h2) fun (x4 : Int) h5 =>
   let x6 : Bool := ltInt x4 0
   (bif x6 then
    some (⟨none, 0, 0, 0⟩, h5)
   else
    (bind2 (f44 N a0 x4 h5) fun (x7 : SL) h8 =>
    let h9 : Heap := h8.push (.row [(.int .i64 x4)] .own)
    (bind3 (f20_l1 N N a0 ⟨none, 0, 0, 0⟩ x4 x7 ⟨(some (h8.next, 0)), 1, 1, 1⟩ x4 h9) fun _ (j45 : (SL × Unit)) h46 =>
    some (j45.1, h46))))))))
noncomputable def ann20 : Ann := (.two .n (.two .n (.two .n (.two .n (.two .n (.two .n (.two .n (.two (.loop [(0, (.one .slice)), (2, (.one .slice)), (3, (.one (.int .i64))), (4, (.one .slice)), (5, (.one .slice)), (6, (.one (.int .i64)))] [.ret] [(2, (.one .slice))] (.two (.two .n (.two (.two .n (.two (.loop [(0, (.one .slice)), (2, (.one .slice)), (3, (.one (.int .i64))), (4, (.one .slice)), (5, (.one .slice)), (7, (.one (.int .i64))), (26, (.one .slice)), (27, (.one (.int .i64))), (28, (.one (.int .i64)))] [(.exit 2)] [(0, (.one .slice)), (2, (.one .slice)), (3, (.one (.int .i64))), (4, (.one .slice)), (5, (.one .slice)), (7, (.one (.int .i64)))] .n) .n)) .n)) .n)) .n))))))))
theorem f20_ok (N : Nat) : FnOK Try.prog 20 [(.one .slice)] (.val (.one .slice)) (fun x h => f20 N x.1 h) :=
  runK_ok envOK hmix (addCall_ok (f44_ok N) (addCall_ok (f43_ok N) (addCall_ok (f38_ok N) noCalls_ok))) (N := N) (x := ann20) (fn := Try.f20) (c := Try.f20.body.getD .skip) (by kernel_rfl) (by kernel_rfl) (by kernel_rfl) (by kernel_rfl) (fun _ _ => by kernel_rfl)

/- usufruct/usufructlaw11.GraphOnce -/
noncomputable def f5_l4_b (N : Nat) (go : Bool → SL → SL → SL → SL → Int → Int → Heap → Option (Out × (Bool × SL × SL × SL × SL × Int × Unit) × Heap)) (v2 : Bool) (v3 : SL) (v6 : SL) (v13 : SL) (v15 : SL) (v16 : Int) (v17 : Int) (h : Heap) : Option (Out × (Bool × SL × SL × SL × SL × Int × Unit) × Heap) :=
  (ixK v6.a v6.len v16 1 fun q88 =>
  (bindV (.val (.one (.int .i64))) (h.cell q88) fun (x89 : Int) =>
  (ixK v3.a v3.len x89 1 fun q90 =>
  (bindV (.val (.one .slice)) (h.cell q90) fun (x91 : SL) =>
  let x92 : Bool := ltInt v17 (Int.ofNat x91.len)
  (bif x92 then
   (ixK v6.a v6.len v16 1 fun q93 =>
   (bindV (.val (.one (.int .i64))) (h.cell q93) fun (x94 : Int) =>
   (ixK v3.a v3.len x94 1 fun q95 =>
   (bindV (.val (.one .slice)) (h.cell q95) fun (x96 : SL) =>
   (ixK x96.a x96.len v17 1 fun q97 =>
   (bindV (.val (.one (.int .i64))) (h.cell q97) fun (x98 : Int) =>
   (ixK v15.a v15.len x98 1 fun q99 =>
   (bindV (.val (.one .bool)) (h.cell q99) fun (x100 : Bool) =>
   let x101 : Bool := !x100
   (bif x101 then
    some (Out.ret, (false, v3, v6, v13, v15, v16, ()), h)
   else
    (ixK v6.a v6.len v16 1 fun q102 =>
    (bindV (.val (.one (.int .i64))) (h.cell q102) fun (x103 : Int) =>
    (ixK v3.a v3.len x103 1 fun q104 =>
    (bindV (.val (.one .slice)) (h.cell q104) fun (x105 : SL) =>
    (ixK x105.a x105.len v17 1 fun q106 =>
    (bindV (.val (.one (.int .i64))) (h.cell q106) fun (x107 : Int) =>
    (ixK v13.a v13.len x107 1 fun q108 =>
    (bindV (.val (.one (.int .i64))) (h.cell q108) fun (x109 : Int) =>
    (ixK v6.a v6.len v16 1 fun q110 =>
    (bindV (.val (.one (.int .i64))) (h.cell q110) fun (x111 : Int) =>
    (ixK v13.a v13.len x111 1 fun q112 =>
    (bindV (.val (.one (.int .i64))) (h.cell q112) fun (x113 : Int) =>
    let x114 : Bool := leInt x113 x109
    (bif x114 then
     some (Out.ret, (false, v3, v6, v13, v15, v16, ()), h)
    else
     let x115 : Int := wrapA .i64 (v17 + 1)
     go v2 v3 v6 v13 v15 v16 x115 h))))))))))))))))))))))
  else
   some ((Out.exit 6), (v2, v3, v6, v13, v15, v16, ()), h))))))
noncomputable def f5_l4 (N M : Nat) (v2 : Bool) (v3 : SL) (v6 : SL) (v13 : SL) (v15 : SL) (v16 : Int) (v17 : Int) (h : Heap) : Option (Out × (Bool × SL × SL × SL × SL × Int × Unit) × Heap) := iter (fun go s h => f5_l4_b N (fun v2 v3 v6 v13 v15 v16 v17 h => go (v2, v3, v6, v13, v15, v16, v17, ()) h) s.1 s.2.1 s.2.2.1 s.2.2.2.1 s.2.2.2.2.1 s.2.2.2.2.2.1 s.2.2.2.2.2.2.1 h) M (v2, v3, v6, v13, v15, v16, v17, ()) h
theorem f5_l4_succ (N M : Nat) (v2 : Bool) (v3 : SL) (v6 : SL) (v13 : SL) (v15 : SL) (v16 : Int) (v17 : Int) (h : Heap) : f5_l4 N (M + 1) v2 v3 v6 v13 v15 v16 v17 h = f5_l4_b N (f5_l4 N M) v2 v3 v6 v13 v15 v16 v17 h := rfl
theorem f5_l4_zero (N : Nat) (v2 : Bool) (v3 : SL) (v6 : SL) (v13 : SL) (v15 : SL) (v16 : Int) (v17 : Int) (h : Heap) : f5_l4 N 0 v2 v3 v6 v13 v15 v16 v17 h = none := rfl
noncomputable def f5_l3_b (N : Nat) (go : Bool → SL → SL → SL → SL → Int → Heap → Option (Out × (Bool × Unit) × Heap)) (v2 : Bool) (v3 : SL) (v6 : SL) (v13 : SL) (v15 : SL) (v16 : Int) (h : Heap) : Option (Out × (Bool × Unit) × Heap) :=
  let x77 : Bool := ltInt v16 (Int.ofNat v6.len)
  (bif x77 then
   (ixK v6.a v6.len v16 1 fun q78 =>
   (bindV (.val (.one (.int .i64))) (h.cell q78) fun (x79 : Int) =>
   let x80 : Bool := ltInt x79 0
   (bif x80 then
    some (Out.ret, (false, ()), h)
   else
    (ixK v6.a v6.len v16 1 fun q81 =>
    (bindV (.val (.one (.int .i64))) (h.cell q81) fun (x82 : Int) =>
    let x83 : Bool := leInt (Int.ofNat v3.len) x82
    (bif x83 then
     some (Out.ret, (false, ()), h)
    else
     (ixK v6.a v6.len v16 1 fun q84 =>
     (bindV (.val (.one (.int .i64))) (h.cell q84) fun (x85 : Int) =>
     (ixK v15.a v15.len x85 1 fun q86 =>
     (bindV (.val (.one .bool)) (h.cell q86) fun (x87 : Bool) =>
     (bif x87 then
      some (Out.ret, (false, ()), h)
     else
      (bind3 (f5_l4 N N v2 v3 v6 v13 v15 v16 0 h) fun o116 (j117 : (Bool × SL × SL × SL × SL × Int × Unit)) h118 =>
      (bif eqOut o116 (.exit 6) then
       (ixK j117.2.2.1.a j117.2.2.1.len j117.2.2.2.2.2.1 1 fun q119 =>
       (bindV (.val (.one (.int .i64))) (h118.cell q119) fun (x120 : Int) =>
       (ixK j117.2.2.2.2.1.a j117.2.2.2.2.1.len x120 1 fun q121 =>
       (need (h118.store q121 [(.bool true)]) fun h122 =>
       let x123 : Int := wrapA .i64 (j117.2.2.2.2.2.1 + 1)
       go j117.1 j117.2.1 j117.2.2.1 j117.2.2.2.1 j117.2.2.2.2.1 x123 h122))))
      else
       some (Out.ret, (j117.1, ()), h118))))))))))))))
  else
   some ((Out.exit 4), (v2, ()), h))
noncomputable def f5_l3 (N M : Nat) (v2 : Bool) (v3 : SL) (v6 : SL) (v13 : SL) (v15 : SL) (v16 : Int) (h : Heap) : Option (Out × (Bool × Unit) × Heap) := iter (fun go s h => f5_l3_b N (fun v2 v3 v6 v13 v15 v16 h => go (v2, v3, v6, v13, v15, v16, ()) h) s.1 s.2.1 s.2.2.1 s.2.2.2.1 s.2.2.2.2.1 s.2.2.2.2.2.1 h) M (v2, v3, v6, v13, v15, v16, ()) h
theorem f5_l3_succ (N M : Nat) (v2 : Bool) (v3 : SL) (v6 : SL) (v13 : SL) (v15 : SL) (v16 : Int) (h : Heap) : f5_l3 N (M + 1) v2 v3 v6 v13 v15 v16 h = f5_l3_b N (f5_l3 N M) v2 v3 v6 v13 v15 v16 h := rfl
theorem f5_l3_zero (N : Nat) (v2 : Bool) (v3 : SL) (v6 : SL) (v13 : SL) (v15 : SL) (v16 : Int) (h : Heap) : f5_l3 N 0 v2 v3 v6 v13 v15 v16 h = none := rfl
noncomputable def f5_l2_b (N : Nat) (go : Bool → SL → SL → Int → Int → Heap → Option (Out × (Bool × Unit) × Heap)) (v2 : Bool) (v3 : SL) (v8 : SL) (v10 : Int) (v11 : Int) (h : Heap) : Option (Out × (Bool × Unit) × Heap) :=
  let x33 : Bool := ltInt v11 (Int.ofNat v8.len)
  (bif x33 then
   let x34 : Int := wrapA .i64 (v11 + 1)
   (bindV (.val (.one (.int .i64))) (binInt .rem .i64 x34 (Int.ofNat v8.len)) fun (x35 : Int) =>
   (ixK v8.a v8.len x35 1 fun q36 =>
   (bindV (.val (.one (.int .i64))) (h.cell q36) fun (x37 : Int) =>
   (ixK v8.a v8.len v11 1 fun q38 =>
   (bindV (.val (.one (.int .i64))) (h.cell q38) fun (x39 : Int) =>
   let x40 : Bool := ltInt x39 0
   (bif x40 then
    (guardB (bif (sameO (h.cell q38) (.int .i64 x39)) then true else false) (
    some (Out.ret, (false, ()), h)))
   else
    (ixK v8.a v8.len v11 1 fun q41 =>
    (bindV (.val (.one (.int .i64))) (h.cell q41) fun (x42 : Int) =>
    let x43 : Bool := leInt (Int.ofNat v3.len) x42
    (bif x43 then
     (guardB (bif (sameO (h.cell q41) (.int .i64 x42)) then (bif (sameO (h.cell q38) (.int .i64 x39)) then true else false) else false) (
     some (Out.ret, (false, ()), h)))
    else
     (ixK v8.a v8.len v11 1 fun q44 =>
     (bindV (.val (.one (.int .i64))) (h.cell q44) fun (x45 : Int) =>
     (ixK v3.a v3.len x45 1 fun q46 =>
     (bindV (.val (.one .slice)) (h.cell q46) fun (x47 : SL) =>
     (bind2 (f13 N x47 x37 h) fun (x48 : Bool) h49 =>
     let x50 : Bool := !x48
     (bif x50 then
      (guardB (bif (sameO (h.cell q46) (.slice x47.a x47.len x47.cap x47.sz)) then (bif (sameO (h.cell q44) (.int .i64 x45)) then (bif (sameO (h.cell q41) (.int .i64 x42)) then (bif (sameO (h.cell q38) (.int .i64 x39)) then true else false) else false) else false) else false) (
      some (Out.ret, (false, ()), h49)))
     else
      (ixK v8.a v8.len v11 1 fun q51 =>
      (bindV (.val (.one (.int .i64))) (h49.cell q51) fun (x52 : Int) =>
      let x53 : Bool := ltInt x52 v10
      (bif x53 then
       (guardB (bif (sameO (h49.cell q51) (.int .i64 x52)) then (bif (sameO (h.cell q46) (.slice x47.a x47.len x47.cap x47.sz)) then (bif (sameO (h.cell q44) (.int .i64 x45)) then (bif (sameO (h.cell q41) (.int .i64 x42)) then (bif (sameO (h.cell q38) (.int .i64 x39)) then true else false) else false) else false) else false) else false) (
       some (Out.ret, (false, ()), h49)))
      else
       (ixK v8.a v8.len v11 1 fun q54 =>
       (bindV (.val (.one (.int .i64))) (h49.cell q54) fun (x55 : Int) =>
       (bind2 (f12 N v3 x55 h49) fun (x56 : SL) h57 =>
       (ixK v8.a v8.len v11 1 fun q58 =>
       (bindV (.val (.one (.int .i64))) (h57.cell q58) fun (x59 : Int) =>
       (bind2 (f13 N x56 x59 h57) fun (x60 : Bool) h61 =>
       let x62 : Bool := !x60
       (guardB (bif (sameO (h57.cell q58) (.int .i64 x59)) then (bif (sameO (h49.cell q58) (.int .i64 x59)) then (bif (sameO (h49.cell q54) (.int .i64 x55)) then (bif (sameO (h49.cell q51) (.int .i64 x52)) then (bif (sameO (h.cell q46) (.slice x47.a x47.len x47.cap x47.sz)) then (bif (sameO (h.cell q44) (.int .i64 x45)) then (bif (sameO (h.cell q41) (.int .i64 x42)) then (bif (sameO (h.cell q38) (.int .i64 x39)) then true else false) else false) else false) else false) else false) else false) else false) else false) (
       (bif x62 then
        some (Out.ret, (false, ()), h61)
       else
        let x63 : Int := wrapA .i64 (v11 + 1)
        go v2 v3 v8 v10 x63 h61)))))))))))))))))))))))))))
  else
   some ((Out.exit 2), (v2, ()), h))
noncomputable def f5_l2 (N M : Nat) (v2 : Bool) (v3 : SL) (v8 : SL) (v10 : Int) (v11 : Int) (h : Heap) : Option (Out × (Bool × Unit) × Heap) := iter (fun go s h => f5_l2_b N (fun v2 v3 v8 v10 v11 h => go (v2, v3, v8, v10, v11, ()) h) s.1 s.2.1 s.2.2.1 s.2.2.2.1 s.2.2.2.2.1 h) M (v2, v3, v8, v10, v11, ()) h
theorem f5_l2_succ (N M : Nat) (v2 : Bool) (v3 : SL) (v8 : SL) (v10 : Int) (v11 : Int) (h : Heap) : f5_l2 N (M + 1) v2 v3 v8 v10 v11 h = f5_l2_b N (f5_l2 N M) v2 v3 v8 v10 v11 h := rfl
theorem f5_l2_zero (N : Nat) (v2 : Bool) (v3 : SL) (v8 : SL) (v10 : Int) (v11 : Int) (h : Heap) : f5_l2 N 0 v2 v3 v8 v10 v11 h = none := rfl
noncomputable def f5_l1_b (N : Nat) (go : Bool → SL → Int → Heap → Option (Out × (Bool × SL × Unit) × Heap)) (v2 : Bool) (v3 : SL) (v5 : Int) (h : Heap) : Option (Out × (Bool × SL × Unit) × Heap) :=
  let x9 : Bool := ltInt v5 (Int.ofNat v3.len)
  (bif x9 then
   (ixK v3.a v3.len v5 1 fun q10 =>
   (bindV (.val (.one .slice)) (h.cell q10) fun (x11 : SL) =>
   let x12 : Bool := ltInt 64 (Int.ofNat x11.len)
   (bif x12 then
    (bind2 (f11 N  h) fun (x13 : Bool) h14 =>
    some (Out.ret, (x13, v3, ()), h14))
   else
    let x15 : Int := wrapA .i64 (v5 + 1)
    go v2 v3 x15 h)))
  else
   some ((Out.exit 0), (v2, v3, ()), h))
noncomputable def f5_l1 (N M : Nat) (v2 : Bool) (v3 : SL) (v5 : Int) (h : Heap) : Option (Out × (Bool × SL × Unit) × Heap) := iter (fun go s h => f5_l1_b N (fun v2 v3 v5 h => go (v2, v3, v5, ()) h) s.1 s.2.1 s.2.2.1 h) M (v2, v3, v5, ()) h
theorem f5_l1_succ (N M : Nat) (v2 : Bool) (v3 : SL) (v5 : Int) (h : Heap) : f5_l1 N (M + 1) v2 v3 v5 h = f5_l1_b N (f5_l1 N M) v2 v3 v5 h := rfl
theorem f5_l1_zero (N : Nat) (v2 : Bool) (v3 : SL) (v5 : Int) (h : Heap) : f5_l1 N 0 v2 v3 v5 h = none := rfl
noncomputable def f5 (N : Nat) (a0 : SL) (h : Heap) : Option (Bool × Heap) :=
  (bind2 (f10 N a0 false h) fun (x1 : (SL × Bool × Unit)) h2 =>
  let x3 : Bool := !x1.2.1
  (bif x3 then
   (bind2 (f11 N  h2) fun (x4 : Bool) h5 =>
   some (x4, h5))
  else
   let x6 : Bool := ltInt 64 (Int.ofNat x1.1.len)
   (bif x6 then
    (bind2 (f11 N  h2) fun (x7 : Bool) h8 =>
    some (x7, h8))
   else
    (bind3 (f5_l1 N N false x1.1 0 h2) fun o16 (j17 : (Bool × SL × Unit)) h18 =>
    (bif eqOut o16 (.exit 0) then
     (bind2 (f14 N j17.2.1 h18) fun (x19 : (SL × AV × Unit)) h20 =>
     (bind2 (f20 N j17.2.1 h20) fun (x21 : SL) h22 =>
     (bindV (.val (.one .bool)) (binA E .neq 32 (.tmp 51) (.const .nilIface) x19.2.1 AV.nilIface) fun (x23 : Bool) =>
     (bif x23 then
      (bind2 (f23 N x19.2.1 h22) fun (x24 : (Int × Int × Unit)) h25 =>
      let x26 : Bool := !eqInt x24.1 42
      (bif x26 then
       some (false, h25)
      else
       let x27 : Bool := !eqInt (Int.ofNat x19.1.len) 0
       (bif x27 then
        some (false, h25)
       else
        let x28 : Bool := eqInt (Int.ofNat x21.len) 0
        (bif x28 then
         some (false, h25)
        else
         let x29 : Bool := ltInt (Int.ofNat j17.2.1.len) (Int.ofNat x21.len)
         (bif x29 then
          some (false, h25)
         else
          (ixK x21.a x21.len 0 1 fun q30 =>
          (bindV (.val (.one (.int .i64))) (h25.cell q30) fun (x31 : Int) =>
          let x32 : Bool := !eqInt x31 x24.2.1
          (bif x32 then
           some (false, h25)
          else
           (bind3 (f5_l2 N N j17.1 j17.2.1 x21 x24.2.1 0 h25) fun o64 (j65 : (Bool × Unit)) h66 =>
           (bif eqOut o64 (.exit 2) then
            (bind2 (f11 N  h66) fun (x67 : Bool) h68 =>
            some (x67, h68))
           else
            some (j65.1, h66)))))))))))
     else
      let x69 : Bool := !eqInt (Int.ofNat x19.1.len) (Int.ofNat j17.2.1.len)
      (bif x69 then
       some (false, h22)
      else
       let x70 : Bool := !eqInt (Int.ofNat x21.len) 0
       (bif x70 then
        some (false, h22)
       else
        (bind2 (f16 N j17.2.1 h22) fun (x71 : (SL × AV × Unit)) h72 =>
        (bindV (.val (.one .bool)) (binA E .neq 32 (.tmp 162) (.const .nilIface) x71.2.1 AV.nilIface) fun (x73 : Bool) =>
        (bif x73 then
         some (false, h72)
        else
         let x74 : Bool := !eqInt (Int.ofNat x71.1.len) (Int.ofNat j17.2.1.len)
         (bif x74 then
          some (false, h72)
         else
          (bindT (.val (.one .slice)) (makeSliceA E 43 (.int .i64 (Int.ofNat j17.2.1.len)) (.int .i64 (Int.ofNat j17.2.1.len)) h72) fun (x75 : SL) h76 =>
          (bind3 (f5_l3 N N j17.1 j17.2.1 x19.1 x71.1 x75 0 h76) fun o124 (j125 : (Bool × Unit)) h126 =>
          (bif eqOut o124 (.exit 4) then
           (bind2 (f11 N  h126) fun (x127 : Bool) h128 =>
           some (x127, h128))
          else
           some (j125.1, h126))))))))))))))
    else
     some (j17.1, h18))))))
noncomputable def ann5 : Ann := (.two .n (.two .n (.two .n (.two (.two .n (.two (.loop [(2, (.one .bool)), (3, (.one .slice)), (5, (.one (.int .i64)))] [(.exit 0), .ret] [(2, (.one .bool)), (3, (.one .slice))] .n) .n)) (.two .n (.two .n (.two (.two .n (.two (.two .n (.two .n (.two (.two .n (.two (.loop [(2, (.one .bool)), (3, (.one .slice)), (8, (.one .slice)), (10, (.one (.int .i64))), (11, (.one (.int .i64)))] [(.exit 2), .ret] [(2, (.one .bool))] .n) .n)) .n))) .n)) (.two .n (.two .n (.two .n (.two .n (.two (.two .n (.two (.loop [(2, (.one .bool)), (3, (.one .slice)), (6, (.one .slice)), (13, (.one .slice)), (15, (.one .slice)), (16, (.one (.int .i64)))] [(.exit 4), .ret] [(2, (.one .bool))] (.two .n (.two (.two (.two .n (.two (.two .n (.two (.loop [(2, (.one .bool)), (3, (.one .slice)), (6, (.one .slice)), (13, (.one .slice)), (15, (.one .slice)), (16, (.one (.int .i64))), (17, (.one (.int .i64)))] [(.exit 6), .ret] [(2, (.one .bool)), (3, (.one .slice)), (6, (.one .slice)), (13, (.one .slice)), (15, (.one .slice)), (16, (.one (.int .i64)))] .n) .n)) .n)) .n) .n))) .n)) .n))))))))))))
theorem f5_ok (N : Nat) : FnOK Try.prog 5 [(.one .slice)] (.val (.one .bool)) (fun x h => f5 N x.1 h) :=
  runK_ok envOK hmix (addCall_ok (f23_ok N) (addCall_ok (f20_ok N) (addCall_ok (f16_ok N) (addCall_ok (f14_ok N) (addCall_ok (f13_ok N) (addCall_ok (f12_ok N) (addCall_ok (f11_ok N) (addCall_ok (f10_ok N) noCalls_ok)))))))) (N := N) (x := ann5) (fn := Try.f5) (c := Try.f5.body.getD .skip) (by kernel_rfl) (by kernel_rfl) (by kernel_rfl) (by kernel_rfl) (fun _ _ => by kernel_rfl)

/- usufruct/usufructref10.bad -/
noncomputable def f41_l3_b (N : Nat) (go : SL → Int → Int → Int → Int → Heap → Option (Out × (SL × Int × Int × Int × Unit) × Heap)) (v0 : SL) (v2 : Int) (v3 : Int) (v5 : Int) (v6 : Int) (h : Heap) : Option (Out × (SL × Int × Int × Int × Unit) × Heap) :=
  (ixK v0.a v0.len v5 1 fun q11 =>
  (bindV (.val (.one .slice)) (h.cell q11) fun (x12 : SL) =>
  let x13 : Bool := ltInt v6 (Int.ofNat x12.len)
  (bif x13 then
   (ixK v0.a v0.len v5 1 fun q14 =>
   (bindV (.val (.one .slice)) (h.cell q14) fun (x15 : SL) =>
   (ixK x15.a x15.len v6 1 fun q16 =>
   (bindV (.val (.one (.int .i64))) (h.cell q16) fun (x17 : Int) =>
   let x18 : Bool := ltInt x17 0
   (bif x18 then
    some (Out.ret, (v0, 2, v5, v5, ()), h)
   else
    (ixK v0.a v0.len v5 1 fun q19 =>
    (bindV (.val (.one .slice)) (h.cell q19) fun (x20 : SL) =>
    (ixK x20.a x20.len v6 1 fun q21 =>
    (bindV (.val (.one (.int .i64))) (h.cell q21) fun (x22 : Int) =>
    let x23 : Bool := leInt (Int.ofNat v0.len) x22
    (bif x23 then
     some (Out.ret, (v0, 2, v5, v5, ()), h)
    else
     let x24 : Int := wrapA .i64 (v6 + 1)
     go v0 v2 v3 v5 x24 h))))))))))
  else
   some ((Out.exit 4), (v0, v2, v3, v5, ()), h))))
noncomputable def f41_l3 (N M : Nat) (v0 : SL) (v2 : Int) (v3 : Int) (v5 : Int) (v6 : Int) (h : Heap) : Option (Out × (SL × Int × Int × Int × Unit) × Heap) := iter (fun go s h => f41_l3_b N (fun v0 v2 v3 v5 v6 h => go (v0, v2, v3, v5, v6, ()) h) s.1 s.2.1 s.2.2.1 s.2.2.2.1 s.2.2.2.2.1 h) M (v0, v2, v3, v5, v6, ()) h
theorem f41_l3_succ (N M : Nat) (v0 : SL) (v2 : Int) (v3 : Int) (v5 : Int) (v6 : Int) (h : Heap) : f41_l3 N (M + 1) v0 v2 v3 v5 v6 h = f41_l3_b N (f41_l3 N M) v0 v2 v3 v5 v6 h := rfl
theorem f41_l3_zero (N : Nat) (v0 : SL) (v2 : Int) (v3 : Int) (v5 : Int) (v6 : Int) (h : Heap) : f41_l3 N 0 v0 v2 v3 v5 v6 h = none := rfl
noncomputable def f41_l2_b (N : Nat) (go : SL → Int → Int → Int → Heap → Option (Out × (Int × Int × Unit) × Heap)) (v0 : SL) (v2 : Int) (v3 : Int) (v5 : Int) (h : Heap) : Option (Out × (Int × Int × Unit) × Heap) :=
  let x10 : Bool := ltInt v5 (Int.ofNat v0.len)
  (bif x10 then
   (bind3 (f41_l3 N N v0 v2 v3 v5 0 h) fun o25 (j26 : (SL × Int × Int × Int × Unit)) h27 =>
   (bif eqOut o25 (.exit 4) then
    let x28 : Int := wrapA .i64 (j26.2.2.2.1 + 1)
    go j26.1 j26.2.1 j26.2.2.1 x28 h27
   else
    some (Out.ret, (j26.2.1, j26.2.2.1, ()), h27)))
  else
   some ((Out.exit 2), (v2, v3, ()), h))
noncomputable def f41_l2 (N M : Nat) (v0 : SL) (v2 : Int) (v3 : Int) (v5 : Int) (h : Heap) : Option (Out × (Int × Int × Unit) × Heap) := iter (fun go s h => f41_l2_b N (fun v0 v2 v3 v5 h => go (v0, v2, v3, v5, ()) h) s.1 s.2.1 s.2.2.1 s.2.2.2.1 h) M (v0, v2, v3, v5, ()) h
theorem f41_l2_succ (N M : Nat) (v0 : SL) (v2 : Int) (v3 : Int) (v5 : Int) (h : Heap) : f41_l2 N (M + 1) v0 v2 v3 v5 h = f41_l2_b N (f41_l2 N M) v0 v2 v3 v5 h := rfl
theorem f41_l2_zero (N : Nat) (v0 : SL) (v2 : Int) (v3 : Int) (v5 : Int) (h : Heap) : f41_l2 N 0 v0 v2 v3 v5 h = none := rfl
noncomputable def f41_l1_b (N : Nat) (go : SL → Int → Int → Int → Heap → Option (Out × (SL × Int × Int × Unit) × Heap)) (v0 : SL) (v2 : Int) (v3 : Int) (v4 : Int) (h : Heap) : Option (Out × (SL × Int × Int × Unit) × Heap) :=
  let x2 : Bool := ltInt v4 (Int.ofNat v0.len)
  (bif x2 then
   (ixK v0.a v0.len v4 1 fun q3 =>
   (bindV (.val (.one .slice)) (h.cell q3) fun (x4 : SL) =>
   let x5 : Bool := ltInt 64 (Int.ofNat x4.len)
   (bif x5 then
    some (Out.ret, (v0, 5, v4, ()), h)
   else
    let x6 : Int := wrapA .i64 (v4 + 1)
    go v0 v2 v3 x6 h)))
  else
   some ((Out.exit 0), (v0, v2, v3, ()), h))
noncomputable def f41_l1 (N M : Nat) (v0 : SL) (v2 : Int) (v3 : Int) (v4 : Int) (h : Heap) : Option (Out × (SL × Int × Int × Unit) × Heap) := iter (fun go s h => f41_l1_b N (fun v0 v2 v3 v4 h => go (v0, v2, v3, v4, ()) h) s.1 s.2.1 s.2.2.1 s.2.2.2.1 h) M (v0, v2, v3, v4, ()) h
theorem f41_l1_succ (N M : Nat) (v0 : SL) (v2 : Int) (v3 : Int) (v4 : Int) (h : Heap) : f41_l1 N (M + 1) v0 v2 v3 v4 h = f41_l1_b N (f41_l1 N M) v0 v2 v3 v4 h := rfl
theorem f41_l1_zero (N : Nat) (v0 : SL) (v2 : Int) (v3 : Int) (v4 : Int) (h : Heap) : f41_l1 N 0 v0 v2 v3 v4 h = none := rfl
noncomputable def f41 (N : Nat) (a0 : SL) (h : Heap) : Option ((Int × Int × Unit) × Heap) :=
  let x1 : Bool := ltInt 64 (Int.ofNat a0.len)
  (bif x1 then
   some ((5, 0, ()), h)
  else
   (bind3 (f41_l1 N N a0 0 0 0 h) fun o7 (j8 : (SL × Int × Int × Unit)) h9 =>
   (bif eqOut o7 (.exit 0) then
    (bind3 (f41_l2 N N j8.1 j8.2.1 j8.2.2.1 0 h9) fun o29 (j30 : (Int × Int × Unit)) h31 =>
    (bif eqOut o29 (.exit 2) then
     some ((0, 0, ()), h31)
    else
     some ((j30.1, j30.2.1, ()), h31)))
   else
    some ((j8.2.1, j8.2.2.1, ()), h9))))
noncomputable def ann41 : Ann := (.two .n (.two .n (.two (.two .n (.two (.loop [(0, (.one .slice)), (2, (.one (.int .i64))), (3, (.one (.int .i64))), (4, (.one (.int .i64)))] [(.exit 0), .ret] [(0, (.one .slice)), (2, (.one (.int .i64))), (3, (.one (.int .i64)))] .n) .n)) (.two (.two .n (.two (.loop [(0, (.one .slice)), (2, (.one (.int .i64))), (3, (.one (.int .i64))), (5, (.one (.int .i64)))] [(.exit 2), .ret] [(2, (.one (.int .i64))), (3, (.one (.int .i64)))] (.two .n (.two (.two (.two .n (.two (.loop [(0, (.one .slice)), (2, (.one (.int .i64))), (3, (.one (.int .i64))), (5, (.one (.int .i64))), (6, (.one (.int .i64)))] [(.exit 4), .ret] [(0, (.one .slice)), (2, (.one (.int .i64))), (3, (.one (.int .i64))), (5, (.one (.int .i64)))] .n) .n)) .n) .n))) .n)) .n))))
theorem f41_ok (N : Nat) : FnOK Try.prog 41 [(.one .slice)] (.tup [(.one (.int .i64)), (.one (.int .i64))]) (fun x h => f41 N x.1 h) :=
  runK_ok envOK hmix noCalls_ok (N := N) (x := ann41) (fn := Try.f41) (c := Try.f41.body.getD .skip) (by kernel_rfl) (by kernel_rfl) (by kernel_rfl) (by kernel_rfl) (fun _ _ => by kernel_rfl)

/- usufruct/usufructref10.below -/
noncomputable def f42_l4_b (N : Nat) (go : SL → Int → SL → Int → Int → Int → Heap → Option (Out × (SL × Int × SL × Int × Int × Unit) × Heap)) (v0 : SL) (v1 : Int) (v5 : SL) (v7 : Int) (v8 : Int) (v9 : Int) (h : Heap) : Option (Out × (SL × Int × SL × Int × Int × Unit) × Heap) :=
  (ixK v0.a v0.len v8 1 fun q28 =>
  (bindV (.val (.one .slice)) (h.cell q28) fun (x29 : SL) =>
  let x30 : Bool := ltInt v9 (Int.ofNat x29.len)
  (bif x30 then
   (bind2 (α := (SL × Int × SL × Int × Int × Int × Unit)) (
    (ixK v0.a v0.len v8 1 fun q31 =>
    (bindV (.val (.one .slice)) (h.cell q31) fun (x32 : SL) =>
    (ixK x32.a x32.len v9 1 fun q33 =>
    (bindV (.val (.one (.int .i64))) (h.cell q33) fun (x34 : Int) =>
    (ixK v5.a v5.len x34 1 fun q35 =>
    (bindV (.val (.one (.int .i64))) (h.cell q35) fun (x36 : Int) =>
    let x37 : Bool := ltInt x36 0
    (bif x37 then
     (ixK v0.a v0.len v8 1 fun q38 =>
     (bindV (.val (.one .slice)) (h.cell q38) fun (x39 : SL) =>
     (ixK x39.a x39.len v9 1 fun q40 =>
     (bindV (.val (.one (.int .i64))) (h.cell q40) fun (x41 : Int) =>
     (ixK v5.a v5.len x41 1 fun q42 =>
     (need (h.store q42 [(.int .i64 v7)]) fun h43 =>
     some ((v0, v1, v5, v7, v8, v9, ()), h43)))))))
    else
     some ((v0, v1, v5, v7, v8, v9, ()), h))))))))) fun (j44 : (SL × Int × SL × Int × Int × Int × Unit)) h45 =>
   let x46 : Int := wrapA .i64 (j44.2.2.2.2.2.1 + 1)
   go j44.1 j44.2.1 j44.2.2.1 j44.2.2.2.1 j44.2.2.2.2.1 x46 h45)
  else
   some ((Out.exit 6), (v0, v1, v5, v7, v8, ()), h))))
noncomputable def f42_l4 (N M : Nat) (v0 : SL) (v1 : Int) (v5 : SL) (v7 : Int) (v8 : Int) (v9 : Int) (h : Heap) : Option (Out × (SL × Int × SL × Int × Int × Unit) × Heap) := iter (fun go s h => f42_l4_b N (fun v0 v1 v5 v7 v8 v9 h => go (v0, v1, v5, v7, v8, v9, ()) h) s.1 s.2.1 s.2.2.1 s.2.2.2.1 s.2.2.2.2.1 s.2.2.2.2.2.1 h) M (v0, v1, v5, v7, v8, v9, ()) h
theorem f42_l4_succ (N M : Nat) (v0 : SL) (v1 : Int) (v5 : SL) (v7 : Int) (v8 : Int) (v9 : Int) (h : Heap) : f42_l4 N (M + 1) v0 v1 v5 v7 v8 v9 h = f42_l4_b N (f42_l4 N M) v0 v1 v5 v7 v8 v9 h := rfl
theorem f42_l4_zero (N : Nat) (v0 : SL) (v1 : Int) (v5 : SL) (v7 : Int) (v8 : Int) (v9 : Int) (h : Heap) : f42_l4 N 0 v0 v1 v5 v7 v8 v9 h = none := rfl
noncomputable def f42_l3_b (N : Nat) (go : SL → Int → SL → Int → Int → Heap → Option (Out × (SL × Int × SL × Int × Unit) × Heap)) (v0 : SL) (v1 : Int) (v5 : SL) (v7 : Int) (v8 : Int) (h : Heap) : Option (Out × (SL × Int × SL × Int × Unit) × Heap) :=
  let x11 : Bool := ltInt v8 (Int.ofNat v0.len)
  (bif x11 then
   (bind2 (α := (SL × Int × SL × Int × Int × Unit)) (
    (need (α := Sum ((SL × Int × SL × Int × Int × Unit) × Heap) (Sum ((SL × Int × SL × Int × Int × Unit) × Heap) (Empty))) (
     let x12 : Bool := eqInt v7 1
     (bif x12 then
      let x13 : Bool := !eqInt v8 v1
      (bif x13 then
       some (Sum.inr (Sum.inl ((v0, v1, v5, v7, v8, ()), h)))
      else
       let x14 : Bool := ltInt 1 v7
       (bif x14 then
        (ixK v5.a v5.len v8 1 fun q15 =>
        (bindV (.val (.one (.int .i64))) (h.cell q15) fun (x16 : Int) =>
        let x17 : Int := wrapA .i64 (v7 - 1)
        let x18 : Bool := !eqInt x16 x17
        (bif x18 then
         some (Sum.inr (Sum.inl ((v0, v1, v5, v7, v8, ()), h)))
        else
         some (Sum.inl ((v0, v1, v5, v7, v8, ()), h)))))
       else
        some (Sum.inl ((v0, v1, v5, v7, v8, ()), h))))
     else
      let x19 : Bool := ltInt 1 v7
      (bif x19 then
       (ixK v5.a v5.len v8 1 fun q20 =>
       (bindV (.val (.one (.int .i64))) (h.cell q20) fun (x21 : Int) =>
       let x22 : Int := wrapA .i64 (v7 - 1)
       let x23 : Bool := !eqInt x21 x22
       (bif x23 then
        some (Sum.inr (Sum.inl ((v0, v1, v5, v7, v8, ()), h)))
       else
        some (Sum.inl ((v0, v1, v5, v7, v8, ()), h)))))
      else
       some (Sum.inl ((v0, v1, v5, v7, v8, ()), h))))) fun j24 =>
    (jcase j24 (fun (j25 : (SL × Int × SL × Int × Int × Unit)) h26 =>
     (bind3 (f42_l4 N N j25.1 j25.2.1 j25.2.2.1 j25.2.2.2.1 j25.2.2.2.2.1 0 h26) fun _ (j48 : (SL × Int × SL × Int × Int × Unit)) h49 =>
     some ((j48.1, j48.2.1, j48.2.2.1, j48.2.2.2.1, j48.2.2.2.2.1, ()), h49))) fun j27 =>
    (jcase j27 (fun (j50 : (SL × Int × SL × Int × Int × Unit)) h51 =>
     some ((j50.1, j50.2.1, j50.2.2.1, j50.2.2.2.1, j50.2.2.2.2.1, ()), h51)) fun _ =>
    none)))) fun (j53 : (SL × Int × SL × Int × Int × Unit)) h54 =>
   let x55 : Int := wrapA .i64 (j53.2.2.2.2.1 + 1)
   go j53.1 j53.2.1 j53.2.2.1 j53.2.2.2.1 x55 h54)
  else
   some ((Out.exit 4), (v0, v1, v5, v7, ()), h))
noncomputable def f42_l3 (N M : Nat) (v0 : SL) (v1 : Int) (v5 : SL) (v7 : Int) (v8 : Int) (h : Heap) : Option (Out × (SL × Int × SL × Int × Unit) × Heap) := iter (fun go s h => f42_l3_b N (fun v0 v1 v5 v7 v8 h => go (v0, v1, v5, v7, v8, ()) h) s.1 s.2.1 s.2.2.1 s.2.2.2.1 s.2.2.2.2.1 h) M (v0, v1, v5, v7, v8, ()) h
theorem f42_l3_succ (N M : Nat) (v0 : SL) (v1 : Int) (v5 : SL) (v7 : Int) (v8 : Int) (h : Heap) : f42_l3 N (M + 1) v0 v1 v5 v7 v8 h = f42_l3_b N (f42_l3 N M) v0 v1 v5 v7 v8 h := rfl
theorem f42_l3_zero (N : Nat) (v0 : SL) (v1 : Int) (v5 : SL) (v7 : Int) (v8 : Int) (h : Heap) : f42_l3 N 0 v0 v1 v5 v7 v8 h = none := rfl
noncomputable def f42_l2_b (N : Nat) (go : SL → Int → SL → Int → Heap → Option (Out × (SL × Unit) × Heap)) (v0 : SL) (v1 : Int) (v5 : SL) (v7 : Int) (h : Heap) : Option (Out × (SL × Unit) × Heap) :=
  let x10 : Bool := leInt v7 (Int.ofNat v0.len)
  (bif x10 then
   (bind3 (f42_l3 N N v0 v1 v5 v7 0 h) fun _ (j57 : (SL × Int × SL × Int × Unit)) h58 =>
   let x59 : Int := wrapA .i64 (j57.2.2.2.1 + 1)
   go j57.1 j57.2.1 j57.2.2.1 x59 h58)
  else
   some ((Out.exit 2), (v5, ()), h))
noncomputable def f42_l2 (N M : Nat) (v0 : SL) (v1 : Int) (v5 : SL) (v7 : Int) (h : Heap) : Option (Out × (SL × Unit) × Heap) := iter (fun go s h => f42_l2_b N (fun v0 v1 v5 v7 h => go (v0, v1, v5, v7, ()) h) s.1 s.2.1 s.2.2.1 s.2.2.2.1 h) M (v0, v1, v5, v7, ()) h
theorem f42_l2_succ (N M : Nat) (v0 : SL) (v1 : Int) (v5 : SL) (v7 : Int) (h : Heap) : f42_l2 N (M + 1) v0 v1 v5 v7 h = f42_l2_b N (f42_l2 N M) v0 v1 v5 v7 h := rfl
theorem f42_l2_zero (N : Nat) (v0 : SL) (v1 : Int) (v5 : SL) (v7 : Int) (h : Heap) : f42_l2 N 0 v0 v1 v5 v7 h = none := rfl
noncomputable def f42_l1_b (N : Nat) (go : SL → Int → SL → Int → Heap → Option (Out × (SL × Int × SL × Unit) × Heap)) (v0 : SL) (v1 : Int) (v5 : SL) (v6 : Int) (h : Heap) : Option (Out × (SL × Int × SL × Unit) × Heap) :=
  let x3 : Bool := ltInt v6 (Int.ofNat v5.len)
  (bif x3 then
   (ixK v5.a v5.len v6 1 fun q4 =>
   (need (h.store q4 [(.int .i64 (-1))]) fun h5 =>
   let x6 : Int := wrapA .i64 (v6 + 1)
   go v0 v1 v5 x6 h5))
  else
   some ((Out.exit 0), (v0, v1, v5, ()), h))
noncomputable def f42_l1 (N M : Nat) (v0 : SL) (v1 : Int) (v5 : SL) (v6 : Int) (h : Heap) : Option (Out × (SL × Int × SL × Unit) × Heap) := iter (fun go s h => f42_l1_b N (fun v0 v1 v5 v6 h => go (v0, v1, v5, v6, ()) h) s.1 s.2.1 s.2.2.1 s.2.2.2.1 h) M (v0, v1, v5, v6, ()) h
theorem f42_l1_succ (N M : Nat) (v0 : SL) (v1 : Int) (v5 : SL) (v6 : Int) (h : Heap) : f42_l1 N (M + 1) v0 v1 v5 v6 h = f42_l1_b N (f42_l1 N M) v0 v1 v5 v6 h := rfl
theorem f42_l1_zero (N : Nat) (v0 : SL) (v1 : Int) (v5 : SL) (v6 : Int) (h : Heap) : f42_l1 N 0 v0 v1 v5 v6 h = none := rfl
noncomputable def f42 (N : Nat) (a0 : SL) (a1 : Int) (h : Heap) : Option (SL × Heap) :=
  (bindT (.val (.one .slice)) (makeSliceA E 26 (.int .i64 (Int.ofNat a0.len)) (.int .i64 (Int.ofNat a0.len)) h) fun (x1 : SL) h2 =>
  (bind3 (f42_l1 N N a0 a1 x1 0 h2) fun _ (j8 : (SL × Int × SL × Unit)) h9 =>
  (bind3 (f42_l2 N N j8.1 j8.2.1 j8.2.2.1 1 h9) fun _ (j61 : (SL × Unit)) h62 =>
  some (j61.1, h62))))
noncomputable def ann42 : Ann := (.two .n (.two .n (.two (.two .n (.two (.loop [(0, (.one .slice)), (1, (.one (.int .i64))), (5, (.one .slice)), (6, (.one (.int .i64)))] [(.exit 0)] [(0, (.one .slice)), (1, (.one (.int .i64))), (5, (.one .slice))] .n) .n)) (.two (.two .n (.two (.loop [(0, (.one .slice)), (1, (.one (.int .i64))), (5, (.one .slice)), (7, (.one (.int .i64)))] [(.exit 2)] [(5, (.one .slice))] (.two .n (.two (.two (.two .n (.two (.loop [(0, (.one .slice)), (1, (.one (.int .i64))), (5, (.one .slice)), (7, (.one (.int .i64))), (8, (.one (.int .i64)))] [(.exit 4)] [(0, (.one .slice)), (1, (.one (.int .i64))), (5, (.one .slice)), (7, (.one (.int .i64)))] (.two .n (.two (.join [(0, (.one .slice)), (1, (.one (.int .i64))), (5, (.one .slice)), (7, (.one (.int .i64))), (8, (.one (.int .i64)))] (.two (.two (.joinO [(.norm, [(0, (.one .slice)), (1, (.one (.int .i64))), (5, (.one .slice)), (7, (.one (.int .i64))), (8, (.one (.int .i64)))]), ((.exit 5), [(0, (.one .slice)), (1, (.one (.int .i64))), (5, (.one .slice)), (7, (.one (.int .i64))), (8, (.one (.int .i64)))])] .n) (.two .n (.two (.loop [(0, (.one .slice)), (1, (.one (.int .i64))), (5, (.one .slice)), (7, (.one (.int .i64))), (8, (.one (.int .i64))), (9, (.one (.int .i64)))] [(.exit 6)] [(0, (.one .slice)), (1, (.one (.int .i64))), (5, (.one .slice)), (7, (.one (.int .i64))), (8, (.one (.int .i64)))] (.two .n (.two (.join [(0, (.one .slice)), (1, (.one (.int .i64))), (5, (.one .slice)), (7, (.one (.int .i64))), (8, (.one (.int .i64))), (9, (.one (.int .i64)))] .n) .n))) .n))) .n)) .n))) .n)) .n) .n))) .n)) .n))))
theorem f42_ok (N : Nat) : FnOK Try.prog 42 [(.one .slice), (.one (.int .i64))] (.val (.one .slice)) (fun x h => f42 N x.1 x.2.1 h) :=
  runK_ok envOK hmix noCalls_ok (N := N) (x := ann42) (fn := Try.f42) (c := Try.f42.body.getD .skip) (by kernel_rfl) (by kernel_rfl) (by kernel_rfl) (by kernel_rfl) (fun _ _ => by kernel_rfl)

/- usufruct/usufructref10.Order -/
noncomputable def f15_l4_b (N : Nat) (go : SL → SL → SL → Int → Bool → Int → Heap → Option (Out × (SL × SL × SL × Int × Bool × Unit) × Heap)) (v0 : SL) (v8 : SL) (v9 : SL) (v10 : Int) (v11 : Bool) (v12 : Int) (h : Heap) : Option (Out × (SL × SL × SL × Int × Bool × Unit) × Heap) :=
  (ixK v0.a v0.len v10 1 fun q21 =>
  (bindV (.val (.one .slice)) (h.cell q21) fun (x22 : SL) =>
  let x23 : Bool := ltInt v12 (Int.ofNat x22.len)
  (bif x23 then
   (bif v11 then
    (ixK v0.a v0.len v10 1 fun q24 =>
    (bindV (.val (.one .slice)) (h.cell q24) fun (x25 : SL) =>
    (ixK x25.a x25.len v12 1 fun q26 =>
    (bindV (.val (.one (.int .i64))) (h.cell q26) fun (x27 : Int) =>
    (ixK v9.a v9.len x27 1 fun q28 =>
    (bindV (.val (.one .bool)) (h.cell q28) fun (x29 : Bool) =>
    let x30 : Int := wrapA .i64 (v12 + 1)
    go v0 v8 v9 v10 x29 x30 h))))))
   else
    let x31 : Int := wrapA .i64 (v12 + 1)
    go v0 v8 v9 v10 false x31 h)
  else
   some ((Out.exit 6), (v0, v8, v9, v10, v11, ()), h))))
noncomputable def f15_l4 (N M : Nat) (v0 : SL) (v8 : SL) (v9 : SL) (v10 : Int) (v11 : Bool) (v12 : Int) (h : Heap) : Option (Out × (SL × SL × SL × Int × Bool × Unit) × Heap) := iter (fun go s h => f15_l4_b N (fun v0 v8 v9 v10 v11 v12 h => go (v0, v8, v9, v10, v11, v12, ()) h) s.1 s.2.1 s.2.2.1 s.2.2.2.1 s.2.2.2.2.1 s.2.2.2.2.2.1 h) M (v0, v8, v9, v10, v11, v12, ()) h
theorem f15_l4_succ (N M : Nat) (v0 : SL) (v8 : SL) (v9 : SL) (v10 : Int) (v11 : Bool) (v12 : Int) (h : Heap) : f15_l4 N (M + 1) v0 v8 v9 v10 v11 v12 h = f15_l4_b N (f15_l4 N M) v0 v8 v9 v10 v11 v12 h := rfl
theorem f15_l4_zero (N : Nat) (v0 : SL) (v8 : SL) (v9 : SL) (v10 : Int) (v11 : Bool) (v12 : Int) (h : Heap) : f15_l4 N 0 v0 v8 v9 v10 v11 v12 h = none := rfl
noncomputable def f15_l3_b (N : Nat) (go : SL → SL → SL → Int → Heap → Option (Out × (SL × SL × SL × Unit) × Heap)) (v0 : SL) (v8 : SL) (v9 : SL) (v10 : Int) (h : Heap) : Option (Out × (SL × SL × SL × Unit) × Heap) :=
  let x17 : Bool := ltInt v10 (Int.ofNat v0.len)
  (bif x17 then
   (ixK v9.a v9.len v10 1 fun q18 =>
   (bindV (.val (.one .bool)) (h.cell q18) fun (x19 : Bool) =>
   let x20 : Bool := !x19
   (bind3 (f15_l4 N N v0 v8 v9 v10 x20 0 h) fun _ (j33 : (SL × SL × SL × Int × Bool × Unit)) h34 =>
   (bif j33.2.2.2.2.1 then
    (ixK j33.2.2.1.a j33.2.2.1.len j33.2.2.2.1 1 fun q35 =>
    (need (h34.store q35 [(.bool true)]) fun h36 =>
    let h37 : Heap := h36.push (.row [(.int .i64 j33.2.2.2.1)] .own)
    (bindT (.val (.one .slice)) (appendA E 26 26 (.slice j33.2.1.a j33.2.1.len j33.2.1.cap j33.2.1.sz) (.slice (some (h36.next, 0)) 1 1 1) h37) fun (x38 : SL) h39 =>
    some ((Out.exit 4), (j33.1, x38, j33.2.2.1, ()), h39))))
   else
    let x40 : Int := wrapA .i64 (j33.2.2.2.1 + 1)
    go j33.1 j33.2.1 j33.2.2.1 x40 h34))))
  else
   some ((Out.exit 4), (v0, v8, v9, ()), h))
noncomputable def f15_l3 (N M : Nat) (v0 : SL) (v8 : SL) (v9 : SL) (v10 : Int) (h : Heap) : Option (Out × (SL × SL × SL × Unit) × Heap) := iter (fun go s h => f15_l3_b N (fun v0 v8 v9 v10 h => go (v0, v8, v9, v10, ()) h) s.1 s.2.1 s.2.2.1 s.2.2.2.1 h) M (v0, v8, v9, v10, ()) h
theorem f15_l3_succ (N M : Nat) (v0 : SL) (v8 : SL) (v9 : SL) (v10 : Int) (h : Heap) : f15_l3 N (M + 1) v0 v8 v9 v10 h = f15_l3_b N (f15_l3 N M) v0 v8 v9 v10 h := rfl
theorem f15_l3_zero (N : Nat) (v0 : SL) (v8 : SL) (v9 : SL) (v10 : Int) (h : Heap) : f15_l3 N 0 v0 v8 v9 v10 h = none := rfl
noncomputable def f15_l2_b (N : Nat) (go : SL → SL → SL → Heap → Option (Out × (SL × Unit) × Heap)) (v0 : SL) (v8 : SL) (v9 : SL) (h : Heap) : Option (Out × (SL × Unit) × Heap) :=
  let x16 : Bool := ltInt (Int.ofNat v8.len) (Int.ofNat v0.len)
  (bif x16 then
   (bind3 (f15_l3 N N v0 v8 v9 0 h) fun _ (j42 : (SL × SL × SL × Unit)) h43 =>
   go j42.1 j42.2.1 j42.2.2.1 h43)
  else
   some ((Out.exit 2), (v8, ()), h))
noncomputable def f15_l2 (N M : Nat) (v0 : SL) (v8 : SL) (v9 : SL) (h : Heap) : Option (Out × (SL × Unit) × Heap) := iter (fun go s h => f15_l2_b N (fun v0 v8 v9 h => go (v0, v8, v9, ()) h) s.1 s.2.1 s.2.2.1 h) M (v0, v8, v9, ()) h
theorem f15_l2_succ (N M : Nat) (v0 : SL) (v8 : SL) (v9 : SL) (h : Heap) : f15_l2 N (M + 1) v0 v8 v9 h = f15_l2_b N (f15_l2 N M) v0 v8 v9 h := rfl
theorem f15_l2_zero (N : Nat) (v0 : SL) (v8 : SL) (v9 : SL) (h : Heap) : f15_l2 N 0 v0 v8 v9 h = none := rfl
noncomputable def f15_l1_b (N : Nat) (go : SL → SL → Int → Int → Int → Heap → Option (Out × (SL × SL × Int × Int × Unit) × Heap)) (v0 : SL) (v2 : SL) (v3 : Int) (v4 : Int) (v7 : Int) (h : Heap) : Option (Out × (SL × SL × Int × Int × Unit) × Heap) :=
  let x4 : Bool := ltInt v7 (Int.ofNat v0.len)
  (bif x4 then
   (bind2 (f42 N v0 v7 h) fun (x5 : SL) h6 =>
   (ixK x5.a x5.len v7 1 fun q7 =>
   (bindV (.val (.one (.int .i64))) (h6.cell q7) fun (x8 : Int) =>
   let x9 : Bool := ltInt 0 x8
   (bif x9 then
    some (Out.ret, (v0, ⟨none, 0, 0, 0⟩, 42, v7, ()), h6)
   else
    let x10 : Int := wrapA .i64 (v7 + 1)
    go v0 v2 v3 v4 x10 h6))))
  else
   some ((Out.exit 0), (v0, v2, v3, v4, ()), h))
noncomputable def f15_l1 (N M : Nat) (v0 : SL) (v2 : SL) (v3 : Int) (v4 : Int) (v7 : Int) (h : Heap) : Option (Out × (SL × SL × Int × Int × Unit) × Heap) := iter (fun go s h => f15_l1_b N (fun v0 v2 v3 v4 v7 h => go (v0, v2, v3, v4, v7, ()) h) s.1 s.2.1 s.2.2.1 s.2.2.2.1 s.2.2.2.2.1 h) M (v0, v2, v3, v4, v7, ()) h
theorem f15_l1_succ (N M : Nat) (v0 : SL) (v2 : SL) (v3 : Int) (v4 : Int) (v7 : Int) (h : Heap) : f15_l1 N (M + 1) v0 v2 v3 v4 v7 h = f15_l1_b N (f15_l1 N M) v0 v2 v3 v4 v7 h := rfl
theorem f15_l1_zero (N : Nat) (v0 : SL) (v2 : SL) (v3 : Int) (v4 : Int) (v7 : Int) (h : Heap) : f15_l1 N 0 v0 v2 v3 v4 v7 h = none := rfl
noncomputable def f15 (N : Nat) (a0 : SL) (h : Heap) : Option ((SL × Int × Int × Unit) × Heap) :=
  (bind2 (f41 N a0 h) fun (x1 : (Int × Int × Unit)) h2 =>
  let x3 : Bool := !eqInt x1.1 0
  (bif x3 then
   some ((⟨none, 0, 0, 0⟩, x1.1, x1.2.1, ()), h2)
  else
   (bind3 (f15_l1 N N a0 ⟨none, 0, 0, 0⟩ 0 0 0 h2) fun o11 (j12 : (SL × SL × Int × Int × Unit)) h13 =>
   (bif eqOut o11 (.exit 0) then
    (bindT (.val (.one .slice)) (makeSliceA E 43 (.int .i64 (Int.ofNat j12.1.len)) (.int .i64 (Int.ofNat j12.1.len)) h13) fun (x14 : SL) h15 =>
    (bind3 (f15_l2 N N j12.1 ⟨none, 0, 0, 0⟩ x14 h15) fun _ (j45 : (SL × Unit)) h46 =>
    some ((j45.1, 0, 0, ()), h46)))
   else
    some ((j12.2.1, j12.2.2.1, j12.2.2.2.1, ()), h13)))))
noncomputable def ann15 : Ann := (.two .n (.two .n (.two (.two .n (.two (.loop [(0, (.one .slice)), (2, (.one .slice)), (3, (.one (.int .i64))), (4, (.one (.int .i64))), (7, (.one (.int .i64)))] [(.exit 0), .ret] [(0, (.one .slice)), (2, (.one .slice)), (3, (.one (.int .i64))), (4, (.one (.int .i64)))] .n) .n)) (.two .n (.two .n (.two (.two (.loop [(0, (.one .slice)), (8, (.one .slice)), (9, (.one .slice))] [(.exit 2)] [(8, (.one .slice))] (.two .n (.two (.two .n (.two (.loop [(0, (.one .slice)), (8, (.one .slice)), (9, (.one .slice)), (10, (.one (.int .i64)))] [(.exit 4)] [(0, (.one .slice)), (8, (.one .slice)), (9, (.one .slice))] (.two .n (.two (.two (.two .n (.two (.two .n (.two (.loop [(0, (.one .slice)), (8, (.one .slice)), (9, (.one .slice)), (10, (.one (.int .i64))), (11, (.one .bool)), (12, (.one (.int .i64)))] [(.exit 6)] [(0, (.one .slice)), (8, (.one .slice)), (9, (.one .slice)), (10, (.one (.int .i64))), (11, (.one .bool))] .n) .n)) .n)) .n) .n))) .n)) .n))) .n) .n))))))
theorem f15_ok (N : Nat) : FnOK Try.prog 15 [(.one .slice)] (.tup [(.one .slice), (.one (.int .i64)), (.one (.int .i64))]) (fun x h => f15 N x.1 h) :=
  runK_ok envOK hmix (addCall_ok (f42_ok N) (addCall_ok (f41_ok N) noCalls_ok)) (N := N) (x := ann15) (fn := Try.f15) (c := Try.f15.body.getD .skip) (by kernel_rfl) (by kernel_rfl) (by kernel_rfl) (by kernel_rfl) (fun _ _ => by kernel_rfl)

/- usufruct/usufructref10.Levels -/
noncomputable def f17_l2_b (N : Nat) (go : SL → SL → SL → Int → Int → Heap → Option (Out × (SL × SL × SL × Int × Unit) × Heap)) (v0 : SL) (v5 : SL) (v8 : SL) (v9 : Int) (v10 : Int) (h : Heap) : Option (Out × (SL × SL × SL × Int × Unit) × Heap) :=
  (ixK v5.a v5.len v9 1 fun q7 =>
  (bindV (.val (.one (.int .i64))) (h.cell q7) fun (x8 : Int) =>
  (ixK v0.a v0.len x8 1 fun q9 =>
  (bindV (.val (.one .slice)) (h.cell q9) fun (x10 : SL) =>
  let x11 : Bool := ltInt v10 (Int.ofNat x10.len)
  (bif x11 then
   (ixK v5.a v5.len v9 1 fun q12 =>
   (bindV (.val (.one (.int .i64))) (h.cell q12) fun (x13 : Int) =>
   (ixK v5.a v5.len v9 1 fun q14 =>
   (bindV (.val (.one (.int .i64))) (h.cell q14) fun (x15 : Int) =>
   (ixK v8.a v8.len x15 1 fun q16 =>
   (bindV (.val (.one (.int .i64))) (h.cell q16) fun (x17 : Int) =>
   (ixK v5.a v5.len v9 1 fun q18 =>
   (bindV (.val (.one (.int .i64))) (h.cell q18) fun (x19 : Int) =>
   (ixK v0.a v0.len x19 1 fun q20 =>
   (bindV (.val (.one .slice)) (h.cell q20) fun (x21 : SL) =>
   (ixK x21.a x21.len v10 1 fun q22 =>
   (bindV (.val (.one (.int .i64))) (h.cell q22) fun (x23 : Int) =>
   (ixK v8.a v8.len x23 1 fun q24 =>
   (bindV (.val (.one (.int .i64))) (h.cell q24) fun (x25 : Int) =>
   let x26 : Int := wrapA .i64 (x25 + 1)
   let x27 : Int := (bif ltInt x17 x26 then x26 else x17)
   (ixK v8.a v8.len x13 1 fun q28 =>
   (need (h.store q28 [(.int .i64 x27)]) fun h29 =>
   let x30 : Int := wrapA .i64 (v10 + 1)
   go v0 v5 v8 v9 x30 h29))))))))))))))))
  else
   some ((Out.exit 2), (v0, v5, v8, v9, ()), h))))))
noncomputable def f17_l2 (N M : Nat) (v0 : SL) (v5 : SL) (v8 : SL) (v9 : Int) (v10 : Int) (h : Heap) : Option (Out × (SL × SL × SL × Int × Unit) × Heap) := iter (fun go s h => f17_l2_b N (fun v0 v5 v8 v9 v10 h => go (v0, v5, v8, v9, v10, ()) h) s.1 s.2.1 s.2.2.1 s.2.2.2.1 s.2.2.2.2.1 h) M (v0, v5, v8, v9, v10, ()) h
theorem f17_l2_succ (N M : Nat) (v0 : SL) (v5 : SL) (v8 : SL) (v9 : Int) (v10 : Int) (h : Heap) : f17_l2 N (M + 1) v0 v5 v8 v9 v10 h = f17_l2_b N (f17_l2 N M) v0 v5 v8 v9 v10 h := rfl
theorem f17_l2_zero (N : Nat) (v0 : SL) (v5 : SL) (v8 : SL) (v9 : Int) (v10 : Int) (h : Heap) : f17_l2 N 0 v0 v5 v8 v9 v10 h = none := rfl
noncomputable def f17_l1_b (N : Nat) (go : SL → SL → SL → Int → Heap → Option (Out × (SL × Unit) × Heap)) (v0 : SL) (v5 : SL) (v8 : SL) (v9 : Int) (h : Heap) : Option (Out × (SL × Unit) × Heap) :=
  let x6 : Bool := ltInt v9 (Int.ofNat v5.len)
  (bif x6 then
   (bind3 (f17_l2 N N v0 v5 v8 v9 0 h) fun _ (j32 : (SL × SL × SL × Int × Unit)) h33 =>
   let x34 : Int := wrapA .i64 (j32.2.2.2.1 + 1)
   go j32.1 j32.2.1 j32.2.2.1 x34 h33)
  else
   some ((Out.exit 0), (v8, ()), h))
noncomputable def f17_l1 (N M : Nat) (v0 : SL) (v5 : SL) (v8 : SL) (v9 : Int) (h : Heap) : Option (Out × (SL × Unit) × Heap) := iter (fun go s h => f17_l1_b N (fun v0 v5 v8 v9 h => go (v0, v5, v8, v9, ()) h) s.1 s.2.1 s.2.2.1 s.2.2.2.1 h) M (v0, v5, v8, v9, ()) h
theorem f17_l1_succ (N M : Nat) (v0 : SL) (v5 : SL) (v8 : SL) (v9 : Int) (h : Heap) : f17_l1 N (M + 1) v0 v5 v8 v9 h = f17_l1_b N (f17_l1 N M) v0 v5 v8 v9 h := rfl
theorem f17_l1_zero (N : Nat) (v0 : SL) (v5 : SL) (v8 : SL) (v9 : Int) (h : Heap) : f17_l1 N 0 v0 v5 v8 v9 h = none := rfl
noncomputable def f17 (N : Nat) (a0 : SL) (h : Heap) : Option ((SL × Int × Int × Unit) × Heap) :=
  (bind2 (f15 N a0 h) fun (x1 : (SL × Int × Int × Unit)) h2 =>
  let x3 : Bool := !eqInt x1.2.1 0
  (bif x3 then
   some ((⟨none, 0, 0, 0⟩, x1.2.1, x1.2.2.1, ()), h2)
  else
   (bindT (.val (.one .slice)) (makeSliceA E 26 (.int .i64 (Int.ofNat a0.len)) (.int .i64 (Int.ofNat a0.len)) h2) fun (x4 : SL) h5 =>
   (bind3 (f17_l1 N N a0 x1.1 x4 0 h5) fun _ (j36 : (SL × Unit)) h37 =>
   some ((j36.1, 0, 0, ()), h37)))))
noncomputable def ann17 : Ann := (.two .n (.two .n (.two .n (.two .n (.two (.two .n (.two (.loop [(0, (.one .slice)), (5, (.one .slice)), (8, (.one .slice)), (9, (.one (.int .i64)))] [(.exit 0)] [(8, (.one .slice))] (.two .n (.two (.two (.two .n (.two (.loop [(0, (.one .slice)), (5, (.one .slice)), (8, (.one .slice)), (9, (.one (.int .i64))), (10, (.one (.int .i64)))] [(.exit 2)] [(0, (.one .slice)), (5, (.one .slice)), (8, (.one .slice)), (9, (.one (.int .i64)))] .n) .n)) .n) .n))) .n)) .n)))))
theorem f17_ok (N : Nat) : FnOK Try.prog 17 [(.one .slice)] (.tup [(.one .slice), (.one (.int .i64)), (.one (.int .i64))]) (fun x h => f17 N x.1 h) :=
  runK_ok envOK hmix (addCall_ok (f15_ok N) noCalls_ok) (N := N) (x := ann17) (fn := Try.f17) (c := Try.f17.body.getD .skip) (by kernel_rfl) (by kernel_rfl) (by kernel_rfl) (by kernel_rfl) (fun _ _ => by kernel_rfl)

/- usufruct/usufructref1.Ints -/
noncomputable def f18_l1_b (N : Nat) (go : SL → SL → Bool → Int → Heap → Option (Out × (Bool × Unit) × Heap)) (v0 : SL) (v1 : SL) (v4 : Bool) (v5 : Int) (h : Heap) : Option (Out × (Bool × Unit) × Heap) :=
  let x2 : Bool := ltInt v5 (Int.ofNat v0.len)
  (bif x2 then
   (ixK v0.a v0.len v5 1 fun q3 =>
   (bindV (.val (.one (.int .i64))) (h.cell q3) fun (x4 : Int) =>
   (ixK v1.a v1.len v5 1 fun q5 =>
   (bindV (.val (.one (.int .i64))) (h.cell q5) fun (x6 : Int) =>
   let x7 : Bool := !eqInt x4 x6
   (bif x7 then
    some (Out.ret, (false, ()), h)
   else
    let x8 : Int := wrapA .i64 (v5 + 1)
    go v0 v1 v4 x8 h)))))
  else
   some ((Out.exit 0), (v4, ()), h))
noncomputable def f18_l1 (N M : Nat) (v0 : SL) (v1 : SL) (v4 : Bool) (v5 : Int) (h : Heap) : Option (Out × (Bool × Unit) × Heap) := iter (fun go s h => f18_l1_b N (fun v0 v1 v4 v5 h => go (v0, v1, v4, v5, ()) h) s.1 s.2.1 s.2.2.1 s.2.2.2.1 h) M (v0, v1, v4, v5, ()) h
theorem f18_l1_succ (N M : Nat) (v0 : SL) (v1 : SL) (v4 : Bool) (v5 : Int) (h : Heap) : f18_l1 N (M + 1) v0 v1 v4 v5 h = f18_l1_b N (f18_l1 N M) v0 v1 v4 v5 h := rfl
theorem f18_l1_zero (N : Nat) (v0 : SL) (v1 : SL) (v4 : Bool) (v5 : Int) (h : Heap) : f18_l1 N 0 v0 v1 v4 v5 h = none := rfl
noncomputable def f18 (N : Nat) (a0 : SL) (a1 : SL) (h : Heap) : Option (Bool × Heap) :=
  let x1 : Bool := !eqInt (Int.ofNat a0.len) (Int.ofNat a1.len)
  (bif x1 then
   some (false, h)
  else
   (bind3 (f18_l1 N N a0 a1 false 0 h) fun o9 (j10 : (Bool × Unit)) h11 =>
   (bif eqOut o9 (.exit 0) then
    some (true, h11)
   else
    some (j10.1, h11))))
noncomputable def ann18 : Ann := (.two .n (.two .n (.two (.two .n (.two (.loop [(0, (.one .slice)), (1, (.one .slice)), (4, (.one .bool)), (5, (.one (.int .i64)))] [(.exit 0), .ret] [(4, (.one .bool))] .n) .n)) .n)))
theorem f18_ok (N : Nat) : FnOK Try.prog 18 [(.one .slice), (.one .slice)] (.val (.one .bool)) (fun x h => f18 N x.1 x.2.1 h) :=
  runK_ok envOK hmix noCalls_ok (N := N) (x := ann18) (fn := Try.f18) (c := Try.f18.body.getD .skip) (by kernel_rfl) (by kernel_rfl) (by kernel_rfl) (by kernel_rfl) (fun _ _ => by kernel_rfl)

/- usufruct/usufructlaw1.Is -/
noncomputable def f19 (N : Nat) (a0 : AV) (a1 : Int) (a2 : Int) (h : Heap) : Option (Bool × Heap) :=
  (bind2 (f23 N a0 h) fun (x1 : (Int × Int × Unit)) h2 =>
  let x3 : Bool := eqInt x1.1 a1
  (bif x3 then
   let x4 : Bool := eqInt x1.2.1 a2
   some (x4, h2)
  else
   some (false, h2)))
noncomputable def ann19 : Ann := .n
theorem f19_ok (N : Nat) : FnOK Try.prog 19 [(.one .any), (.one (.int .i64)), (.one (.int .i64))] (.val (.one .bool)) (fun x h => f19 N x.1 x.2.1 x.2.2.1 h) :=
  runK_ok envOK hmix (addCall_ok (f23_ok N) noCalls_ok) (N := N) (x := ann19) (fn := Try.f19) (c := Try.f19.body.getD .skip) (by kernel_rfl) (by kernel_rfl) (by kernel_rfl) (by kernel_rfl) (fun _ _ => by kernel_rfl)

/- usufruct/usufructref10.Ring -/
noncomputable def f21_l3_b (N : Nat) (go : SL → Int → SL → Int → Int → Int → Int → Bool → Int → Heap → Option (Out × (SL × Int × SL × Int × Int × Int × Int × Bool × Unit) × Heap)) (v0 : SL) (v5 : Int) (v6 : SL) (v7 : Int) (v8 : Int) (v9 : Int) (v10 : Int) (v11 : Bool) (v12 : Int) (h : Heap) : Option (Out × (SL × Int × SL × Int × Int × Int × Int × Bool × Unit) × Heap) :=
  (ixK v0.a v0.len v7 1 fun q7 =>
  (bindV (.val (.one .slice)) (h.cell q7) fun (x8 : SL) =>
  let x9 : Bool := ltInt v12 (Int.ofNat x8.len)
  (bif x9 then
   (bif v11 then
    let x10 : Int := wrapA .i64 (v12 + 1)
    go v0 v5 v6 v7 v8 v9 v10 true x10 h
   else
    (ixK v0.a v0.len v7 1 fun q11 =>
    (bindV (.val (.one .slice)) (h.cell q11) fun (x12 : SL) =>
    (ixK x12.a x12.len v12 1 fun q13 =>
    (bindV (.val (.one (.int .i64))) (h.cell q13) fun (x14 : Int) =>
    let x15 : Bool := eqInt x14 v10
    let x16 : Int := wrapA .i64 (v12 + 1)
    go v0 v5 v6 v7 v8 v9 v10 x15 x16 h)))))
  else
   some ((Out.exit 4), (v0, v5, v6, v7, v8, v9, v10, v11, ()), h))))
noncomputable def f21_l3 (N M : Nat) (v0 : SL) (v5 : Int) (v6 : SL) (v7 : Int) (v8 : Int) (v9 : Int) (v10 : Int) (v11 : Bool) (v12 : Int) (h : Heap) : Option (Out × (SL × Int × SL × Int × Int × Int × Int × Bool × Unit) × Heap) := iter (fun go s h => f21_l3_b N (fun v0 v5 v6 v7 v8 v9 v10 v11 v12 h => go (v0, v5, v6, v7, v8, v9, v10, v11, v12, ()) h) s.1 s.2.1 s.2.2.1 s.2.2.2.1 s.2.2.2.2.1 s.2.2.2.2.2.1 s.2.2.2.2.2.2.1 s.2.2.2.2.2.2.2.1 s.2.2.2.2.2.2.2.2.1 h) M (v0, v5, v6, v7, v8, v9, v10, v11, v12, ()) h
theorem f21_l3_succ (N M : Nat) (v0 : SL) (v5 : Int) (v6 : SL) (v7 : Int) (v8 : Int) (v9 : Int) (v10 : Int) (v11 : Bool) (v12 : Int) (h : Heap) : f21_l3 N (M + 1) v0 v5 v6 v7 v8 v9 v10 v11 v12 h = f21_l3_b N (f21_l3 N M) v0 v5 v6 v7 v8 v9 v10 v11 v12 h := rfl
theorem f21_l3_zero (N : Nat) (v0 : SL) (v5 : Int) (v6 : SL) (v7 : Int) (v8 : Int) (v9 : Int) (v10 : Int) (v11 : Bool) (v12 : Int) (h : Heap) : f21_l3 N 0 v0 v5 v6 v7 v8 v9 v10 v11 v12 h = none := rfl
noncomputable def f21_l2_b (N : Nat) (go : SL → Int → SL → Int → Int → Int → Int → Heap → Option (Out × (SL × Int × SL × Int × Unit) × Heap)) (v0 : SL) (v5 : Int) (v6 : SL) (v7 : Int) (v8 : Int) (v9 : Int) (v10 : Int) (h : Heap) : Option (Out × (SL × Int × SL × Int × Unit) × Heap) :=
  let x6 : Bool := ltInt v10 (Int.ofNat v0.len)
  (bif x6 then
   (bind3 (f21_l3 N N v0 v5 v6 v7 v8 v9 v10 false 0 h) fun _ (j18 : (SL × Int × SL × Int × Int × Int × Int × Bool × Unit)) h19 =>
   (bind2 (f42 N j18.1 j18.2.2.2.2.2.2.1 h19) fun (x20 : SL) h21 =>
   (ixK x20.a x20.len j18.2.1 1 fun q22 =>
   (bindV (.val (.one (.int .i64))) (h21.cell q22) fun (x23 : Int) =>
   let x24 : Bool := eqInt j18.2.2.2.2.2.2.1 j18.2.1
   (bif x24 then
    (bif j18.2.2.2.2.2.2.2.1 then
     let x25 : Bool := leInt 0 0
     (bif x25 then
      let x26 : Bool := ltInt j18.2.2.2.2.1 0
      (bif x26 then
       let x27 : Int := wrapA .i64 (j18.2.2.2.2.2.2.1 + 1)
       go j18.1 j18.2.1 j18.2.2.1 j18.2.2.2.1 j18.2.2.2.2.2.2.1 0 x27 h21
      else
       let x28 : Bool := ltInt 0 j18.2.2.2.2.2.1
       (bif x28 then
        let x29 : Int := wrapA .i64 (j18.2.2.2.2.2.2.1 + 1)
        go j18.1 j18.2.1 j18.2.2.1 j18.2.2.2.1 j18.2.2.2.2.2.2.1 0 x29 h21
       else
        let x30 : Int := wrapA .i64 (j18.2.2.2.2.2.2.1 + 1)
        go j18.1 j18.2.1 j18.2.2.1 j18.2.2.2.1 j18.2.2.2.2.1 j18.2.2.2.2.2.1 x30 h21))
     else
      let x31 : Int := wrapA .i64 (j18.2.2.2.2.2.2.1 + 1)
      go j18.1 j18.2.1 j18.2.2.1 j18.2.2.2.1 j18.2.2.2.2.1 j18.2.2.2.2.2.1 x31 h21)
    else
     let x32 : Int := wrapA .i64 (j18.2.2.2.2.2.2.1 + 1)
     go j18.1 j18.2.1 j18.2.2.1 j18.2.2.2.1 j18.2.2.2.2.1 j18.2.2.2.2.2.1 x32 h21)
   else
    (bif j18.2.2.2.2.2.2.2.1 then
     let x33 : Bool := leInt 0 x23
     (bif x33 then
      let x34 : Bool := ltInt j18.2.2.2.2.1 0
      (bif x34 then
       let x35 : Int := wrapA .i64 (j18.2.2.2.2.2.2.1 + 1)
       go j18.1 j18.2.1 j18.2.2.1 j18.2.2.2.1 j18.2.2.2.2.2.2.1 x23 x35 h21
      else
       let x36 : Bool := ltInt x23 j18.2.2.2.2.2.1
       (bif x36 then
        let x37 : Int := wrapA .i64 (j18.2.2.2.2.2.2.1 + 1)
        go j18.1 j18.2.1 j18.2.2.1 j18.2.2.2.1 j18.2.2.2.2.2.2.1 x23 x37 h21
       else
        let x38 : Int := wrapA .i64 (j18.2.2.2.2.2.2.1 + 1)
        go j18.1 j18.2.1 j18.2.2.1 j18.2.2.2.1 j18.2.2.2.2.1 j18.2.2.2.2.2.1 x38 h21))
     else
      let x39 : Int := wrapA .i64 (j18.2.2.2.2.2.2.1 + 1)
      go j18.1 j18.2.1 j18.2.2.1 j18.2.2.2.1 j18.2.2.2.2.1 j18.2.2.2.2.2.1 x39 h21)
    else
     let x40 : Int := wrapA .i64 (j18.2.2.2.2.2.2.1 + 1)
     go j18.1 j18.2.1 j18.2.2.1 j18.2.2.2.1 j18.2.2.2.2.1 j18.2.2.2.2.2.1 x40 h21))))))
  else
   some ((Out.exit 2), (v0, v5, v6, v8, ()), h))
noncomputable def f21_l2 (N M : Nat) (v0 : SL) (v5 : Int) (v6 : SL) (v7 : Int) (v8 : Int) (v9 : Int) (v10 : Int) (h : Heap) : Option (Out × (SL × Int × SL × Int × Unit) × Heap) := iter (fun go s h => f21_l2_b N (fun v0 v5 v6 v7 v8 v9 v10 h => go (v0, v5, v6, v7, v8, v9, v10, ()) h) s.1 s.2.1 s.2.2.1 s.2.2.2.1 s.2.2.2.2.1 s.2.2.2.2.2.1 s.2.2.2.2.2.2.1 h) M (v0, v5, v6, v7, v8, v9, v10, ()) h
theorem f21_l2_succ (N M : Nat) (v0 : SL) (v5 : Int) (v6 : SL) (v7 : Int) (v8 : Int) (v9 : Int) (v10 : Int) (h : Heap) : f21_l2 N (M + 1) v0 v5 v6 v7 v8 v9 v10 h = f21_l2_b N (f21_l2 N M) v0 v5 v6 v7 v8 v9 v10 h := rfl
theorem f21_l2_zero (N : Nat) (v0 : SL) (v5 : Int) (v6 : SL) (v7 : Int) (v8 : Int) (v9 : Int) (v10 : Int) (h : Heap) : f21_l2 N 0 v0 v5 v6 v7 v8 v9 v10 h = none := rfl
noncomputable def f21_l1_b (N : Nat) (go : SL → Int → SL → Int → Heap → Option (Out × (SL × Unit) × Heap)) (v0 : SL) (v5 : Int) (v6 : SL) (v7 : Int) (h : Heap) : Option (Out × (SL × Unit) × Heap) :=
  let x5 : Bool := leInt (Int.ofNat v6.len) (Int.ofNat v0.len)
  (bif x5 then
   (bind3 (f21_l2 N N v0 v5 v6 v7 (-1) 0 0 h) fun _ (j42 : (SL × Int × SL × Int × Unit)) h43 =>
   let x44 : Bool := eqInt j42.2.2.2.1 j42.2.1
   (bif x44 then
    some ((Out.exit 0), (j42.2.2.1, ()), h43)
   else
    let x45 : Bool := ltInt j42.2.2.2.1 0
    (bif x45 then
     some ((Out.exit 0), (j42.2.2.1, ()), h43)
    else
     let h46 : Heap := h43.push (.row [(.int .i64 j42.2.2.2.1)] .own)
     (bindT (.val (.one .slice)) (appendA E 26 26 (.slice j42.2.2.1.a j42.2.2.1.len j42.2.2.1.cap j42.2.2.1.sz) (.slice (some (h43.next, 0)) 1 1 1) h46) fun (x47 : SL) h48 =>
     go j42.1 j42.2.1 x47 j42.2.2.2.1 h48))))
  else
   some ((Out.exit 0), (v6, ()), h))
noncomputable def f21_l1 (N M : Nat) (v0 : SL) (v5 : Int) (v6 : SL) (v7 : Int) (h : Heap) : Option (Out × (SL × Unit) × Heap) := iter (fun go s h => f21_l1_b N (fun v0 v5 v6 v7 h => go (v0, v5, v6, v7, ()) h) s.1 s.2.1 s.2.2.1 s.2.2.2.1 h) M (v0, v5, v6, v7, ()) h
theorem f21_l1_succ (N M : Nat) (v0 : SL) (v5 : Int) (v6 : SL) (v7 : Int) (h : Heap) : f21_l1 N (M + 1) v0 v5 v6 v7 h = f21_l1_b N (f21_l1 N M) v0 v5 v6 v7 h := rfl
theorem f21_l1_zero (N : Nat) (v0 : SL) (v5 : Int) (v6 : SL) (v7 : Int) (h : Heap) : f21_l1 N 0 v0 v5 v6 v7 h = none := rfl
noncomputable def f21 (N : Nat) (a0 : SL) (h : Heap) : Option (SL × Heap) :=
  (bind2 (f15 N a0 h) fun (x1 : (SL × Int × Int × Unit)) h2 =>
  let x3 : Bool := !eqInt x1.2.1 42
  (bif x3 then
   some (⟨none, 0, 0, 0⟩, h2)
  else
   let h4 : Heap := h2.push (.row [(.int .i64 x1.2.2.1)] .own)
   (bind3 (f21_l1 N N a0 x1.2.2.1 ⟨(some (h2.next, 0)), 1, 1, 1⟩ x1.2.2.1 h4) fun _ (j50 : (SL × Unit)) h51 =>
   some (j50.1, h51))))
noncomputable def ann21 : Ann := (.two .n (.two .n (.two .n (.two .n (.two .n (.two (.two (.loop [(0, (.one .slice)), (5, (.one (.int .i64))), (6, (.one .slice)), (7, (.one (.int .i64)))] [(.exit 0)] [(6, (.one .slice))] (.two .n (.two (.two .n (.two (.two .n (.two (.loop [(0, (.one .slice)), (5, (.one (.int .i64))), (6, (.one .slice)), (7, (.one (.int .i64))), (8, (.one (.int .i64))), (9, (.one (.int .i64))), (10, (.one (.int .i64)))] [(.exit 2)] [(0, (.one .slice)), (5, (.one (.int .i64))), (6, (.one .slice)), (8, (.one (.int .i64)))] (.two .n (.two (.two (.two .n (.two (.two .n (.two (.loop [(0, (.one .slice)), (5, (.one (.int .i64))), (6, (.one .slice)), (7, (.one (.int .i64))), (8, (.one (.int .i64))), (9, (.one (.int .i64))), (10, (.one (.int .i64))), (11, (.one .bool)), (12, (.one (.int .i64)))] [(.exit 4)] [(0, (.one .slice)), (5, (.one (.int .i64))), (6, (.one .slice)), (7, (.one (.int .i64))), (8, (.one (.int .i64))), (9, (.one (.int .i64))), (10, (.one (.int .i64))), (11, (.one .bool))] .n) .n)) .n)) .n) .n))) .n)) .n)) .n))) .n) .n))))))
theorem f21_ok (N : Nat) : FnOK Try.prog 21 [(.one .slice)] (.val (.one .slice)) (fun x h => f21 N x.1 h) :=
  runK_ok envOK hmix (addCall_ok (f42_ok N) (addCall_ok (f15_ok N) noCalls_ok)) (N := N) (x := ann21) (fn := Try.f21) (c := Try.f21.body.getD .skip) (by kernel_rfl) (by kernel_rfl) (by kernel_rfl) (by kernel_rfl) (fun _ _ => by kernel_rfl)

/- usufruct/usufructref10.Below -/
noncomputable def f22_l1_b (N : Nat) (go : SL → SL → Int → Heap → Option (Out × (SL × Unit) × Heap)) (v7 : SL) (v8 : SL) (v9 : Int) (h : Heap) : Option (Out × (SL × Unit) × Heap) :=
  let x8 : Bool := ltInt v9 (Int.ofNat v8.len)
  (bif x8 then
   (ixK v8.a v8.len v9 1 fun q9 =>
   (bindV (.val (.one (.int .i64))) (h.cell q9) fun (x10 : Int) =>
   let x11 : Bool := ltInt 0 x10
   (bif x11 then
    let h12 : Heap := h.push (.row [(.int .i64 v9)] .own)
    (bindT (.val (.one .slice)) (appendA E 26 26 (.slice v7.a v7.len v7.cap v7.sz) (.slice (some (h.next, 0)) 1 1 1) h12) fun (x13 : SL) h14 =>
    let x15 : Int := wrapA .i64 (v9 + 1)
    go x13 v8 x15 h14)
   else
    let x16 : Int := wrapA .i64 (v9 + 1)
    go v7 v8 x16 h)))
  else
   some ((Out.exit 0), (v7, ()), h))
noncomputable def f22_l1 (N M : Nat) (v7 : SL) (v8 : SL) (v9 : Int) (h : Heap) : Option (Out × (SL × Unit) × Heap) := iter (fun go s h => f22_l1_b N (fun v7 v8 v9 h => go (v7, v8, v9, ()) h) s.1 s.2.1 s.2.2.1 h) M (v7, v8, v9, ()) h
theorem f22_l1_succ (N M : Nat) (v7 : SL) (v8 : SL) (v9 : Int) (h : Heap) : f22_l1 N (M + 1) v7 v8 v9 h = f22_l1_b N (f22_l1 N M) v7 v8 v9 h := rfl
theorem f22_l1_zero (N : Nat) (v7 : SL) (v8 : SL) (v9 : Int) (h : Heap) : f22_l1 N 0 v7 v8 v9 h = none := rfl
noncomputable def f22 (N : Nat) (a0 : SL) (a1 : Int) (h : Heap) : Option (SL × Heap) :=
  (bind2 (f41 N a0 h) fun (x1 : (Int × Int × Unit)) h2 =>
  let x3 : Bool := !eqInt x1.1 0
  (bif x3 then
   some (⟨none, 0, 0, 0⟩, h2)
  else
   let x4 : Bool := ltInt a1 0
   (bif x4 then
    some (⟨none, 0, 0, 0⟩, h2)
   else
    let x5 : Bool := leInt (Int.ofNat a0.len) a1
    (bif x5 then
     some (⟨none, 0, 0, 0⟩, h2)
    else
     (bind2 (f42 N a0 a1 h2) fun (x6 : SL) h7 =>
     (bind3 (f22_l1 N N ⟨none, 0, 0, 0⟩ x6 0 h7) fun _ (j18 : (SL × Unit)) h19 =>
     some (j18.1, h19)))))))
noncomputable def ann22 : Ann := (.two .n (.two .n (.two .n (.two .n (.two (.two .n (.two (.loop [(7, (.one .slice)), (8, (.one .slice)), (9, (.one (.int .i64)))] [(.exit 0)] [(7, (.one .slice))] .n) .n)) .n)))))
theorem f22_ok (N : Nat) : FnOK Try.prog 22 [(.one .slice), (.one (.int .i64))] (.val (.one .slice)) (fun x h => f22 N x.1 x.2.1 h) :=
  runK_ok envOK hmix (addCall_ok (f42_ok N) (addCall_ok (f41_ok N) noCalls_ok)) (N := N) (x := ann22) (fn := Try.f22) (c := Try.f22.body.getD .skip) (by kernel_rfl) (by kernel_rfl) (by kernel_rfl) (by kernel_rfl) (fun _ _ => by kernel_rfl)

/- usufruct/usufructlaw11.GraphOrders -/
noncomputable def f4_l1_b (N : Nat) (go : Int → Bool → SL → SL → Int → Heap → Option (Out × (Int × Bool × SL × Unit) × Heap)) (v2 : Int) (v6 : Bool) (v7 : SL) (v9 : SL) (v21 : Int) (h : Heap) : Option (Out × (Int × Bool × SL × Unit) × Heap) :=
  let x28 : Bool := ltInt v21 (Int.ofNat v7.len)
  (bif x28 then
   (ixK v7.a v7.len v21 1 fun q29 =>
   (bindV (.val (.one .slice)) (h.cell q29) fun (x30 : SL) =>
   (ixK v9.a v9.len v21 1 fun q31 =>
   (bindV (.val (.one .slice)) (h.cell q31) fun (x32 : SL) =>
   (bind2 (f18 N x30 x32 h) fun (x33 : Bool) h34 =>
   let x35 : Bool := !x33
   (bif x35 then
    some (Out.ret, (v2, false, v7, ()), h34)
   else
    let x36 : Int := wrapA .i64 (v21 + 1)
    go v2 v6 v7 v9 x36 h34))))))
  else
   some ((Out.exit 0), (v2, v6, v7, ()), h))
noncomputable def f4_l1 (N M : Nat) (v2 : Int) (v6 : Bool) (v7 : SL) (v9 : SL) (v21 : Int) (h : Heap) : Option (Out × (Int × Bool × SL × Unit) × Heap) := iter (fun go s h => f4_l1_b N (fun v2 v6 v7 v9 v21 h => go (v2, v6, v7, v9, v21, ()) h) s.1 s.2.1 s.2.2.1 s.2.2.2.1 s.2.2.2.2.1 h) M (v2, v6, v7, v9, v21, ()) h
theorem f4_l1_succ (N M : Nat) (v2 : Int) (v6 : Bool) (v7 : SL) (v9 : SL) (v21 : Int) (h : Heap) : f4_l1 N (M + 1) v2 v6 v7 v9 v21 h = f4_l1_b N (f4_l1 N M) v2 v6 v7 v9 v21 h := rfl
theorem f4_l1_zero (N : Nat) (v2 : Int) (v6 : Bool) (v7 : SL) (v9 : SL) (v21 : Int) (h : Heap) : f4_l1 N 0 v2 v6 v7 v9 v21 h = none := rfl
noncomputable def f4 (N : Nat) (a0 : SL) (a1 : Bool) (a2 : Int) (h : Heap) : Option (Bool × Heap) :=
  (bind2 (f10 N a0 a1 h) fun (x1 : (SL × Bool × Unit)) h2 =>
  let x3 : Bool := !x1.2.1
  (bif x3 then
   (bind2 (f11 N  h2) fun (x4 : Bool) h5 =>
   some (x4, h5))
  else
   (bind2 (f10 N x1.1 true h2) fun (x6 : (SL × Bool × Unit)) h7 =>
   (bind2 (f14 N x1.1 h7) fun (x8 : (SL × AV × Unit)) h9 =>
   (bind2 (f15 N x1.1 h9) fun (x10 : (SL × Int × Int × Unit)) h11 =>
   (bind2 (f16 N x1.1 h11) fun (x12 : (SL × AV × Unit)) h13 =>
   (bind2 (f17 N x1.1 h13) fun (x14 : (SL × Int × Int × Unit)) h15 =>
   (bind2 (f18 N x8.1 x10.1 h15) fun (x16 : Bool) h17 =>
   let x18 : Bool := !x16
   (bif x18 then
    some (false, h17)
   else
    (bind2 (f19 N x8.2.1 x10.2.1 x10.2.2.1 h17) fun (x19 : Bool) h20 =>
    let x21 : Bool := !x19
    (bif x21 then
     some (false, h20)
    else
     (bind2 (f18 N x12.1 x14.1 h20) fun (x22 : Bool) h23 =>
     let x24 : Bool := !x22
     (bif x24 then
      some (false, h23)
     else
      (bind2 (f19 N x12.2.1 x14.2.1 x14.2.2.1 h23) fun (x25 : Bool) h26 =>
      let x27 : Bool := !x25
      (bif x27 then
       some (false, h26)
      else
       (bind3 (f4_l1 N N a2 false x1.1 x6.1 0 h26) fun o37 (j38 : (Int × Bool × SL × Unit)) h39 =>
       (bif eqOut o37 (.exit 0) then
        (bind2 (f11 N  h39) fun (x40 : Bool) h41 =>
        (bif x40 then
         (bind2 (f20 N j38.2.2.1 h41) fun (x42 : SL) h43 =>
         (bind2 (f21 N j38.2.2.1 h43) fun (x44 : SL) h45 =>
         (bind2 (f18 N x42 x44 h45) fun (x46 : Bool) h47 =>
         (bif x46 then
          (bind2 (f12 N j38.2.2.1 j38.1 h47) fun (x48 : SL) h49 =>
          (bind2 (f22 N j38.2.2.1 j38.1 h49) fun (x50 : SL) h51 =>
          (bind2 (f18 N x48 x50 h51) fun (x52 : Bool) h53 =>
          some (x52, h53))))
         else
          some (false, h47)))))
        else
         some (false, h41)))
       else
        some (j38.2.1, h39))))))))))))))))))
noncomputable def ann4 : Ann := (.two .n (.two .n (.two .n (.two .n (.two .n (.two .n (.two .n (.two .n (.two .n (.two (.two .n (.two (.loop [(2, (.one (.int .i64))), (6, (.one .bool)), (7, (.one .slice)), (9, (.one .slice)), (21, (.one (.int .i64)))] [(.exit 0), .ret] [(2, (.one (.int .i64))), (6, (.one .bool)), (7, (.one .slice))] .n) .n)) .n))))))))))
theorem f4_ok (N : Nat) : FnOK Try.prog 4 [(.one .slice), (.one .bool), (.one (.int .i64))] (.val (.one .bool)) (fun x h => f4 N x.1 x.2.1 x.2.2.1 h) :=
  runK_ok envOK hmix (addCall_ok (f22_ok N) (addCall_ok (f21_ok N) (addCall_ok (f20_ok N) (addCall_ok (f19_ok N) (addCall_ok (f18_ok N) (addCall_ok (f17_ok N) (addCall_ok (f16_ok N) (addCall_ok (f15_ok N) (addCall_ok (f14_ok N) (addCall_ok (f12_ok N) (addCall_ok (f11_ok N) (addCall_ok (f10_ok N) noCalls_ok)))))))))))) (N := N) (x := ann4) (fn := Try.f4) (c := Try.f4.body.getD .skip) (by kernel_rfl) (by kernel_rfl) (by kernel_rfl) (by kernel_rfl) (fun _ _ => by kernel_rfl)

/- usufruct/usufructlaw28.few -/
noncomputable def f24_l1_b (N : Nat) (go : SL → Bool → Int → Heap → Option (Out × (SL × Bool × Unit) × Heap)) (v0 : SL) (v2 : Bool) (v3 : Int) (h : Heap) : Option (Out × (SL × Bool × Unit) × Heap) :=
  let x1 : Bool := ltInt v3 (Int.ofNat v0.len)
  (bif x1 then
   let x2 : Bool := ltInt v3 20
   (bif x2 then
    (ixK v0.a v0.len v3 1 fun q3 =>
    (bindV (.val (.one .slice)) (h.cell q3) fun (x4 : SL) =>
    let x5 : Bool := ltInt 20 (Int.ofNat x4.len)
    (bif x5 then
     some (Out.ret, (v0, false, ()), h)
    else
     let x6 : Int := wrapA .i64 (v3 + 1)
     go v0 v2 x6 h)))
   else
    some ((Out.exit 0), (v0, v2, ()), h))
  else
   some ((Out.exit 0), (v0, v2, ()), h))
noncomputable def f24_l1 (N M : Nat) (v0 : SL) (v2 : Bool) (v3 : Int) (h : Heap) : Option (Out × (SL × Bool × Unit) × Heap) := iter (fun go s h => f24_l1_b N (fun v0 v2 v3 h => go (v0, v2, v3, ()) h) s.1 s.2.1 s.2.2.1 h) M (v0, v2, v3, ()) h
theorem f24_l1_succ (N M : Nat) (v0 : SL) (v2 : Bool) (v3 : Int) (h : Heap) : f24_l1 N (M + 1) v0 v2 v3 h = f24_l1_b N (f24_l1 N M) v0 v2 v3 h := rfl
theorem f24_l1_zero (N : Nat) (v0 : SL) (v2 : Bool) (v3 : Int) (h : Heap) : f24_l1 N 0 v0 v2 v3 h = none := rfl
noncomputable def f24 (N : Nat) (a0 : SL) (h : Heap) : Option (Bool × Heap) :=
  (bind3 (f24_l1 N N a0 false 0 h) fun o7 (j8 : (SL × Bool × Unit)) h9 =>
  (bif eqOut o7 (.exit 0) then
   let x10 : Bool := leInt (Int.ofNat j8.1.len) 20
   some (x10, h9)
  else
   some (j8.2.1, h9)))
noncomputable def ann24 : Ann := (.two .n (.two (.two .n (.two (.loop [(0, (.one .slice)), (2, (.one .bool)), (3, (.one (.int .i64)))] [(.exit 0), .ret] [(0, (.one .slice)), (2, (.one .bool))] .n) .n)) .n))
theorem f24_ok (N : Nat) : FnOK Try.prog 24 [(.one .slice)] (.val (.one .bool)) (fun x h => f24 N x.1 h) :=
  runK_ok envOK hmix noCalls_ok (N := N) (x := ann24) (fn := Try.f24) (c := Try.f24.body.getD .skip) (by kernel_rfl) (by kernel_rfl) (by kernel_rfl) (by kernel_rfl) (fun _ _ => by kernel_rfl)

/- usufruct/usufructlaw28.told -/
noncomputable def f25 (N : Nat) (h : Heap) : Option (Bool × Heap) := some (true, h)
theorem f25_ok (N : Nat) : FnOK Try.prog 25 [] (.val (.one .bool)) (fun _ h => f25 N h) :=
  fnOK_told envOK (fn := Try.f25) (by kernel_rfl) (by kernel_rfl) (calls_true envOK hmix noNative_ok (fn := Try.f25) (by kernel_rfl) (by kernel_rfl) (args := []) VRs.nil (n := 1000) (by kernel_rfl))

/- usufruct/sched.New -/
noncomputable def f26_l1_b (N : Nat) (go : Option (Nat × Nat) → SL → Int → Int → Heap → Option (Out × (Option (Nat × Nat) × Unit) × Heap)) (v6 : Option (Nat × Nat)) (v22 : SL) (v23 : Int) (v24 : Int) (h : Heap) : Option (Out × (Option (Nat × Nat) × Unit) × Heap) :=
  let x7 : Bool := ltInt v24 v23
  (bif x7 then
   (ixK v22.a v22.len v24 1 fun q8 =>
   (bindV (.val (.one .slice)) (h.cell q8) fun (x9 : SL) =>
   (need v6 fun q10 =>
   (bindV (.val (.one .slice)) (h.cell (q10.1, q10.2 + 0)) fun (x11 : SL) =>
   (bindT (.val (.one .slice)) (appendA E 26 26 (.slice none 0 0 0) (.slice x9.a x9.len x9.cap x9.sz) h) fun (x12 : SL) h13 =>
   let h14 : Heap := h13.push (.row [(.slice x12.a x12.len x12.cap x12.sz)] .own)
   (bindT (.val (.one .slice)) (appendA E 22 22 (.slice x11.a x11.len x11.cap x11.sz) (.slice (some (h13.next, 0)) 1 1 1) h14) fun (x15 : SL) h16 =>
   (need v6 fun q17 =>
   (need (h16.store (q17.1, q17.2 + 0) [(.slice x15.a x15.len x15.cap x15.sz)]) fun h18 =>
   (guardB (bif (sameO (h14.cell (q10.1, q10.2 + 0)) (.slice x11.a x11.len x11.cap x11.sz)) then (bif (sameO (h13.cell (q10.1, q10.2 + 0)) (.slice x11.a x11.len x11.cap x11.sz)) then (bif (sameO (h.cell (q10.1, q10.2 + 0)) (.slice x11.a x11.len x11.cap x11.sz)) then true else false) else false) else false) (
   let x19 : Int := wrapA .i64 (v24 + 1)
   go v6 v22 v23 x19 h18))))))))))
  else
   some ((Out.exit 0), (v6, ()), h))
noncomputable def f26_l1 (N M : Nat) (v6 : Option (Nat × Nat)) (v22 : SL) (v23 : Int) (v24 : Int) (h : Heap) : Option (Out × (Option (Nat × Nat) × Unit) × Heap) := iter (fun go s h => f26_l1_b N (fun v6 v22 v23 v24 h => go (v6, v22, v23, v24, ()) h) s.1 s.2.1 s.2.2.1 s.2.2.2.1 h) M (v6, v22, v23, v24, ()) h
theorem f26_l1_succ (N M : Nat) (v6 : Option (Nat × Nat)) (v22 : SL) (v23 : Int) (v24 : Int) (h : Heap) : f26_l1 N (M + 1) v6 v22 v23 v24 h = f26_l1_b N (f26_l1 N M) v6 v22 v23 v24 h := rfl
theorem f26_l1_zero (N : Nat) (v6 : Option (Nat × Nat)) (v22 : SL) (v23 : Int) (v24 : Int) (h : Heap) : f26_l1 N 0 v6 v22 v23 v24 h = none := rfl
noncomputable def f26 (N : Nat) (a0 : SL) (h : Heap) : Option ((Option (Nat × Nat) × AV × Unit) × Heap) :=
  (bind2 (f14 N a0 h) fun (x1 : (SL × AV × Unit)) h2 =>
  (bindV (.val (.one .bool)) (binA E .neq 32 (.tmp 14) (.const .nilIface) x1.2.1 AV.nilIface) fun (x3 : Bool) =>
  (bif x3 then
   some ((none, x1.2.1, ()), h2)
  else
   (bindT (.val (.one .slice)) (makeSliceA E 26 (.int .i64 (Int.ofNat a0.len)) (.int .i64 (Int.ofNat a0.len)) h2) fun (x4 : SL) h5 =>
   let h6 : Heap := h5.push (.row [(.slice none 0 0 0), (.slice x4.a x4.len x4.cap x4.sz)] .own)
   (bind3 (f26_l1 N N (some (h5.next, 0)) a0 (Int.ofNat a0.len) 0 h6) fun _ (j21 : (Option (Nat × Nat) × Unit)) h22 =>
   some ((j21.1, AV.nilIface, ()), h22))))))
noncomputable def ann26 : Ann := (.two .n (.two .n (.two .n (.two (.two .n (.two (.loop [(6, (.one .ptr)), (22, (.one .slice)), (23, (.one (.int .i64))), (24, (.one (.int .i64)))] [(.exit 0)] [(6, (.one .ptr))] .n) .n)) .n))))
theorem f26_ok (N : Nat) : FnOK Try.prog 26 [(.one .slice)] (.tup [(.one .ptr), (.one .any)]) (fun x h => f26 N x.1 h) :=
  runK_ok envOK hmix (addCall_ok (f14_ok N) noCalls_ok) (N := N) (x := ann26) (fn := Try.f26) (c := Try.f26.body.getD .skip) (by kernel_rfl) (by kernel_rfl) (by kernel_rfl) (by kernel_rfl) (fun _ _ => by kernel_rfl)

/- (*usufruct/sched.Plan).now -/
noncomputable def f47_l1_b (N : Nat) (go : Option (Nat × Nat) → Int → Bool → Bool → SL → Int → Int → Heap → Option (Out × (Option (Nat × Nat) × Int × Bool × Bool × Unit) × Heap)) (v0 : Option (Nat × Nat)) (v1 : Int) (v5 : Bool) (v6 : Bool) (v15 : SL) (v16 : Int) (v17 : Int) (h : Heap) : Option (Out × (Option (Nat × Nat) × Int × Bool × Bool × Unit) × Heap) :=
  let x5 : Bool := ltInt v17 v16
  (bif x5 then
   (ixK v15.a v15.len v17 1 fun q6 =>
   (bindV (.val (.one (.int .i64))) (h.cell q6) fun (x7 : Int) =>
   (bif v5 then
    (bif v6 then
     let x8 : Int := wrapA .i64 (v17 + 1)
     go v0 v1 true true v15 v16 x8 h
    else
     (need v0 fun q9 =>
     (bindV (.val (.one .slice)) (h.cell (q9.1, q9.2 + 1)) fun (x10 : SL) =>
     (ixK x10.a x10.len x7 1 fun q11 =>
     (bindV (.val (.one (.int .i64))) (h.cell q11) fun (x12 : Int) =>
     let x13 : Bool := eqInt x12 2
     let x14 : Int := wrapA .i64 (v17 + 1)
     go v0 v1 true x13 v15 v16 x14 h)))))
   else
    (need v0 fun q15 =>
    (bindV (.val (.one .slice)) (h.cell (q15.1, q15.2 + 1)) fun (x16 : SL) =>
    (ixK x16.a x16.len x7 1 fun q17 =>
    (bindV (.val (.one (.int .i64))) (h.cell q17) fun (x18 : Int) =>
    let x19 : Bool := eqInt x18 0
    (bif v6 then
     let x20 : Int := wrapA .i64 (v17 + 1)
     go v0 v1 x19 true v15 v16 x20 h
    else
     (need v0 fun q21 =>
     (bindV (.val (.one .slice)) (h.cell (q21.1, q21.2 + 1)) fun (x22 : SL) =>
     (ixK x22.a x22.len x7 1 fun q23 =>
     (bindV (.val (.one (.int .i64))) (h.cell q23) fun (x24 : Int) =>
     let x25 : Bool := eqInt x24 2
     let x26 : Int := wrapA .i64 (v17 + 1)
     go v0 v1 x19 x25 v15 v16 x26 h))))))))))))
  else
   some ((Out.exit 0), (v0, v1, v5, v6, ()), h))
noncomputable def f47_l1 (N M : Nat) (v0 : Option (Nat × Nat)) (v1 : Int) (v5 : Bool) (v6 : Bool) (v15 : SL) (v16 : Int) (v17 : Int) (h : Heap) : Option (Out × (Option (Nat × Nat) × Int × Bool × Bool × Unit) × Heap) := iter (fun go s h => f47_l1_b N (fun v0 v1 v5 v6 v15 v16 v17 h => go (v0, v1, v5, v6, v15, v16, v17, ()) h) s.1 s.2.1 s.2.2.1 s.2.2.2.1 s.2.2.2.2.1 s.2.2.2.2.2.1 s.2.2.2.2.2.2.1 h) M (v0, v1, v5, v6, v15, v16, v17, ()) h
theorem f47_l1_succ (N M : Nat) (v0 : Option (Nat × Nat)) (v1 : Int) (v5 : Bool) (v6 : Bool) (v15 : SL) (v16 : Int) (v17 : Int) (h : Heap) : f47_l1 N (M + 1) v0 v1 v5 v6 v15 v16 v17 h = f47_l1_b N (f47_l1 N M) v0 v1 v5 v6 v15 v16 v17 h := rfl
theorem f47_l1_zero (N : Nat) (v0 : Option (Nat × Nat)) (v1 : Int) (v5 : Bool) (v6 : Bool) (v15 : SL) (v16 : Int) (v17 : Int) (h : Heap) : f47_l1 N 0 v0 v1 v5 v6 v15 v16 v17 h = none := rfl
noncomputable def f47 (N : Nat) (a0 : Option (Nat × Nat)) (a1 : Int) (h : Heap) : Option (Int × Heap) :=
  (need a0 fun q1 =>
  (bindV (.val (.one .slice)) (h.cell (q1.1, q1.2 + 0)) fun (x2 : SL) =>
  (ixK x2.a x2.len a1 1 fun q3 =>
  (bindV (.val (.one .slice)) (h.cell q3) fun (x4 : SL) =>
  (bind3 (f47_l1 N N a0 a1 false false x4 (Int.ofNat x4.len) 0 h) fun _ (j28 : (Option (Nat × Nat) × Int × Bool × Bool × Unit)) h29 =>
  (need j28.1 fun q30 =>
  (bindV (.val (.one .slice)) (h29.cell (q30.1, q30.2 + 1)) fun (x31 : SL) =>
  (ixK x31.a x31.len j28.2.1 1 fun q32 =>
  (bindV (.val (.one (.int .i64))) (h29.cell q32) fun (x33 : Int) =>
  let x34 : Bool := eqInt x33 2
  (bif x34 then
   some (3, h29)
  else
   let x35 : Bool := eqInt x33 1
   (bif x35 then
    some (3, h29)
   else
    (bif j28.2.2.2.1 then
     some (2, h29)
    else
     (bif j28.2.2.1 then
      some (0, h29)
     else
      some (1, h29))))))))))))))
noncomputable def ann47 : Ann := (.two .n (.two .n (.two (.two .n (.two (.loop [(0, (.one .ptr)), (1, (.one (.int .i64))), (5, (.one .bool)), (6, (.one .bool)), (15, (.one .slice)), (16, (.one (.int .i64))), (17, (.one (.int .i64)))] [(.exit 0)] [(0, (.one .ptr)), (1, (.one (.int .i64))), (5, (.one .bool)), (6, (.one .bool))] .n) .n)) .n)))
theorem f47_ok (N : Nat) : FnOK Try.prog 47 [(.one .ptr), (.one (.int .i64))] (.val (.one (.int .i64))) (fun x h => f47 N x.1 x.2.1 h) :=
  runK_ok envOK hmix noCalls_ok (N := N) (x := ann47) (fn := Try.f47) (c := Try.f47.body.getD .skip) (by kernel_rfl) (by kernel_rfl) (by kernel_rfl) (by kernel_rfl) (fun _ _ => by kernel_rfl)

/- (*usufruct/sched.Plan).all -/
noncomputable def f45_l1_b (N : Nat) (go : Option (Nat × Nat) → Int → SL → Int → Int → Heap → Option (Out × (SL × Unit) × Heap)) (v0 : Option (Nat × Nat)) (v1 : Int) (v5 : SL) (v13 : Int) (v14 : Int) (h : Heap) : Option (Out × (SL × Unit) × Heap) :=
  let x3 : Bool := ltInt v14 v13
  (bif x3 then
   (bind2 (f47 N v0 v14 h) fun (x4 : Int) h5 =>
   let x6 : Bool := eqInt x4 v1
   (bif x6 then
    let h7 : Heap := h5.push (.row [(.int .i64 v14)] .own)
    (bindT (.val (.one .slice)) (appendA E 26 26 (.slice v5.a v5.len v5.cap v5.sz) (.slice (some (h5.next, 0)) 1 1 1) h7) fun (x8 : SL) h9 =>
    let x10 : Int := wrapA .i64 (v14 + 1)
    go v0 v1 x8 v13 x10 h9)
   else
    let x11 : Int := wrapA .i64 (v14 + 1)
    go v0 v1 v5 v13 x11 h5))
  else
   some ((Out.exit 0), (v5, ()), h))
noncomputable def f45_l1 (N M : Nat) (v0 : Option (Nat × Nat)) (v1 : Int) (v5 : SL) (v13 : Int) (v14 : Int) (h : Heap) : Option (Out × (SL × Unit) × Heap) := iter (fun go s h => f45_l1_b N (fun v0 v1 v5 v13 v14 h => go (v0, v1, v5, v13, v14, ()) h) s.1 s.2.1 s.2.2.1 s.2.2.2.1 s.2.2.2.2.1 h) M (v0, v1, v5, v13, v14, ()) h
theorem f45_l1_succ (N M : Nat) (v0 : Option (Nat × Nat)) (v1 : Int) (v5 : SL) (v13 : Int) (v14 : Int) (h : Heap) : f45_l1 N (M + 1) v0 v1 v5 v13 v14 h = f45_l1_b N (f45_l1 N M) v0 v1 v5 v13 v14 h := rfl
theorem f45_l1_zero (N : Nat) (v0 : Option (Nat × Nat)) (v1 : Int) (v5 : SL) (v13 : Int) (v14 : Int) (h : Heap) : f45_l1 N 0 v0 v1 v5 v13 v14 h = none := rfl
noncomputable def f45 (N : Nat) (a0 : Option (Nat × Nat)) (a1 : Int) (h : Heap) : Option (SL × Heap) :=
  (bif a0.isNone then
   some (⟨none, 0, 0, 0⟩, h)
  else
   (need a0 fun q1 =>
   (bindV (.val (.one .slice)) (h.cell (q1.1, q1.2 + 1)) fun (x2 : SL) =>
   (bind3 (f45_l1 N N a0 a1 ⟨none, 0, 0, 0⟩ (Int.ofNat x2.len) 0 h) fun _ (j13 : (SL × Unit)) h14 =>
   some (j13.1, h14)))))
noncomputable def ann45 : Ann := (.two .n (.two .n (.two .n (.two (.two .n (.two (.loop [(0, (.one .ptr)), (1, (.one (.int .i64))), (5, (.one .slice)), (13, (.one (.int .i64))), (14, (.one (.int .i64)))] [(.exit 0)] [(5, (.one .slice))] .n) .n)) .n))))
theorem f45_ok (N : Nat) : FnOK Try.prog 45 [(.one .ptr), (.one (.int .i64))] (.val (.one .slice)) (fun x h => f45 N x.1 x.2.1 h) :=
  runK_ok envOK hmix (addCall_ok (f47_ok N) noCalls_ok) (N := N) (x := ann45) (fn := Try.f45) (c := Try.f45.body.getD .skip) (by kernel_rfl) (by kernel_rfl) (by kernel_rfl) (by kernel_rfl) (fun _ _ => by kernel_rfl)

/- (*usufruct/sched.Plan).Ready -/
noncomputable def f28 (N : Nat) (a0 : Option (Nat × Nat)) (h : Heap) : Option (SL × Heap) :=
  (bind2 (f45 N a0 1 h) fun (x1 : SL) h2 =>
  some (x1, h2))
noncomputable def ann28 : Ann := .n
theorem f28_ok (N : Nat) : FnOK Try.prog 28 [(.one .ptr)] (.val (.one .slice)) (fun x h => f28 N x.1 h) :=
  runK_ok envOK hmix (addCall_ok (f45_ok N) noCalls_ok) (N := N) (x := ann28) (fn := Try.f28) (c := Try.f28.body.getD .skip) (by kernel_rfl) (by kernel_rfl) (by kernel_rfl) (by kernel_rfl) (fun _ _ => by kernel_rfl)

/- (*usufruct/sched.Plan).Blocked -/
noncomputable def f33 (N : Nat) (a0 : Option (Nat × Nat)) (h : Heap) : Option (SL × Heap) :=
  (bind2 (f45 N a0 2 h) fun (x1 : SL) h2 =>
  some (x1, h2))
noncomputable def ann33 : Ann := .n
theorem f33_ok (N : Nat) : FnOK Try.prog 33 [(.one .ptr)] (.val (.one .slice)) (fun x h => f33 N x.1 h) :=
  runK_ok envOK hmix (addCall_ok (f45_ok N) noCalls_ok) (N := N) (x := ann33) (fn := Try.f33) (c := Try.f33.body.getD .skip) (by kernel_rfl) (by kernel_rfl) (by kernel_rfl) (by kernel_rfl) (fun _ _ => by kernel_rfl)

/- (*usufruct/sched.Plan).Done -/
noncomputable def f30 (N : Nat) (a0 : Option (Nat × Nat)) (a1 : Int) (a2 : Bool) (h : Heap) : Option (AV × Heap) :=
  (bif a0.isNone then
   (bind2 (f46 N 1 0 h) fun (x1 : AV) h2 =>
   some (x1, h2))
  else
   let x3 : Bool := ltInt a1 0
   (bif x3 then
    (bind2 (f46 N 2 0 h) fun (x4 : AV) h5 =>
    some (x4, h5))
   else
    (need a0 fun q6 =>
    (bindV (.val (.one .slice)) (h.cell (q6.1, q6.2 + 1)) fun (x7 : SL) =>
    let x8 : Bool := leInt (Int.ofNat x7.len) a1
    (bif x8 then
     (bind2 (f46 N 2 0 h) fun (x9 : AV) h10 =>
     some (x9, h10))
    else
     (bind2 (f47 N a0 a1 h) fun (x11 : Int) h12 =>
     let x13 : Bool := !eqInt x11 1
     (bif x13 then
      (bind2 (f47 N a0 a1 h12) fun (x14 : Int) h15 =>
      let x16 : Bool := !eqInt x14 2
      (bif x16 then
       (bind2 (f46 N 13 0 h15) fun (x17 : AV) h18 =>
       some (x17, h18))
      else
       (bif a2 then
        (bind2 (f46 N 13 0 h15) fun (x19 : AV) h20 =>
        some (x19, h20))
       else
        (need a0 fun q21 =>
        (bindV (.val (.one .slice)) (h15.cell (q21.1, q21.2 + 1)) fun (x22 : SL) =>
        (ixK x22.a x22.len a1 1 fun q23 =>
        (need (h15.store q23 [(.int .i64 2)]) fun h24 =>
        (bif a2 then
         (need a0 fun q25 =>
         (bindV (.val (.one .slice)) (h24.cell (q25.1, q25.2 + 1)) fun (x26 : SL) =>
         (ixK x26.a x26.len a1 1 fun q27 =>
         (need (h24.store q27 [(.int .i64 1)]) fun h28 =>
         some (AV.nilIface, h28)))))
        else
         some (AV.nilIface, h24)))))))))
     else
      (need a0 fun q29 =>
      (bindV (.val (.one .slice)) (h12.cell (q29.1, q29.2 + 1)) fun (x30 : SL) =>
      (ixK x30.a x30.len a1 1 fun q31 =>
      (need (h12.store q31 [(.int .i64 2)]) fun h32 =>
      (bif a2 then
       (need a0 fun q33 =>
       (bindV (.val (.one .slice)) (h32.cell (q33.1, q33.2 + 1)) fun (x34 : SL) =>
       (ixK x34.a x34.len a1 1 fun q35 =>
       (need (h32.store q35 [(.int .i64 1)]) fun h36 =>
       some (AV.nilIface, h36)))))
      else
       some (AV.nilIface, h32)))))))))))))
noncomputable def ann30 : Ann := .n
theorem f30_ok (N : Nat) : FnOK Try.prog 30 [(.one .ptr), (.one (.int .i64)), (.one .bool)] (.val (.one .any)) (fun x h => f30 N x.1 x.2.1 x.2.2.1 h) :=
  runK_ok envOK hmix (addCall_ok (f47_ok N) (addCall_ok (f46_ok N) noCalls_ok)) (N := N) (x := ann30) (fn := Try.f30) (c := Try.f30.body.getD .skip) (by kernel_rfl) (by kernel_rfl) (by kernel_rfl) (by kernel_rfl) (fun _ _ => by kernel_rfl)

/- usufruct/usufructlaw28.run -/
noncomputable def f37_l1_b (N : Nat) (go : Option (Nat × Nat) → SL → SL → Int → Bool → Int → Heap → Option (Out × (Bool × Unit) × Heap)) (v0 : Option (Nat × Nat)) (v1 : SL) (v2 : SL) (v3 : Int) (v8 : Bool) (v9 : Int) (h : Heap) : Option (Out × (Bool × Unit) × Heap) :=
  let x1 : Bool := ltInt v9 v3
  (bif x1 then
   let h2 : Heap := h.push (.row [] .own)
   (bind2 (f28 N v0 h2) fun (x3 : SL) h4 =>
   (bindT (.val (.one .slice)) (appendA E 26 26 (.slice (some (h.next, 0)) 0 0 1) (.slice x3.a x3.len x3.cap x3.sz) h4) fun (x5 : SL) h6 =>
   (bind2 (f33 N v0 h6) fun (x7 : SL) h8 =>
   (bindT (.val (.one .slice)) (appendA E 26 26 (.slice x5.a x5.len x5.cap x5.sz) (.slice x7.a x7.len x7.cap x7.sz) h8) fun (x9 : SL) h10 =>
   let x11 : Bool := eqInt (Int.ofNat x9.len) 0
   (bif x11 then
    some (Out.ret, (false, ()), h10)
   else
    let x12 : Bool := ltInt v9 (Int.ofNat v2.len)
    (bif x12 then
     (ixK v2.a v2.len v9 1 fun q13 =>
     (bindV (.val (.one (.int .i64))) (h10.cell q13) fun (x14 : Int) =>
     (bindV (.val (.one (.int .i64))) (binInt .rem .i64 x14 (Int.ofNat x9.len)) fun (x15 : Int) =>
     let x16 : Int := wrapA .i64 (x15 + (Int.ofNat x9.len))
     (bindV (.val (.one (.int .i64))) (binInt .rem .i64 x16 (Int.ofNat x9.len)) fun (x17 : Int) =>
     (bind2 (f28 N v0 h10) fun (x18 : SL) h19 =>
     let x20 : Bool := ltInt x17 (Int.ofNat x18.len)
     (bif x20 then
      (ixK x9.a x9.len x17 1 fun q21 =>
      (bindV (.val (.one (.int .i64))) (h19.cell q21) fun (x22 : Int) =>
      let x23 : Bool := ltInt x22 (Int.ofNat v1.len)
      (bif x23 then
       (ixK x9.a x9.len x17 1 fun q24 =>
       (bindV (.val (.one (.int .i64))) (h19.cell q24) fun (x25 : Int) =>
       (ixK v1.a v1.len x25 1 fun q26 =>
       (bindV (.val (.one .bool)) (h19.cell q26) fun (x27 : Bool) =>
       let x28 : Bool := !x27
       (ixK x9.a x9.len x17 1 fun q29 =>
       (bindV (.val (.one (.int .i64))) (h19.cell q29) fun (x30 : Int) =>
       (bind2 (f30 N v0 x30 x28 h19) fun (x31 : AV) h32 =>
       (bindV (.val (.one .bool)) (binA E .neq 32 (.tmp 75) (.const .nilIface) x31 AV.nilIface) fun (x33 : Bool) =>
       (bif x33 then
        some (Out.ret, (false, ()), h32)
       else
        let x34 : Int := wrapA .i64 (v9 + 1)
        go v0 v1 v2 v3 v8 x34 h32)))))))))
      else
       (ixK x9.a x9.len x17 1 fun q35 =>
       (bindV (.val (.one (.int .i64))) (h19.cell q35) fun (x36 : Int) =>
       (bind2 (f30 N v0 x36 true h19) fun (x37 : AV) h38 =>
       (bindV (.val (.one .bool)) (binA E .neq 32 (.tmp 75) (.const .nilIface) x37 AV.nilIface) fun (x39 : Bool) =>
       (bif x39 then
        some (Out.ret, (false, ()), h38)
       else
        let x40 : Int := wrapA .i64 (v9 + 1)
        go v0 v1 v2 v3 v8 x40 h38))))))))
     else
      (ixK x9.a x9.len x17 1 fun q41 =>
      (bindV (.val (.one (.int .i64))) (h19.cell q41) fun (x42 : Int) =>
      (bind2 (f30 N v0 x42 false h19) fun (x43 : AV) h44 =>
      (bindV (.val (.one .bool)) (binA E .neq 32 (.tmp 75) (.const .nilIface) x43 AV.nilIface) fun (x45 : Bool) =>
      (bif x45 then
       some (Out.ret, (false, ()), h44)
      else
       let x46 : Int := wrapA .i64 (v9 + 1)
       go v0 v1 v2 v3 v8 x46 h44)))))))))))
    else
     (bind2 (f28 N v0 h10) fun (x47 : SL) h48 =>
     let x49 : Bool := ltInt 0 (Int.ofNat x47.len)
     (bif x49 then
      (ixK x9.a x9.len 0 1 fun q50 =>
      (bindV (.val (.one (.int .i64))) (h48.cell q50) fun (x51 : Int) =>
      let x52 : Bool := ltInt x51 (Int.ofNat v1.len)
      (bif x52 then
       (ixK x9.a x9.len 0 1 fun q53 =>
       (bindV (.val (.one (.int .i64))) (h48.cell q53) fun (x54 : Int) =>
       (ixK v1.a v1.len x54 1 fun q55 =>
       (bindV (.val (.one .bool)) (h48.cell q55) fun (x56 : Bool) =>
       let x57 : Bool := !x56
       (ixK x9.a x9.len 0 1 fun q58 =>
       (bindV (.val (.one (.int .i64))) (h48.cell q58) fun (x59 : Int) =>
       (bind2 (f30 N v0 x59 x57 h48) fun (x60 : AV) h61 =>
       (bindV (.val (.one .bool)) (binA E .neq 32 (.tmp 75) (.const .nilIface) x60 AV.nilIface) fun (x62 : Bool) =>
       (bif x62 then
        some (Out.ret, (false, ()), h61)
       else
        let x63 : Int := wrapA .i64 (v9 + 1)
        go v0 v1 v2 v3 v8 x63 h61)))))))))
      else
       (ixK x9.a x9.len 0 1 fun q64 =>
       (bindV (.val (.one (.int .i64))) (h48.cell q64) fun (x65 : Int) =>
       (bind2 (f30 N v0 x65 true h48) fun (x66 : AV) h67 =>
       (bindV (.val (.one .bool)) (binA E .neq 32 (.tmp 75) (.const .nilIface) x66 AV.nilIface) fun (x68 : Bool) =>
       (bif x68 then
        some (Out.ret, (false, ()), h67)
       else
        let x69 : Int := wrapA .i64 (v9 + 1)
        go v0 v1 v2 v3 v8 x69 h67))))))))
     else
      (ixK x9.a x9.len 0 1 fun q70 =>
      (bindV (.val (.one (.int .i64))) (h48.cell q70) fun (x71 : Int) =>
      (bind2 (f30 N v0 x71 false h48) fun (x72 : AV) h73 =>
      (bindV (.val (.one .bool)) (binA E .neq 32 (.tmp 75) (.const .nilIface) x72 AV.nilIface) fun (x74 : Bool) =>
      (bif x74 then
       some (Out.ret, (false, ()), h73)
      else
       let x75 : Int := wrapA .i64 (v9 + 1)
       go v0 v1 v2 v3 v8 x75 h73)))))))))))))
  else
   some ((Out.exit 0), (v8, ()), h))
noncomputable def f37_l1 (N M : Nat) (v0 : Option (Nat × Nat)) (v1 : SL) (v2 : SL) (v3 : Int) (v8 : Bool) (v9 : Int) (h : Heap) : Option (Out × (Bool × Unit) × Heap) := iter (fun go s h => f37_l1_b N (fun v0 v1 v2 v3 v8 v9 h => go (v0, v1, v2, v3, v8, v9, ()) h) s.1 s.2.1 s.2.2.1 s.2.2.2.1 s.2.2.2.2.1 s.2.2.2.2.2.1 h) M (v0, v1, v2, v3, v8, v9, ()) h
theorem f37_l1_succ (N M : Nat) (v0 : Option (Nat × Nat)) (v1 : SL) (v2 : SL) (v3 : Int) (v8 : Bool) (v9 : Int) (h : Heap) : f37_l1 N (M + 1) v0 v1 v2 v3 v8 v9 h = f37_l1_b N (f37_l1 N M) v0 v1 v2 v3 v8 v9 h := rfl
theorem f37_l1_zero (N : Nat) (v0 : Option (Nat × Nat)) (v1 : SL) (v2 : SL) (v3 : Int) (v8 : Bool) (v9 : Int) (h : Heap) : f37_l1 N 0 v0 v1 v2 v3 v8 v9 h = none := rfl
noncomputable def f37 (N : Nat) (a0 : Option (Nat × Nat)) (a1 : SL) (a2 : SL) (a3 : Int) (h : Heap) : Option (Bool × Heap) :=
  (bind3 (f37_l1 N N a0 a1 a2 a3 false 0 h) fun o76 (j77 : (Bool × Unit)) h78 =>
  (bif eqOut o76 (.exit 0) then
   some (true, h78)
  else
   some (j77.1, h78)))
noncomputable def ann37 : Ann := (.two .n (.two (.two .n (.two (.loop [(0, (.one .ptr)), (1, (.one .slice)), (2, (.one .slice)), (3, (.one (.int .i64))), (8, (.one .bool)), (9, (.one (.int .i64)))] [(.exit 0), .ret] [(8, (.one .bool))] .n) .n)) .n))
theorem f37_ok (N : Nat) : FnOK Try.prog 37 [(.one .ptr), (.one .slice), (.one .slice), (.one (.int .i64))] (.val (.one .bool)) (fun x h => f37 N x.1 x.2.1 x.2.2.1 x.2.2.2.1 h) :=
  runK_ok envOK hmix (addCall_ok (f33_ok N) (addCall_ok (f30_ok N) (addCall_ok (f28_ok N) noCalls_ok))) (N := N) (x := ann37) (fn := Try.f37) (c := Try.f37.body.getD .skip) (by kernel_rfl) (by kernel_rfl) (by kernel_rfl) (by kernel_rfl) (fun _ _ => by kernel_rfl)

/- (*usufruct/sched.Plan).Left -/
noncomputable def f29_l1_b (N : Nat) (go : Int → SL → Int → Int → Heap → Option (Out × (Int × Unit) × Heap)) (v3 : Int) (v11 : SL) (v12 : Int) (v13 : Int) (h : Heap) : Option (Out × (Int × Unit) × Heap) :=
  let x4 : Bool := ltInt v13 v12
  (bif x4 then
   (ixK v11.a v11.len v13 1 fun q5 =>
   (bindV (.val (.one (.int .i64))) (h.cell q5) fun (x6 : Int) =>
   let x7 : Bool := eqInt x6 0
   (bif x7 then
    let x8 : Int := wrapA .i64 (v3 + 1)
    let x9 : Int := wrapA .i64 (v13 + 1)
    go x8 v11 v12 x9 h
   else
    let x10 : Int := wrapA .i64 (v13 + 1)
    go v3 v11 v12 x10 h)))
  else
   some ((Out.exit 0), (v3, ()), h))
noncomputable def f29_l1 (N M : Nat) (v3 : Int) (v11 : SL) (v12 : Int) (v13 : Int) (h : Heap) : Option (Out × (Int × Unit) × Heap) := iter (fun go s h => f29_l1_b N (fun v3 v11 v12 v13 h => go (v3, v11, v12, v13, ()) h) s.1 s.2.1 s.2.2.1 s.2.2.2.1 h) M (v3, v11, v12, v13, ()) h
theorem f29_l1_succ (N M : Nat) (v3 : Int) (v11 : SL) (v12 : Int) (v13 : Int) (h : Heap) : f29_l1 N (M + 1) v3 v11 v12 v13 h = f29_l1_b N (f29_l1 N M) v3 v11 v12 v13 h := rfl
theorem f29_l1_zero (N : Nat) (v3 : Int) (v11 : SL) (v12 : Int) (v13 : Int) (h : Heap) : f29_l1 N 0 v3 v11 v12 v13 h = none := rfl
noncomputable def f29 (N : Nat) (a0 : Option (Nat × Nat)) (h : Heap) : Option (Int × Heap) :=
  let x1 : Bool := (!a0.isNone)
  (bif x1 then
   (need a0 fun q2 =>
   (bindV (.val (.one .slice)) (h.cell (q2.1, q2.2 + 1)) fun (x3 : SL) =>
   (bind3 (f29_l1 N N 0 x3 (Int.ofNat x3.len) 0 h) fun _ (j12 : (Int × Unit)) h13 =>
   some (j12.1, h13))))
  else
   some (0, h))
noncomputable def ann29 : Ann := (.two .n (.two .n (.two (.two .n (.two (.two .n (.two (.loop [(3, (.one (.int .i64))), (11, (.one .slice)), (12, (.one (.int .i64))), (13, (.one (.int .i64)))] [(.exit 0)] [(3, (.one (.int .i64)))] .n) .n)) .n)) .n)))
theorem f29_ok (N : Nat) : FnOK Try.prog 29 [(.one .ptr)] (.val (.one (.int .i64))) (fun x h => f29 N x.1 h) :=
  runK_ok envOK hmix noCalls_ok (N := N) (x := ann29) (fn := Try.f29) (c := Try.f29.body.getD .skip) (by kernel_rfl) (by kernel_rfl) (by kernel_rfl) (by kernel_rfl) (fun _ _ => by kernel_rfl)

/- (*usufruct/sched.Plan).State -/
noncomputable def f36 (N : Nat) (a0 : Option (Nat × Nat)) (a1 : Int) (h : Heap) : Option ((Bool × Bool × Unit) × Heap) :=
  (bif a0.isNone then
   some ((false, false, ()), h)
  else
   let x1 : Bool := ltInt a1 0
   (bif x1 then
    some ((false, false, ()), h)
   else
    (need a0 fun q2 =>
    (bindV (.val (.one .slice)) (h.cell (q2.1, q2.2 + 1)) fun (x3 : SL) =>
    let x4 : Bool := leInt (Int.ofNat x3.len) a1
    (bif x4 then
     some ((false, false, ()), h)
    else
     (need a0 fun q5 =>
     (bindV (.val (.one .slice)) (h.cell (q5.1, q5.2 + 1)) fun (x6 : SL) =>
     (ixK x6.a x6.len a1 1 fun q7 =>
     (bindV (.val (.one (.int .i64))) (h.cell q7) fun (x8 : Int) =>
     let x9 : Bool := !eqInt x8 0
     (need a0 fun q10 =>
     (bindV (.val (.one .slice)) (h.cell (q10.1, q10.2 + 1)) fun (x11 : SL) =>
     (ixK x11.a x11.len a1 1 fun q12 =>
     (bindV (.val (.one (.int .i64))) (h.cell q12) fun (x13 : Int) =>
     let x14 : Bool := eqInt x13 1
     some ((x9, x14, ()), h))))))))))))))
noncomputable def ann36 : Ann := .n
theorem f36_ok (N : Nat) : FnOK Try.prog 36 [(.one .ptr), (.one (.int .i64))] (.tup [(.one .bool), (.one .bool)]) (fun x h => f36 N x.1 x.2.1 h) :=
  runK_ok envOK hmix noCalls_ok (N := N) (x := ann36) (fn := Try.f36) (c := Try.f36.body.getD .skip) (by kernel_rfl) (by kernel_rfl) (by kernel_rfl) (by kernel_rfl) (fun _ _ => by kernel_rfl)

/- usufruct/usufructlaw28.SchedEnds -/
noncomputable def f8_l3_b (N : Nat) (go : SL → SL → Bool → Option (Nat × Nat) → Option (Nat × Nat) → Int → Bool → Bool → Bool → Int → Heap → Option (Out × (SL × SL × Bool × Option (Nat × Nat) × Option (Nat × Nat) × Int × Bool × Bool × Bool × Unit) × Heap)) (v0 : SL) (v1 : SL) (v8 : Bool) (v9 : Option (Nat × Nat)) (v11 : Option (Nat × Nat)) (v13 : Int) (v15 : Bool) (v17 : Bool) (v18 : Bool) (v19 : Int) (h : Heap) : Option (Out × (SL × SL × Bool × Option (Nat × Nat) × Option (Nat × Nat) × Int × Bool × Bool × Bool × Unit) × Heap) :=
  (ixK v0.a v0.len v13 1 fun q58 =>
  (bindV (.val (.one .slice)) (h.cell q58) fun (x59 : SL) =>
  let x60 : Bool := ltInt v19 (Int.ofNat x59.len)
  (bif x60 then
   (ixK v0.a v0.len v13 1 fun q61 =>
   (bindV (.val (.one .slice)) (h.cell q61) fun (x62 : SL) =>
   (ixK x62.a x62.len v19 1 fun q63 =>
   (bindV (.val (.one (.int .i64))) (h.cell q63) fun (x64 : Int) =>
   (bind2 (f36 N v9 x64 h) fun (x65 : (Bool × Bool × Unit)) h66 =>
   (bif v18 then
    let x67 : Int := wrapA .i64 (v19 + 1)
    go v0 v1 v8 v9 v11 v13 v15 v17 x65.2.1 x67 h66
   else
    let x68 : Int := wrapA .i64 (v19 + 1)
    go v0 v1 v8 v9 v11 v13 v15 v17 false x68 h66))))))
  else
   some ((Out.exit 2), (v0, v1, v8, v9, v11, v13, v15, v17, v18, ()), h))))
noncomputable def f8_l3 (N M : Nat) (v0 : SL) (v1 : SL) (v8 : Bool) (v9 : Option (Nat × Nat)) (v11 : Option (Nat × Nat)) (v13 : Int) (v15 : Bool) (v17 : Bool) (v18 : Bool) (v19 : Int) (h : Heap) : Option (Out × (SL × SL × Bool × Option (Nat × Nat) × Option (Nat × Nat) × Int × Bool × Bool × Bool × Unit) × Heap) := iter (fun go s h => f8_l3_b N (fun v0 v1 v8 v9 v11 v13 v15 v17 v18 v19 h => go (v0, v1, v8, v9, v11, v13, v15, v17, v18, v19, ()) h) s.1 s.2.1 s.2.2.1 s.2.2.2.1 s.2.2.2.2.1 s.2.2.2.2.2.1 s.2.2.2.2.2.2.1 s.2.2.2.2.2.2.2.1 s.2.2.2.2.2.2.2.2.1 s.2.2.2.2.2.2.2.2.2.1 h) M (v0, v1, v8, v9, v11, v13, v15, v17, v18, v19, ()) h
theorem f8_l3_succ (N M : Nat) (v0 : SL) (v1 : SL) (v8 : Bool) (v9 : Option (Nat × Nat)) (v11 : Option (Nat × Nat)) (v13 : Int) (v15 : Bool) (v17 : Bool) (v18 : Bool) (v19 : Int) (h : Heap) : f8_l3 N (M + 1) v0 v1 v8 v9 v11 v13 v15 v17 v18 v19 h = f8_l3_b N (f8_l3 N M) v0 v1 v8 v9 v11 v13 v15 v17 v18 v19 h := rfl
theorem f8_l3_zero (N : Nat) (v0 : SL) (v1 : SL) (v8 : Bool) (v9 : Option (Nat × Nat)) (v11 : Option (Nat × Nat)) (v13 : Int) (v15 : Bool) (v17 : Bool) (v18 : Bool) (v19 : Int) (h : Heap) : f8_l3 N 0 v0 v1 v8 v9 v11 v13 v15 v17 v18 v19 h = none := rfl
noncomputable def f8_l2_b (N : Nat) (go : SL → SL → Bool → Option (Nat × Nat) → Option (Nat × Nat) → Int → Bool → Bool → Bool → Int → Heap → Option (Out × (SL × SL × Bool × Option (Nat × Nat) × Option (Nat × Nat) × Int × Bool × Bool × Bool × Unit) × Heap)) (v0 : SL) (v1 : SL) (v8 : Bool) (v9 : Option (Nat × Nat)) (v11 : Option (Nat × Nat)) (v13 : Int) (v15 : Bool) (v17 : Bool) (v18 : Bool) (v19 : Int) (h : Heap) : Option (Out × (SL × SL × Bool × Option (Nat × Nat) × Option (Nat × Nat) × Int × Bool × Bool × Bool × Unit) × Heap) :=
  (ixK v0.a v0.len v13 1 fun q41 =>
  (bindV (.val (.one .slice)) (h.cell q41) fun (x42 : SL) =>
  let x43 : Bool := ltInt v19 (Int.ofNat x42.len)
  (bif x43 then
   (ixK v0.a v0.len v13 1 fun q44 =>
   (bindV (.val (.one .slice)) (h.cell q44) fun (x45 : SL) =>
   (ixK x45.a x45.len v19 1 fun q46 =>
   (bindV (.val (.one (.int .i64))) (h.cell q46) fun (x47 : Int) =>
   (bind2 (f36 N v9 x47 h) fun (x48 : (Bool × Bool × Unit)) h49 =>
   (bif v18 then
    let x50 : Int := wrapA .i64 (v19 + 1)
    go v0 v1 v8 v9 v11 v13 v15 v17 x48.2.1 x50 h49
   else
    let x51 : Int := wrapA .i64 (v19 + 1)
    go v0 v1 v8 v9 v11 v13 v15 v17 false x51 h49))))))
  else
   some ((Out.exit 2), (v0, v1, v8, v9, v11, v13, v15, v17, v18, ()), h))))
noncomputable def f8_l2 (N M : Nat) (v0 : SL) (v1 : SL) (v8 : Bool) (v9 : Option (Nat × Nat)) (v11 : Option (Nat × Nat)) (v13 : Int) (v15 : Bool) (v17 : Bool) (v18 : Bool) (v19 : Int) (h : Heap) : Option (Out × (SL × SL × Bool × Option (Nat × Nat) × Option (Nat × Nat) × Int × Bool × Bool × Bool × Unit) × Heap) := iter (fun go s h => f8_l2_b N (fun v0 v1 v8 v9 v11 v13 v15 v17 v18 v19 h => go (v0, v1, v8, v9, v11, v13, v15, v17, v18, v19, ()) h) s.1 s.2.1 s.2.2.1 s.2.2.2.1 s.2.2.2.2.1 s.2.2.2.2.2.1 s.2.2.2.2.2.2.1 s.2.2.2.2.2.2.2.1 s.2.2.2.2.2.2.2.2.1 s.2.2.2.2.2.2.2.2.2.1 h) M (v0, v1, v8, v9, v11, v13, v15, v17, v18, v19, ()) h
theorem f8_l2_succ (N M : Nat) (v0 : SL) (v1 : SL) (v8 : Bool) (v9 : Option (Nat × Nat)) (v11 : Option (Nat × Nat)) (v13 : Int) (v15 : Bool) (v17 : Bool) (v18 : Bool) (v19 : Int) (h : Heap) : f8_l2 N (M + 1) v0 v1 v8 v9 v11 v13 v15 v17 v18 v19 h = f8_l2_b N (f8_l2 N M) v0 v1 v8 v9 v11 v13 v15 v17 v18 v19 h := rfl
theorem f8_l2_zero (N : Nat) (v0 : SL) (v1 : SL) (v8 : Bool) (v9 : Option (Nat × Nat)) (v11 : Option (Nat × Nat)) (v13 : Int) (v15 : Bool) (v17 : Bool) (v18 : Bool) (v19 : Int) (h : Heap) : f8_l2 N 0 v0 v1 v8 v9 v11 v13 v15 v17 v18 v19 h = none := rfl
noncomputable def f8_l1_b (N : Nat) (go : SL → SL → Bool → Option (Nat × Nat) → Option (Nat × Nat) → Int → Heap → Option (Out × (Bool × Unit) × Heap)) (v0 : SL) (v1 : SL) (v8 : Bool) (v9 : Option (Nat × Nat)) (v11 : Option (Nat × Nat)) (v13 : Int) (h : Heap) : Option (Out × (Bool × Unit) × Heap) :=
  let x32 : Bool := ltInt v13 (Int.ofNat v0.len)
  (bif x32 then
   (bind2 (f36 N v9 v13 h) fun (x33 : (Bool × Bool × Unit)) h34 =>
   (bind2 (f36 N v11 v13 h34) fun (x35 : (Bool × Bool × Unit)) h36 =>
   let x37 : Bool := ltInt v13 (Int.ofNat v1.len)
   (bif x37 then
    (ixK v1.a v1.len v13 1 fun q38 =>
    (bindV (.val (.one .bool)) (h36.cell q38) fun (x39 : Bool) =>
    let x40 : Bool := !x39
    (bind3 (f8_l2 N N v0 v1 v8 v9 v11 v13 x33.2.1 x35.2.1 x40 0 h36) fun _ (j53 : (SL × SL × Bool × Option (Nat × Nat) × Option (Nat × Nat) × Int × Bool × Bool × Bool × Unit)) h54 =>
    let x55 : Bool := !(bif j53.2.2.2.2.2.2.1 then j53.2.2.2.2.2.2.2.1 else !j53.2.2.2.2.2.2.2.1)
    (bif x55 then
     some (Out.ret, (false, ()), h54)
    else
     let x56 : Bool := !(bif j53.2.2.2.2.2.2.1 then j53.2.2.2.2.2.2.2.2.1 else !j53.2.2.2.2.2.2.2.2.1)
     (bif x56 then
      some (Out.ret, (false, ()), h54)
     else
      let x57 : Int := wrapA .i64 (j53.2.2.2.2.2.1 + 1)
      go j53.1 j53.2.1 j53.2.2.1 j53.2.2.2.1 j53.2.2.2.2.1 x57 h54)))))
   else
    (bind3 (f8_l3 N N v0 v1 v8 v9 v11 v13 x33.2.1 x35.2.1 true 0 h36) fun _ (j70 : (SL × SL × Bool × Option (Nat × Nat) × Option (Nat × Nat) × Int × Bool × Bool × Bool × Unit)) h71 =>
    let x72 : Bool := !(bif j70.2.2.2.2.2.2.1 then j70.2.2.2.2.2.2.2.1 else !j70.2.2.2.2.2.2.2.1)
    (bif x72 then
     some (Out.ret, (false, ()), h71)
    else
     let x73 : Bool := !(bif j70.2.2.2.2.2.2.1 then j70.2.2.2.2.2.2.2.2.1 else !j70.2.2.2.2.2.2.2.2.1)
     (bif x73 then
      some (Out.ret, (false, ()), h71)
     else
      let x74 : Int := wrapA .i64 (j70.2.2.2.2.2.1 + 1)
      go j70.1 j70.2.1 j70.2.2.1 j70.2.2.2.1 j70.2.2.2.2.1 x74 h71))))))
  else
   some ((Out.exit 0), (v8, ()), h))
noncomputable def f8_l1 (N M : Nat) (v0 : SL) (v1 : SL) (v8 : Bool) (v9 : Option (Nat × Nat)) (v11 : Option (Nat × Nat)) (v13 : Int) (h : Heap) : Option (Out × (Bool × Unit) × Heap) := iter (fun go s h => f8_l1_b N (fun v0 v1 v8 v9 v11 v13 h => go (v0, v1, v8, v9, v11, v13, ()) h) s.1 s.2.1 s.2.2.1 s.2.2.2.1 s.2.2.2.2.1 s.2.2.2.2.2.1 h) M (v0, v1, v8, v9, v11, v13, ()) h
theorem f8_l1_succ (N M : Nat) (v0 : SL) (v1 : SL) (v8 : Bool) (v9 : Option (Nat × Nat)) (v11 : Option (Nat × Nat)) (v13 : Int) (h : Heap) : f8_l1 N (M + 1) v0 v1 v8 v9 v11 v13 h = f8_l1_b N (f8_l1 N M) v0 v1 v8 v9 v11 v13 h := rfl
theorem f8_l1_zero (N : Nat) (v0 : SL) (v1 : SL) (v8 : Bool) (v9 : Option (Nat × Nat)) (v11 : Option (Nat × Nat)) (v13 : Int) (h : Heap) : f8_l1 N 0 v0 v1 v8 v9 v11 v13 h = none := rfl
noncomputable def f8 (N : Nat) (a0 : SL) (a1 : SL) (a2 : SL) (a3 : SL) (h : Heap) : Option (Bool × Heap) :=
  (bind2 (f24 N a0 h) fun (x1 : Bool) h2 =>
  let x3 : Bool := !x1
  (bif x3 then
   (bind2 (f25 N  h2) fun (x4 : Bool) h5 =>
   some (x4, h5))
  else
   (bind2 (f26 N a0 h2) fun (x6 : (Option (Nat × Nat) × AV × Unit)) h7 =>
   (bind2 (f26 N a0 h7) fun (x8 : (Option (Nat × Nat) × AV × Unit)) h9 =>
   (bindV (.val (.one .bool)) (binA E .neq 32 (.tmp 36) (.const .nilIface) x6.2.1 AV.nilIface) fun (x10 : Bool) =>
   (bif x10 then
    (bind2 (f25 N  h9) fun (x11 : Bool) h12 =>
    some (x11, h12))
   else
    (bindV (.val (.one .bool)) (binA E .neq 32 (.tmp 39) (.const .nilIface) x8.2.1 AV.nilIface) fun (x13 : Bool) =>
    (bif x13 then
     (bind2 (f25 N  h9) fun (x14 : Bool) h15 =>
     some (x14, h15))
    else
     (bif x6.1.isNone then
      (bind2 (f25 N  h9) fun (x16 : Bool) h17 =>
      some (x16, h17))
     else
      (bif x8.1.isNone then
       (bind2 (f25 N  h9) fun (x18 : Bool) h19 =>
       some (x18, h19))
      else
       (bind2 (f37 N x6.1 a1 a2 (Int.ofNat a0.len) h9) fun (x20 : Bool) h21 =>
       let x22 : Bool := !x20
       (bif x22 then
        some (false, h21)
       else
        (bind2 (f37 N x8.1 a1 a3 (Int.ofNat a0.len) h21) fun (x23 : Bool) h24 =>
        let x25 : Bool := !x23
        (bif x25 then
         some (false, h24)
        else
         (bind2 (f29 N x6.1 h24) fun (x26 : Int) h27 =>
         let x28 : Bool := !eqInt x26 0
         (bif x28 then
          some (false, h27)
         else
          (bind2 (f29 N x8.1 h27) fun (x29 : Int) h30 =>
          let x31 : Bool := !eqInt x29 0
          (bif x31 then
           some (false, h30)
          else
           (bind3 (f8_l1 N N a0 a1 false x6.1 x8.1 0 h30) fun o75 (j76 : (Bool × Unit)) h77 =>
           (bif eqOut o75 (.exit 0) then
            (bind2 (f25 N  h77) fun (x78 : Bool) h79 =>
            some (x78, h79))
           else
            some (j76.1, h77)))))))))))))))))))))
noncomputable def ann8 : Ann := (.two .n (.two .n (.two .n (.two .n (.two .n (.two .n (.two (.two .n (.two (.loop [(0, (.one .slice)), (1, (.one .slice)), (8, (.one .bool)), (9, (.one .ptr)), (11, (.one .ptr)), (13, (.one (.int .i64)))] [(.exit 0), .ret] [(8, (.one .bool))] (.two .n (.two (.two (.two .n (.two .n (.two .n (.two (.two .n (.two (.loop [(0, (.one .slice)), (1, (.one .slice)), (8, (.one .bool)), (9, (.one .ptr)), (11, (.one .ptr)), (13, (.one (.int .i64))), (15, (.one .bool)), (17, (.one .bool)), (18, (.one .bool)), (19, (.one (.int .i64)))] [(.exit 2)] [(0, (.one .slice)), (1, (.one .slice)), (8, (.one .bool)), (9, (.one .ptr)), (11, (.one .ptr)), (13, (.one (.int .i64))), (15, (.one .bool)), (17, (.one .bool)), (18, (.one .bool))] .n) .n)) .n)))) .n) .n))) .n)) .n)))))))
theorem f8_ok (N : Nat) : FnOK Try.prog 8 [(.one .slice), (.one .slice), (.one .slice), (.one .slice)] (.val (.one .bool)) (fun x h => f8 N x.1 x.2.1 x.2.2.1 x.2.2.2.1 h) :=
  runK_ok envOK hmix (addCall_ok (f37_ok N) (addCall_ok (f36_ok N) (addCall_ok (f29_ok N) (addCall_ok (f26_ok N) (addCall_ok (f25_ok N) (addCall_ok (f24_ok N) noCalls_ok)))))) (N := N) (x := ann8) (fn := Try.f8) (c := Try.f8.body.getD .skip) (by kernel_rfl) (by kernel_rfl) (by kernel_rfl) (by kernel_rfl) (fun _ _ => by kernel_rfl)

/- usufruct/usufructlaw28.SchedAhead -/
noncomputable def f9_l4_b (N : Nat) (go : SL → Bool → Option (Nat × Nat) → SL → Int → SL → Bool → Int → Int → Heap → Option (Out × (SL × Bool × Option (Nat × Nat) × SL × Int × SL × Bool × Int × Unit) × Heap)) (v0 : SL) (v2 : Bool) (v3 : Option (Nat × Nat)) (v5 : SL) (v8 : Int) (v9 : SL) (v10 : Bool) (v11 : Int) (v12 : Int) (h : Heap) : Option (Out × (SL × Bool × Option (Nat × Nat) × SL × Int × SL × Bool × Int × Unit) × Heap) :=
  (ixK v9.a v9.len v11 1 fun q68 =>
  (bindV (.val (.one (.int .i64))) (h.cell q68) fun (x69 : Int) =>
  (ixK v0.a v0.len x69 1 fun q70 =>
  (bindV (.val (.one .slice)) (h.cell q70) fun (x71 : SL) =>
  let x72 : Bool := ltInt v12 (Int.ofNat x71.len)
  (bif x72 then
   (ixK v9.a v9.len v11 1 fun q73 =>
   (bindV (.val (.one (.int .i64))) (h.cell q73) fun (x74 : Int) =>
   (ixK v0.a v0.len x74 1 fun q75 =>
   (bindV (.val (.one .slice)) (h.cell q75) fun (x76 : SL) =>
   (ixK x76.a x76.len v12 1 fun q77 =>
   (bindV (.val (.one (.int .i64))) (h.cell q77) fun (x78 : Int) =>
   (bind2 (f36 N v3 x78 h) fun (x79 : (Bool × Bool × Unit)) h80 =>
   let x81 : Bool := !x79.1
   (bif x81 then
    some (Out.ret, (v0, false, v3, v5, v8, v9, v10, v11, ()), h80)
   else
    let x82 : Bool := !x79.2.1
    (bif x82 then
     some (Out.ret, (v0, false, v3, v5, v8, v9, v10, v11, ()), h80)
    else
     let x83 : Int := wrapA .i64 (v12 + 1)
     go v0 v2 v3 v5 v8 v9 v10 v11 x83 h80)))))))))
  else
   some ((Out.exit 4), (v0, v2, v3, v5, v8, v9, v10, v11, ()), h))))))
noncomputable def f9_l4 (N M : Nat) (v0 : SL) (v2 : Bool) (v3 : Option (Nat × Nat)) (v5 : SL) (v8 : Int) (v9 : SL) (v10 : Bool) (v11 : Int) (v12 : Int) (h : Heap) : Option (Out × (SL × Bool × Option (Nat × Nat) × SL × Int × SL × Bool × Int × Unit) × Heap) := iter (fun go s h => f9_l4_b N (fun v0 v2 v3 v5 v8 v9 v10 v11 v12 h => go (v0, v2, v3, v5, v8, v9, v10, v11, v12, ()) h) s.1 s.2.1 s.2.2.1 s.2.2.2.1 s.2.2.2.2.1 s.2.2.2.2.2.1 s.2.2.2.2.2.2.1 s.2.2.2.2.2.2.2.1 s.2.2.2.2.2.2.2.2.1 h) M (v0, v2, v3, v5, v8, v9, v10, v11, v12, ()) h
theorem f9_l4_succ (N M : Nat) (v0 : SL) (v2 : Bool) (v3 : Option (Nat × Nat)) (v5 : SL) (v8 : Int) (v9 : SL) (v10 : Bool) (v11 : Int) (v12 : Int) (h : Heap) : f9_l4 N (M + 1) v0 v2 v3 v5 v8 v9 v10 v11 v12 h = f9_l4_b N (f9_l4 N M) v0 v2 v3 v5 v8 v9 v10 v11 v12 h := rfl
theorem f9_l4_zero (N : Nat) (v0 : SL) (v2 : Bool) (v3 : Option (Nat × Nat)) (v5 : SL) (v8 : Int) (v9 : SL) (v10 : Bool) (v11 : Int) (v12 : Int) (h : Heap) : f9_l4 N 0 v0 v2 v3 v5 v8 v9 v10 v11 v12 h = none := rfl
noncomputable def f9_l3_b (N : Nat) (go : SL → Bool → Option (Nat × Nat) → SL → Int → SL → Bool → Int → Int → Heap → Option (Out × (SL × Bool × Option (Nat × Nat) × SL × Int × SL × Bool × Int × Unit) × Heap)) (v0 : SL) (v2 : Bool) (v3 : Option (Nat × Nat)) (v5 : SL) (v8 : Int) (v9 : SL) (v10 : Bool) (v11 : Int) (v12 : Int) (h : Heap) : Option (Out × (SL × Bool × Option (Nat × Nat) × SL × Int × SL × Bool × Int × Unit) × Heap) :=
  (ixK v9.a v9.len v11 1 fun q37 =>
  (bindV (.val (.one (.int .i64))) (h.cell q37) fun (x38 : Int) =>
  (ixK v0.a v0.len x38 1 fun q39 =>
  (bindV (.val (.one .slice)) (h.cell q39) fun (x40 : SL) =>
  let x41 : Bool := ltInt v12 (Int.ofNat x40.len)
  (bif x41 then
   (ixK v9.a v9.len v11 1 fun q42 =>
   (bindV (.val (.one (.int .i64))) (h.cell q42) fun (x43 : Int) =>
   (ixK v0.a v0.len x43 1 fun q44 =>
   (bindV (.val (.one .slice)) (h.cell q44) fun (x45 : SL) =>
   (ixK x45.a x45.len v12 1 fun q46 =>
   (bindV (.val (.one (.int .i64))) (h.cell q46) fun (x47 : Int) =>
   (bind2 (f36 N v3 x47 h) fun (x48 : (Bool × Bool × Unit)) h49 =>
   let x50 : Bool := !x48.1
   (bif x50 then
    some (Out.ret, (v0, false, v3, v5, v8, v9, v10, v11, ()), h49)
   else
    let x51 : Bool := !x48.2.1
    (bif x51 then
     some (Out.ret, (v0, false, v3, v5, v8, v9, v10, v11, ()), h49)
    else
     let x52 : Int := wrapA .i64 (v12 + 1)
     go v0 v2 v3 v5 v8 v9 v10 v11 x52 h49)))))))))
  else
   some ((Out.exit 4), (v0, v2, v3, v5, v8, v9, v10, v11, ()), h))))))
noncomputable def f9_l3 (N M : Nat) (v0 : SL) (v2 : Bool) (v3 : Option (Nat × Nat)) (v5 : SL) (v8 : Int) (v9 : SL) (v10 : Bool) (v11 : Int) (v12 : Int) (h : Heap) : Option (Out × (SL × Bool × Option (Nat × Nat) × SL × Int × SL × Bool × Int × Unit) × Heap) := iter (fun go s h => f9_l3_b N (fun v0 v2 v3 v5 v8 v9 v10 v11 v12 h => go (v0, v2, v3, v5, v8, v9, v10, v11, v12, ()) h) s.1 s.2.1 s.2.2.1 s.2.2.2.1 s.2.2.2.2.1 s.2.2.2.2.2.1 s.2.2.2.2.2.2.1 s.2.2.2.2.2.2.2.1 s.2.2.2.2.2.2.2.2.1 h) M (v0, v2, v3, v5, v8, v9, v10, v11, v12, ()) h
theorem f9_l3_succ (N M : Nat) (v0 : SL) (v2 : Bool) (v3 : Option (Nat × Nat)) (v5 : SL) (v8 : Int) (v9 : SL) (v10 : Bool) (v11 : Int) (v12 : Int) (h : Heap) : f9_l3 N (M + 1) v0 v2 v3 v5 v8 v9 v10 v11 v12 h = f9_l3_b N (f9_l3 N M) v0 v2 v3 v5 v8 v9 v10 v11 v12 h := rfl
theorem f9_l3_zero (N : Nat) (v0 : SL) (v2 : Bool) (v3 : Option (Nat × Nat)) (v5 : SL) (v8 : Int) (v9 : SL) (v10 : Bool) (v11 : Int) (v12 : Int) (h : Heap) : f9_l3 N 0 v0 v2 v3 v5 v8 v9 v10 v11 v12 h = none := rfl
noncomputable def f9_l2_b (N : Nat) (go : SL → Bool → Option (Nat × Nat) → SL → Int → SL → Bool → Int → Heap → Option (Out × (SL × Bool × Option (Nat × Nat) × SL × Int × Bool × Unit) × Heap)) (v0 : SL) (v2 : Bool) (v3 : Option (Nat × Nat)) (v5 : SL) (v8 : Int) (v9 : SL) (v10 : Bool) (v11 : Int) (h : Heap) : Option (Out × (SL × Bool × Option (Nat × Nat) × SL × Int × Bool × Unit) × Heap) :=
  let x30 : Bool := ltInt v11 (Int.ofNat v9.len)
  (bif x30 then
   (bif v10 then
    (ixK v9.a v9.len v11 1 fun q31 =>
    (bindV (.val (.one (.int .i64))) (h.cell q31) fun (x32 : Int) =>
    let x33 : Bool := ltInt x32 0
    (bif x33 then
     some (Out.ret, (v0, false, v3, v5, v8, true, ()), h)
    else
     (ixK v9.a v9.len v11 1 fun q34 =>
     (bindV (.val (.one (.int .i64))) (h.cell q34) fun (x35 : Int) =>
     let x36 : Bool := leInt (Int.ofNat v0.len) x35
     (bif x36 then
      some (Out.ret, (v0, false, v3, v5, v8, true, ()), h)
     else
      (bind3 (f9_l3 N N v0 v2 v3 v5 v8 v9 true v11 0 h) fun o53 (j54 : (SL × Bool × Option (Nat × Nat) × SL × Int × SL × Bool × Int × Unit)) h55 =>
      (bif eqOut o53 (.exit 4) then
       let x56 : Int := wrapA .i64 (j54.2.2.2.2.2.2.2.1 + 1)
       go j54.1 j54.2.1 j54.2.2.1 j54.2.2.2.1 j54.2.2.2.2.1 j54.2.2.2.2.2.1 j54.2.2.2.2.2.2.1 x56 h55
      else
       some (Out.ret, (j54.1, j54.2.1, j54.2.2.1, j54.2.2.2.1, j54.2.2.2.2.1, j54.2.2.2.2.2.2.1, ()), h55)))))))))
   else
    (ixK v9.a v9.len v11 1 fun q57 =>
    (bindV (.val (.one (.int .i64))) (h.cell q57) fun (x58 : Int) =>
    (ixK v5.a v5.len v8 1 fun q59 =>
    (bindV (.val (.one (.int .i64))) (h.cell q59) fun (x60 : Int) =>
    let x61 : Bool := eqInt x58 x60
    (ixK v9.a v9.len v11 1 fun q62 =>
    (bindV (.val (.one (.int .i64))) (h.cell q62) fun (x63 : Int) =>
    let x64 : Bool := ltInt x63 0
    (bif x64 then
     some (Out.ret, (v0, false, v3, v5, v8, x61, ()), h)
    else
     (ixK v9.a v9.len v11 1 fun q65 =>
     (bindV (.val (.one (.int .i64))) (h.cell q65) fun (x66 : Int) =>
     let x67 : Bool := leInt (Int.ofNat v0.len) x66
     (bif x67 then
      some (Out.ret, (v0, false, v3, v5, v8, x61, ()), h)
     else
      (bind3 (f9_l4 N N v0 v2 v3 v5 v8 v9 x61 v11 0 h) fun o84 (j85 : (SL × Bool × Option (Nat × Nat) × SL × Int × SL × Bool × Int × Unit)) h86 =>
      (bif eqOut o84 (.exit 4) then
       let x87 : Int := wrapA .i64 (j85.2.2.2.2.2.2.2.1 + 1)
       go j85.1 j85.2.1 j85.2.2.1 j85.2.2.2.1 j85.2.2.2.2.1 j85.2.2.2.2.2.1 j85.2.2.2.2.2.2.1 x87 h86
      else
       some (Out.ret, (j85.1, j85.2.1, j85.2.2.1, j85.2.2.2.1, j85.2.2.2.2.1, j85.2.2.2.2.2.2.1, ()), h86))))))))))))))
  else
   some ((Out.exit 2), (v0, v2, v3, v5, v8, v10, ()), h))
noncomputable def f9_l2 (N M : Nat) (v0 : SL) (v2 : Bool) (v3 : Option (Nat × Nat)) (v5 : SL) (v8 : Int) (v9 : SL) (v10 : Bool) (v11 : Int) (h : Heap) : Option (Out × (SL × Bool × Option (Nat × Nat) × SL × Int × Bool × Unit) × Heap) := iter (fun go s h => f9_l2_b N (fun v0 v2 v3 v5 v8 v9 v10 v11 h => go (v0, v2, v3, v5, v8, v9, v10, v11, ()) h) s.1 s.2.1 s.2.2.1 s.2.2.2.1 s.2.2.2.2.1 s.2.2.2.2.2.1 s.2.2.2.2.2.2.1 s.2.2.2.2.2.2.2.1 h) M (v0, v2, v3, v5, v8, v9, v10, v11, ()) h
theorem f9_l2_succ (N M : Nat) (v0 : SL) (v2 : Bool) (v3 : Option (Nat × Nat)) (v5 : SL) (v8 : Int) (v9 : SL) (v10 : Bool) (v11 : Int) (h : Heap) : f9_l2 N (M + 1) v0 v2 v3 v5 v8 v9 v10 v11 h = f9_l2_b N (f9_l2 N M) v0 v2 v3 v5 v8 v9 v10 v11 h := rfl
theorem f9_l2_zero (N : Nat) (v0 : SL) (v2 : Bool) (v3 : Option (Nat × Nat)) (v5 : SL) (v8 : Int) (v9 : SL) (v10 : Bool) (v11 : Int) (h : Heap) : f9_l2 N 0 v0 v2 v3 v5 v8 v9 v10 v11 h = none := rfl
noncomputable def f9_l1_b (N : Nat) (go : SL → Bool → Option (Nat × Nat) → SL → Int → Heap → Option (Out × (Bool × Unit) × Heap)) (v0 : SL) (v2 : Bool) (v3 : Option (Nat × Nat)) (v5 : SL) (v8 : Int) (h : Heap) : Option (Out × (Bool × Unit) × Heap) :=
  let x27 : Bool := ltInt v8 (Int.ofNat v5.len)
  (bif x27 then
   (bind2 (f28 N v3 h) fun (x28 : SL) h29 =>
   (bind3 (f9_l2 N N v0 v2 v3 v5 v8 x28 false 0 h29) fun o88 (j89 : (SL × Bool × Option (Nat × Nat) × SL × Int × Bool × Unit)) h90 =>
   (bif eqOut o88 (.exit 2) then
    let x91 : Bool := !j89.2.2.2.2.2.1
    (bif x91 then
     some (Out.ret, (false, ()), h90)
    else
     (ixK j89.2.2.2.1.a j89.2.2.2.1.len j89.2.2.2.2.1 1 fun q92 =>
     (bindV (.val (.one (.int .i64))) (h90.cell q92) fun (x93 : Int) =>
     (bind2 (f30 N j89.2.2.1 x93 true h90) fun (x94 : AV) h95 =>
     (bindV (.val (.one .bool)) (binA E .neq 32 (.tmp 129) (.const .nilIface) x94 AV.nilIface) fun (x96 : Bool) =>
     (bif x96 then
      some (Out.ret, (false, ()), h95)
     else
      (ixK j89.2.2.2.1.a j89.2.2.2.1.len j89.2.2.2.2.1 1 fun q97 =>
      (bindV (.val (.one (.int .i64))) (h95.cell q97) fun (x98 : Int) =>
      (bind2 (f30 N j89.2.2.1 x98 true h95) fun (x99 : AV) h100 =>
      (bindV (.val (.one .bool)) (binA E .eql 32 (.tmp 138) (.const .nilIface) x99 AV.nilIface) fun (x101 : Bool) =>
      (bif x101 then
       some (Out.ret, (false, ()), h100)
      else
       (bind2 (f33 N j89.2.2.1 h100) fun (x102 : SL) h103 =>
       let x104 : Bool := !eqInt (Int.ofNat x102.len) 0
       (bif x104 then
        some (Out.ret, (false, ()), h103)
       else
        (bind2 (f29 N j89.2.2.1 h103) fun (x105 : Int) h106 =>
        let x107 : Int := wrapA .i64 ((Int.ofNat j89.1.len) - 1)
        let x108 : Int := wrapA .i64 (x107 - j89.2.2.2.2.1)
        let x109 : Bool := !eqInt x105 x108
        (bif x109 then
         some (Out.ret, (false, ()), h106)
        else
         let x110 : Int := wrapA .i64 (j89.2.2.2.2.1 + 1)
         go j89.1 j89.2.1 j89.2.2.1 j89.2.2.2.1 x110 h106)))))))))))))))
   else
    some (Out.ret, (j89.2.1, ()), h90))))
  else
   some ((Out.exit 0), (v2, ()), h))
noncomputable def f9_l1 (N M : Nat) (v0 : SL) (v2 : Bool) (v3 : Option (Nat × Nat)) (v5 : SL) (v8 : Int) (h : Heap) : Option (Out × (Bool × Unit) × Heap) := iter (fun go s h => f9_l1_b N (fun v0 v2 v3 v5 v8 h => go (v0, v2, v3, v5, v8, ()) h) s.1 s.2.1 s.2.2.1 s.2.2.2.1 s.2.2.2.2.1 h) M (v0, v2, v3, v5, v8, ()) h
theorem f9_l1_succ (N M : Nat) (v0 : SL) (v2 : Bool) (v3 : Option (Nat × Nat)) (v5 : SL) (v8 : Int) (h : Heap) : f9_l1 N (M + 1) v0 v2 v3 v5 v8 h = f9_l1_b N (f9_l1 N M) v0 v2 v3 v5 v8 h := rfl
theorem f9_l1_zero (N : Nat) (v0 : SL) (v2 : Bool) (v3 : Option (Nat × Nat)) (v5 : SL) (v8 : Int) (h : Heap) : f9_l1 N 0 v0 v2 v3 v5 v8 h = none := rfl
noncomputable def f9 (N : Nat) (a0 : SL) (h : Heap) : Option (Bool × Heap) :=
  (bind2 (f24 N a0 h) fun (x1 : Bool) h2 =>
  let x3 : Bool := !x1
  (bif x3 then
   (bind2 (f25 N  h2) fun (x4 : Bool) h5 =>
   some (x4, h5))
  else
   (bind2 (f26 N a0 h2) fun (x6 : (Option (Nat × Nat) × AV × Unit)) h7 =>
   (bind2 (f15 N a0 h7) fun (x8 : (SL × Int × Int × Unit)) h9 =>
   (bindV (.val (.one .bool)) (binA E .neq 32 (.tmp 30) (.const .nilIface) x6.2.1 AV.nilIface) fun (x10 : Bool) =>
   (bif x10 then
    (bind2 (f25 N  h9) fun (x11 : Bool) h12 =>
    (bif x11 then
     (bindV (.val (.one .bool)) (binA E .eql 32 (.tmp 42) (.const .nilIface) x6.2.1 AV.nilIface) fun (x13 : Bool) =>
     let x14 : Bool := eqInt x8.2.1 0
     let x15 : Bool := (bif x13 then x14 else !x14)
     some (x15, h12))
    else
     some (false, h12)))
   else
    let x16 : Bool := !eqInt x8.2.1 0
    (bif x16 then
     (bind2 (f25 N  h9) fun (x17 : Bool) h18 =>
     (bif x17 then
      (bindV (.val (.one .bool)) (binA E .eql 32 (.tmp 42) (.const .nilIface) x6.2.1 AV.nilIface) fun (x19 : Bool) =>
      let x20 : Bool := eqInt x8.2.1 0
      let x21 : Bool := (bif x19 then x20 else !x20)
      some (x21, h18))
     else
      some (false, h18)))
    else
     (bif x6.1.isNone then
      (bind2 (f25 N  h9) fun (x22 : Bool) h23 =>
      (bif x22 then
       (bindV (.val (.one .bool)) (binA E .eql 32 (.tmp 42) (.const .nilIface) x6.2.1 AV.nilIface) fun (x24 : Bool) =>
       let x25 : Bool := eqInt x8.2.1 0
       let x26 : Bool := (bif x24 then x25 else !x25)
       some (x26, h23))
      else
       some (false, h23)))
     else
      (bind3 (f9_l1 N N a0 false x6.1 x8.1 0 h9) fun o111 (j112 : (Bool × Unit)) h113 =>
      (bif eqOut o111 (.exit 0) then
       (bind2 (f25 N  h113) fun (x114 : Bool) h115 =>
       some (x114, h115))
      else
       some (j112.1, h113)))))))))))
noncomputable def ann9 : Ann := (.two .n (.two .n (.two .n (.two .n (.two .n (.two (.two .n (.two (.loop [(0, (.one .slice)), (2, (.one .bool)), (3, (.one .ptr)), (5, (.one .slice)), (8, (.one (.int .i64)))] [(.exit 0), .ret] [(2, (.one .bool))] (.two .n (.two (.two (.two .n (.two .n (.two (.two .n (.two (.loop [(0, (.one .slice)), (2, (.one .bool)), (3, (.one .ptr)), (5, (.one .slice)), (8, (.one (.int .i64))), (9, (.one .slice)), (10, (.one .bool)), (11, (.one (.int .i64)))] [(.exit 2), .ret] [(0, (.one .slice)), (2, (.one .bool)), (3, (.one .ptr)), (5, (.one .slice)), (8, (.one (.int .i64))), (10, (.one .bool))] (.two .n (.two (.two (.two .n (.two .n (.two .n (.two (.loop [(0, (.one .slice)), (2, (.one .bool)), (3, (.one .ptr)), (5, (.one .slice)), (8, (.one (.int .i64))), (9, (.one .slice)), (10, (.one .bool)), (11, (.one (.int .i64))), (12, (.one (.int .i64)))] [(.exit 4), .ret] [(0, (.one .slice)), (2, (.one .bool)), (3, (.one .ptr)), (5, (.one .slice)), (8, (.one (.int .i64))), (9, (.one .slice)), (10, (.one .bool)), (11, (.one (.int .i64)))] .n) .n)))) .n) .n))) .n)) .n))) .n) .n))) .n)) .n))))))
theorem f9_ok (N : Nat) : FnOK Try.prog 9 [(.one .slice)] (.val (.one .bool)) (fun x h => f9 N x.1 h) :=
  runK_ok envOK hmix (addCall_ok (f36_ok N) (addCall_ok (f33_ok N) (addCall_ok (f30_ok N) (addCall_ok (f29_ok N) (addCall_ok (f28_ok N) (addCall_ok (f26_ok N) (addCall_ok (f25_ok N) (addCall_ok (f24_ok N) (addCall_ok (f15_ok N) noCalls_ok))))))))) (N := N) (x := ann9) (fn := Try.f9) (c := Try.f9.body.getD .skip) (by kernel_rfl) (by kernel_rfl) (by kernel_rfl) (by kernel_rfl) (fun _ _ => by kernel_rfl)

/- usufruct/usufructref25.NewPlan -/
noncomputable def f27 (N : Nat) (a0 : SL) (h : Heap) : Option ((Option (Nat × Nat) × Int × Int × Unit) × Heap) :=
  (bind2 (f15 N a0 h) fun (x1 : (SL × Int × Int × Unit)) h2 =>
  let x3 : Bool := !eqInt x1.2.1 0
  (bif x3 then
   some ((none, x1.2.1, x1.2.2.1, ()), h2)
  else
   (bindT (.val (.one .slice)) (makeSliceA E 43 (.int .i64 (Int.ofNat a0.len)) (.int .i64 (Int.ofNat a0.len)) h2) fun (x4 : SL) h5 =>
   (bindT (.val (.one .slice)) (makeSliceA E 43 (.int .i64 (Int.ofNat a0.len)) (.int .i64 (Int.ofNat a0.len)) h5) fun (x6 : SL) h7 =>
   let h8 : Heap := h7.push (.row [(.slice a0.a a0.len a0.cap a0.sz), (.slice x4.a x4.len x4.cap x4.sz), (.slice x6.a x6.len x6.cap x6.sz)] .own)
   (guardB true (
   some (((some (h7.next, 0)), 0, 0, ()), h8)))))))
noncomputable def ann27 : Ann := .n
theorem f27_ok (N : Nat) : FnOK Try.prog 27 [(.one .slice)] (.tup [(.one .ptr), (.one (.int .i64)), (.one (.int .i64))]) (fun x h => f27 N x.1 h) :=
  runK_ok envOK hmix (addCall_ok (f15_ok N) noCalls_ok) (N := N) (x := ann27) (fn := Try.f27) (c := Try.f27.body.getD .skip) (by kernel_rfl) (by kernel_rfl) (by kernel_rfl) (by kernel_rfl) (fun _ _ => by kernel_rfl)

/- (*usufruct/usufructref25.Plan).Ready -/
noncomputable def f32_l2_b (N : Nat) (go : Option (Nat × Nat) → SL → Int → Bool → Int → Heap → Option (Out × (Option (Nat × Nat) × SL × Int × Bool × Unit) × Heap)) (v0 : Option (Nat × Nat)) (v3 : SL) (v4 : Int) (v5 : Bool) (v6 : Int) (h : Heap) : Option (Out × (Option (Nat × Nat) × SL × Int × Bool × Unit) × Heap) :=
  (need v0 fun q9 =>
  (bindV (.val (.one .slice)) (h.cell (q9.1, q9.2 + 0)) fun (x10 : SL) =>
  (ixK x10.a x10.len v4 1 fun q11 =>
  (bindV (.val (.one .slice)) (h.cell q11) fun (x12 : SL) =>
  let x13 : Bool := ltInt v6 (Int.ofNat x12.len)
  (bif x13 then
   (bif v5 then
    (need v0 fun q14 =>
    (bindV (.val (.one .slice)) (h.cell (q14.1, q14.2 + 1)) fun (x15 : SL) =>
    (need v0 fun q16 =>
    (bindV (.val (.one .slice)) (h.cell (q16.1, q16.2 + 0)) fun (x17 : SL) =>
    (ixK x17.a x17.len v4 1 fun q18 =>
    (bindV (.val (.one .slice)) (h.cell q18) fun (x19 : SL) =>
    (ixK x19.a x19.len v6 1 fun q20 =>
    (bindV (.val (.one (.int .i64))) (h.cell q20) fun (x21 : Int) =>
    (ixK x15.a x15.len x21 1 fun q22 =>
    (bindV (.val (.one .bool)) (h.cell q22) fun (x23 : Bool) =>
    (bif x23 then
     (need v0 fun q24 =>
     (bindV (.val (.one .slice)) (h.cell (q24.1, q24.2 + 2)) fun (x25 : SL) =>
     (need v0 fun q26 =>
     (bindV (.val (.one .slice)) (h.cell (q26.1, q26.2 + 0)) fun (x27 : SL) =>
     (ixK x27.a x27.len v4 1 fun q28 =>
     (bindV (.val (.one .slice)) (h.cell q28) fun (x29 : SL) =>
     (ixK x29.a x29.len v6 1 fun q30 =>
     (bindV (.val (.one (.int .i64))) (h.cell q30) fun (x31 : Int) =>
     (ixK x25.a x25.len x31 1 fun q32 =>
     (bindV (.val (.one .bool)) (h.cell q32) fun (x33 : Bool) =>
     let x34 : Int := wrapA .i64 (v6 + 1)
     go v0 v3 v4 x33 x34 h))))))))))
    else
     let x35 : Int := wrapA .i64 (v6 + 1)
     go v0 v3 v4 false x35 h)))))))))))
   else
    let x36 : Int := wrapA .i64 (v6 + 1)
    go v0 v3 v4 false x36 h)
  else
   some ((Out.exit 2), (v0, v3, v4, v5, ()), h))))))
noncomputable def f32_l2 (N M : Nat) (v0 : Option (Nat × Nat)) (v3 : SL) (v4 : Int) (v5 : Bool) (v6 : Int) (h : Heap) : Option (Out × (Option (Nat × Nat) × SL × Int × Bool × Unit) × Heap) := iter (fun go s h => f32_l2_b N (fun v0 v3 v4 v5 v6 h => go (v0, v3, v4, v5, v6, ()) h) s.1 s.2.1 s.2.2.1 s.2.2.2.1 s.2.2.2.2.1 h) M (v0, v3, v4, v5, v6, ()) h
theorem f32_l2_succ (N M : Nat) (v0 : Option (Nat × Nat)) (v3 : SL) (v4 : Int) (v5 : Bool) (v6 : Int) (h : Heap) : f32_l2 N (M + 1) v0 v3 v4 v5 v6 h = f32_l2_b N (f32_l2 N M) v0 v3 v4 v5 v6 h := rfl
theorem f32_l2_zero (N : Nat) (v0 : Option (Nat × Nat)) (v3 : SL) (v4 : Int) (v5 : Bool) (v6 : Int) (h : Heap) : f32_l2 N 0 v0 v3 v4 v5 v6 h = none := rfl
noncomputable def f32_l1_b (N : Nat) (go : Option (Nat × Nat) → SL → Int → Heap → Option (Out × (SL × Unit) × Heap)) (v0 : Option (Nat × Nat)) (v3 : SL) (v4 : Int) (h : Heap) : Option (Out × (SL × Unit) × Heap) :=
  (need v0 fun q1 =>
  (bindV (.val (.one .slice)) (h.cell (q1.1, q1.2 + 0)) fun (x2 : SL) =>
  let x3 : Bool := ltInt v4 (Int.ofNat x2.len)
  (bif x3 then
   (need v0 fun q4 =>
   (bindV (.val (.one .slice)) (h.cell (q4.1, q4.2 + 1)) fun (x5 : SL) =>
   (ixK x5.a x5.len v4 1 fun q6 =>
   (bindV (.val (.one .bool)) (h.cell q6) fun (x7 : Bool) =>
   let x8 : Bool := !x7
   (bind3 (f32_l2 N N v0 v3 v4 x8 0 h) fun _ (j38 : (Option (Nat × Nat) × SL × Int × Bool × Unit)) h39 =>
   (bif j38.2.2.2.1 then
    let h40 : Heap := h39.push (.row [(.int .i64 j38.2.2.1)] .own)
    (bindT (.val (.one .slice)) (appendA E 26 26 (.slice j38.2.1.a j38.2.1.len j38.2.1.cap j38.2.1.sz) (.slice (some (h39.next, 0)) 1 1 1) h40) fun (x41 : SL) h42 =>
    let x43 : Int := wrapA .i64 (j38.2.2.1 + 1)
    go j38.1 x41 x43 h42)
   else
    let x44 : Int := wrapA .i64 (j38.2.2.1 + 1)
    go j38.1 j38.2.1 x44 h39))))))
  else
   some ((Out.exit 0), (v3, ()), h))))
noncomputable def f32_l1 (N M : Nat) (v0 : Option (Nat × Nat)) (v3 : SL) (v4 : Int) (h : Heap) : Option (Out × (SL × Unit) × Heap) := iter (fun go s h => f32_l1_b N (fun v0 v3 v4 h => go (v0, v3, v4, ()) h) s.1 s.2.1 s.2.2.1 h) M (v0, v3, v4, ()) h
theorem f32_l1_succ (N M : Nat) (v0 : Option (Nat × Nat)) (v3 : SL) (v4 : Int) (h : Heap) : f32_l1 N (M + 1) v0 v3 v4 h = f32_l1_b N (f32_l1 N M) v0 v3 v4 h := rfl
theorem f32_l1_zero (N : Nat) (v0 : Option (Nat × Nat)) (v3 : SL) (v4 : Int) (h : Heap) : f32_l1 N 0 v0 v3 v4 h = none := rfl
noncomputable def f32 (N : Nat) (a0 : Option (Nat × Nat)) (h : Heap) : Option (SL × Heap) :=
  (bind3 (f32_l1 N N a0 ⟨none, 0, 0, 0⟩ 0 h) fun _ (j46 : (SL × Unit)) h47 =>
  some (j46.1, h47))
noncomputable def ann32 : Ann := (.two .n (.two .n (.two (.two .n (.two (.loop [(0, (.one .ptr)), (3, (.one .slice)), (4, (.one (.int .i64)))] [(.exit 0)] [(3, (.one .slice))] (.two .n (.two (.two (.two .n (.two (.two .n (.two (.loop [(0, (.one .ptr)), (3, (.one .slice)), (4, (.one (.int .i64))), (5, (.one .bool)), (6, (.one (.int .i64)))] [(.exit 2)] [(0, (.one .ptr)), (3, (.one .slice)), (4, (.one (.int .i64))), (5, (.one .bool))] .n) .n)) .n)) .n) .n))) .n)) .n)))
theorem f32_ok (N : Nat) : FnOK Try.prog 32 [(.one .ptr)] (.val (.one .slice)) (fun x h => f32 N x.1 h) :=
  runK_ok envOK hmix noCalls_ok (N := N) (x := ann32) (fn := Try.f32) (c := Try.f32.body.getD .skip) (by kernel_rfl) (by kernel_rfl) (by kernel_rfl) (by kernel_rfl) (fun _ _ => by kernel_rfl)

/- usufruct/usufructref25.Has -/
noncomputable def f48_l1_b (N : Nat) (go : SL → Int → Bool → Int → Heap → Option (Out × (Bool × Unit) × Heap)) (v0 : SL) (v1 : Int) (v4 : Bool) (v5 : Int) (h : Heap) : Option (Out × (Bool × Unit) × Heap) :=
  let x1 : Bool := ltInt v5 (Int.ofNat v0.len)
  (bif x1 then
   (ixK v0.a v0.len v5 1 fun q2 =>
   (bindV (.val (.one (.int .i64))) (h.cell q2) fun (x3 : Int) =>
   let x4 : Bool := eqInt x3 v1
   (bif x4 then
    some (Out.ret, (true, ()), h)
   else
    let x5 : Int := wrapA .i64 (v5 + 1)
    go v0 v1 v4 x5 h)))
  else
   some ((Out.exit 0), (v4, ()), h))
noncomputable def f48_l1 (N M : Nat) (v0 : SL) (v1 : Int) (v4 : Bool) (v5 : Int) (h : Heap) : Option (Out × (Bool × Unit) × Heap) := iter (fun go s h => f48_l1_b N (fun v0 v1 v4 v5 h => go (v0, v1, v4, v5, ()) h) s.1 s.2.1 s.2.2.1 s.2.2.2.1 h) M (v0, v1, v4, v5, ()) h
theorem f48_l1_succ (N M : Nat) (v0 : SL) (v1 : Int) (v4 : Bool) (v5 : Int) (h : Heap) : f48_l1 N (M + 1) v0 v1 v4 v5 h = f48_l1_b N (f48_l1 N M) v0 v1 v4 v5 h := rfl
theorem f48_l1_zero (N : Nat) (v0 : SL) (v1 : Int) (v4 : Bool) (v5 : Int) (h : Heap) : f48_l1 N 0 v0 v1 v4 v5 h = none := rfl
noncomputable def f48 (N : Nat) (a0 : SL) (a1 : Int) (h : Heap) : Option (Bool × Heap) :=
  (bind3 (f48_l1 N N a0 a1 false 0 h) fun o6 (j7 : (Bool × Unit)) h8 =>
  (bif eqOut o6 (.exit 0) then
   some (false, h8)
  else
   some (j7.1, h8)))
noncomputable def ann48 : Ann := (.two .n (.two (.two .n (.two (.loop [(0, (.one .slice)), (1, (.one (.int .i64))), (4, (.one .bool)), (5, (.one (.int .i64)))] [(.exit 0), .ret] [(4, (.one .bool))] .n) .n)) .n))
theorem f48_ok (N : Nat) : FnOK Try.prog 48 [(.one .slice), (.one (.int .i64))] (.val (.one .bool)) (fun x h => f48 N x.1 x.2.1 h) :=
  runK_ok envOK hmix noCalls_ok (N := N) (x := ann48) (fn := Try.f48) (c := Try.f48.body.getD .skip) (by kernel_rfl) (by kernel_rfl) (by kernel_rfl) (by kernel_rfl) (fun _ _ => by kernel_rfl)

/- (*usufruct/usufructref25.Plan).Blocked -/
noncomputable def f34_l2_b (N : Nat) (go : Option (Nat × Nat) → SL → Int → Bool → Int → Heap → Option (Out × (Option (Nat × Nat) × SL × Int × Bool × Unit) × Heap)) (v0 : Option (Nat × Nat)) (v3 : SL) (v4 : Int) (v5 : Bool) (v6 : Int) (h : Heap) : Option (Out × (Option (Nat × Nat) × SL × Int × Bool × Unit) × Heap) :=
  (need v0 fun q4 =>
  (bindV (.val (.one .slice)) (h.cell (q4.1, q4.2 + 0)) fun (x5 : SL) =>
  (ixK x5.a x5.len v4 1 fun q6 =>
  (bindV (.val (.one .slice)) (h.cell q6) fun (x7 : SL) =>
  let x8 : Bool := ltInt v6 (Int.ofNat x7.len)
  (bif x8 then
   (bif v5 then
    let x9 : Int := wrapA .i64 (v6 + 1)
    go v0 v3 v4 true x9 h
   else
    (need v0 fun q10 =>
    (bindV (.val (.one .slice)) (h.cell (q10.1, q10.2 + 1)) fun (x11 : SL) =>
    (need v0 fun q12 =>
    (bindV (.val (.one .slice)) (h.cell (q12.1, q12.2 + 0)) fun (x13 : SL) =>
    (ixK x13.a x13.len v4 1 fun q14 =>
    (bindV (.val (.one .slice)) (h.cell q14) fun (x15 : SL) =>
    (ixK x15.a x15.len v6 1 fun q16 =>
    (bindV (.val (.one (.int .i64))) (h.cell q16) fun (x17 : Int) =>
    (ixK x11.a x11.len x17 1 fun q18 =>
    (bindV (.val (.one .bool)) (h.cell q18) fun (x19 : Bool) =>
    (bif x19 then
     (need v0 fun q20 =>
     (bindV (.val (.one .slice)) (h.cell (q20.1, q20.2 + 2)) fun (x21 : SL) =>
     (need v0 fun q22 =>
     (bindV (.val (.one .slice)) (h.cell (q22.1, q22.2 + 0)) fun (x23 : SL) =>
     (ixK x23.a x23.len v4 1 fun q24 =>
     (bindV (.val (.one .slice)) (h.cell q24) fun (x25 : SL) =>
     (ixK x25.a x25.len v6 1 fun q26 =>
     (bindV (.val (.one (.int .i64))) (h.cell q26) fun (x27 : Int) =>
     (ixK x21.a x21.len x27 1 fun q28 =>
     (bindV (.val (.one .bool)) (h.cell q28) fun (x29 : Bool) =>
     let x30 : Bool := !x29
     let x31 : Int := wrapA .i64 (v6 + 1)
     go v0 v3 v4 x30 x31 h))))))))))
    else
     let x32 : Int := wrapA .i64 (v6 + 1)
     go v0 v3 v4 false x32 h))))))))))))
  else
   some ((Out.exit 2), (v0, v3, v4, v5, ()), h))))))
noncomputable def f34_l2 (N M : Nat) (v0 : Option (Nat × Nat)) (v3 : SL) (v4 : Int) (v5 : Bool) (v6 : Int) (h : Heap) : Option (Out × (Option (Nat × Nat) × SL × Int × Bool × Unit) × Heap) := iter (fun go s h => f34_l2_b N (fun v0 v3 v4 v5 v6 h => go (v0, v3, v4, v5, v6, ()) h) s.1 s.2.1 s.2.2.1 s.2.2.2.1 s.2.2.2.2.1 h) M (v0, v3, v4, v5, v6, ()) h
theorem f34_l2_succ (N M : Nat) (v0 : Option (Nat × Nat)) (v3 : SL) (v4 : Int) (v5 : Bool) (v6 : Int) (h : Heap) : f34_l2 N (M + 1) v0 v3 v4 v5 v6 h = f34_l2_b N (f34_l2 N M) v0 v3 v4 v5 v6 h := rfl
theorem f34_l2_zero (N : Nat) (v0 : Option (Nat × Nat)) (v3 : SL) (v4 : Int) (v5 : Bool) (v6 : Int) (h : Heap) : f34_l2 N 0 v0 v3 v4 v5 v6 h = none := rfl
noncomputable def f34_l1_b (N : Nat) (go : Option (Nat × Nat) → SL → Int → Heap → Option (Out × (SL × Unit) × Heap)) (v0 : Option (Nat × Nat)) (v3 : SL) (v4 : Int) (h : Heap) : Option (Out × (SL × Unit) × Heap) :=
  (need v0 fun q1 =>
  (bindV (.val (.one .slice)) (h.cell (q1.1, q1.2 + 0)) fun (x2 : SL) =>
  let x3 : Bool := ltInt v4 (Int.ofNat x2.len)
  (bif x3 then
   (bind3 (f34_l2 N N v0 v3 v4 false 0 h) fun _ (j34 : (Option (Nat × Nat) × SL × Int × Bool × Unit)) h35 =>
   (bif j34.2.2.2.1 then
    (need j34.1 fun q36 =>
    (bindV (.val (.one .slice)) (h35.cell (q36.1, q36.2 + 1)) fun (x37 : SL) =>
    (ixK x37.a x37.len j34.2.2.1 1 fun q38 =>
    (bindV (.val (.one .bool)) (h35.cell q38) fun (x39 : Bool) =>
    let x40 : Bool := !x39
    (bif x40 then
     let h41 : Heap := h35.push (.row [(.int .i64 j34.2.2.1)] .own)
     (bindT (.val (.one .slice)) (appendA E 26 26 (.slice j34.2.1.a j34.2.1.len j34.2.1.cap j34.2.1.sz) (.slice (some (h35.next, 0)) 1 1 1) h41) fun (x42 : SL) h43 =>
     let x44 : Int := wrapA .i64 (j34.2.2.1 + 1)
     go j34.1 x42 x44 h43)
    else
     let x45 : Int := wrapA .i64 (j34.2.2.1 + 1)
     go j34.1 j34.2.1 x45 h35)))))
   else
    let x46 : Int := wrapA .i64 (j34.2.2.1 + 1)
    go j34.1 j34.2.1 x46 h35))
  else
   some ((Out.exit 0), (v3, ()), h))))
noncomputable def f34_l1 (N M : Nat) (v0 : Option (Nat × Nat)) (v3 : SL) (v4 : Int) (h : Heap) : Option (Out × (SL × Unit) × Heap) := iter (fun go s h => f34_l1_b N (fun v0 v3 v4 h => go (v0, v3, v4, ()) h) s.1 s.2.1 s.2.2.1 h) M (v0, v3, v4, ()) h
theorem f34_l1_succ (N M : Nat) (v0 : Option (Nat × Nat)) (v3 : SL) (v4 : Int) (h : Heap) : f34_l1 N (M + 1) v0 v3 v4 h = f34_l1_b N (f34_l1 N M) v0 v3 v4 h := rfl
theorem f34_l1_zero (N : Nat) (v0 : Option (Nat × Nat)) (v3 : SL) (v4 : Int) (h : Heap) : f34_l1 N 0 v0 v3 v4 h = none := rfl
noncomputable def f34 (N : Nat) (a0 : Option (Nat × Nat)) (h : Heap) : Option (SL × Heap) :=
  (bind3 (f34_l1 N N a0 ⟨none, 0, 0, 0⟩ 0 h) fun _ (j48 : (SL × Unit)) h49 =>
  some (j48.1, h49))
noncomputable def ann34 : Ann := (.two .n (.two .n (.two (.two .n (.two (.loop [(0, (.one .ptr)), (3, (.one .slice)), (4, (.one (.int .i64)))] [(.exit 0)] [(3, (.one .slice))] (.two .n (.two (.two (.two .n (.two (.two .n (.two (.loop [(0, (.one .ptr)), (3, (.one .slice)), (4, (.one (.int .i64))), (5, (.one .bool)), (6, (.one (.int .i64)))] [(.exit 2)] [(0, (.one .ptr)), (3, (.one .slice)), (4, (.one (.int .i64))), (5, (.one .bool))] .n) .n)) .n)) .n) .n))) .n)) .n)))
theorem f34_ok (N : Nat) : FnOK Try.prog 34 [(.one .ptr)] (.val (.one .slice)) (fun x h => f34 N x.1 h) :=
  runK_ok envOK hmix noCalls_ok (N := N) (x := ann34) (fn := Try.f34) (c := Try.f34.body.getD .skip) (by kernel_rfl) (by kernel_rfl) (by kernel_rfl) (by kernel_rfl) (fun _ _ => by kernel_rfl)

/- (*usufruct/usufructref25.Plan).Done -/
noncomputable def f31 (N : Nat) (a0 : Option (Nat × Nat)) (a1 : Int) (a2 : Bool) (h : Heap) : Option (Int × Heap) :=
  let x1 : Bool := ltInt a1 0
  (bif x1 then
   some (2, h)
  else
   (need a0 fun q2 =>
   (bindV (.val (.one .slice)) (h.cell (q2.1, q2.2 + 0)) fun (x3 : SL) =>
   let x4 : Bool := leInt (Int.ofNat x3.len) a1
   (bif x4 then
    some (2, h)
   else
    (bind2 (f32 N a0 h) fun (x5 : SL) h6 =>
    (bind2 (f48 N x5 a1 h6) fun (x7 : Bool) h8 =>
    let x9 : Bool := !x7
    (bif x9 then
     (bif a2 then
      some (13, h8)
     else
      (bind2 (f34 N a0 h8) fun (x10 : SL) h11 =>
      (bind2 (f48 N x10 a1 h11) fun (x12 : Bool) h13 =>
      let x14 : Bool := !x12
      (bif x14 then
       some (13, h13)
      else
       (need a0 fun q15 =>
       (bindV (.val (.one .slice)) (h13.cell (q15.1, q15.2 + 1)) fun (x16 : SL) =>
       (need a0 fun q17 =>
       (bindV (.val (.one .slice)) (h13.cell (q17.1, q17.2 + 2)) fun (x18 : SL) =>
       (ixK x16.a x16.len a1 1 fun q19 =>
       (need (h13.store q19 [(.bool true)]) fun h20 =>
       (ixK x18.a x18.len a1 1 fun q21 =>
       (need (h20.store q21 [(.bool a2)]) fun h22 =>
       some (0, h22)))))))))))))
    else
     (need a0 fun q23 =>
     (bindV (.val (.one .slice)) (h8.cell (q23.1, q23.2 + 1)) fun (x24 : SL) =>
     (need a0 fun q25 =>
     (bindV (.val (.one .slice)) (h8.cell (q25.1, q25.2 + 2)) fun (x26 : SL) =>
     (ixK x24.a x24.len a1 1 fun q27 =>
     (need (h8.store q27 [(.bool true)]) fun h28 =>
     (ixK x26.a x26.len a1 1 fun q29 =>
     (need (h28.store q29 [(.bool a2)]) fun h30 =>
     some (0, h30))))))))))))))))
noncomputable def ann31 : Ann := .n
theorem f31_ok (N : Nat) : FnOK Try.prog 31 [(.one .ptr), (.one (.int .i64)), (.one .bool)] (.val (.one (.int .i64))) (fun x h => f31 N x.1 x.2.1 x.2.2.1 h) :=
  runK_ok envOK hmix (addCall_ok (f48_ok N) (addCall_ok (f34_ok N) (addCall_ok (f32_ok N) noCalls_ok))) (N := N) (x := ann31) (fn := Try.f31) (c := Try.f31.body.getD .skip) (by kernel_rfl) (by kernel_rfl) (by kernel_rfl) (by kernel_rfl) (fun _ _ => by kernel_rfl)

/- (*usufruct/usufructref25.Plan).Left -/
noncomputable def f35_l1_b (N : Nat) (go : Option (Nat × Nat) → Int → Int → Heap → Option (Out × (Int × Unit) × Heap)) (v0 : Option (Nat × Nat)) (v3 : Int) (v4 : Int) (h : Heap) : Option (Out × (Int × Unit) × Heap) :=
  (need v0 fun q1 =>
  (bindV (.val (.one .slice)) (h.cell (q1.1, q1.2 + 1)) fun (x2 : SL) =>
  let x3 : Bool := ltInt v4 (Int.ofNat x2.len)
  (bif x3 then
   (need v0 fun q4 =>
   (bindV (.val (.one .slice)) (h.cell (q4.1, q4.2 + 1)) fun (x5 : SL) =>
   (ixK x5.a x5.len v4 1 fun q6 =>
   (bindV (.val (.one .bool)) (h.cell q6) fun (x7 : Bool) =>
   let x8 : Bool := !x7
   (bif x8 then
    let x9 : Int := wrapA .i64 (v3 + 1)
    let x10 : Int := wrapA .i64 (v4 + 1)
    go v0 x9 x10 h
   else
    let x11 : Int := wrapA .i64 (v4 + 1)
    go v0 v3 x11 h)))))
  else
   some ((Out.exit 0), (v3, ()), h))))
noncomputable def f35_l1 (N M : Nat) (v0 : Option (Nat × Nat)) (v3 : Int) (v4 : Int) (h : Heap) : Option (Out × (Int × Unit) × Heap) := iter (fun go s h => f35_l1_b N (fun v0 v3 v4 h => go (v0, v3, v4, ()) h) s.1 s.2.1 s.2.2.1 h) M (v0, v3, v4, ()) h
theorem f35_l1_succ (N M : Nat) (v0 : Option (Nat × Nat)) (v3 : Int) (v4 : Int) (h : Heap) : f35_l1 N (M + 1) v0 v3 v4 h = f35_l1_b N (f35_l1 N M) v0 v3 v4 h := rfl
theorem f35_l1_zero (N : Nat) (v0 : Option (Nat × Nat)) (v3 : Int) (v4 : Int) (h : Heap) : f35_l1 N 0 v0 v3 v4 h = none := rfl
noncomputable def f35 (N : Nat) (a0 : Option (Nat × Nat)) (h : Heap) : Option (Int × Heap) :=
  (bind3 (f35_l1 N N a0 0 0 h) fun _ (j13 : (Int × Unit)) h14 =>
  some (j13.1, h14))
noncomputable def ann35 : Ann := (.two .n (.two .n (.two (.two .n (.two (.loop [(0, (.one .ptr)), (3, (.one (.int .i64))), (4, (.one (.int .i64)))] [(.exit 0)] [(3, (.one (.int .i64)))] .n) .n)) .n)))
theorem f35_ok (N : Nat) : FnOK Try.prog 35 [(.one .ptr)] (.val (.one (.int .i64))) (fun x h => f35 N x.1 h) :=
  runK_ok envOK hmix noCalls_ok (N := N) (x := ann35) (fn := Try.f35) (c := Try.f35.body.getD .skip) (by kernel_rfl) (by kernel_rfl) (by kernel_rfl) (by kernel_rfl) (fun _ _ => by kernel_rfl)

/- usufruct/usufructlaw28.SchedPlays -/
noncomputable def f7_l1_b (N : Nat) (go : SL → SL → Bool → Option (Nat × Nat) → Option (Nat × Nat) → Int → Heap → Option (Out × (Bool × Unit) × Heap)) (v0 : SL) (v1 : SL) (v4 : Bool) (v5 : Option (Nat × Nat)) (v7 : Option (Nat × Nat)) (v10 : Int) (h : Heap) : Option (Out × (Bool × Unit) × Heap) :=
  let x26 : Bool := ltInt v10 (Int.ofNat v1.len)
  (bif x26 then
   let x27 : Bool := ltInt v10 40
   (bif x27 then
    (ixK v1.a v1.len v10 3 fun q28 =>
    (bindV (.val (.one (.int .i64))) (h.cell (q28.1, q28.2 + 0)) fun (x29 : Int) =>
    (bind2 (α := (SL × SL × Bool × Option (Nat × Nat) × Option (Nat × Nat) × Int × Int × Unit)) (
     (bind2 (α := (SL × SL × Bool × Option (Nat × Nat) × Option (Nat × Nat) × Int × Int × Bool × Unit)) (
      (ixK v1.a v1.len v10 3 fun q30 =>
      (bindV (.val (.one .bool)) (h.cell (q30.1, q30.2 + 2)) fun (x31 : Bool) =>
      let x32 : Bool := !x31
      (bif x32 then
       let x33 : Bool := ltInt 0 (Int.ofNat v0.len)
       some ((v0, v1, v4, v5, v7, v10, x29, x33, ()), h)
      else
       some ((v0, v1, v4, v5, v7, v10, x29, false, ()), h))))) fun (j34 : (SL × SL × Bool × Option (Nat × Nat) × Option (Nat × Nat) × Int × Int × Bool × Unit)) h35 =>
     (bif j34.2.2.2.2.2.2.2.1 then
      (bindV (.val (.one (.int .i64))) (binInt .rem .i64 j34.2.2.2.2.2.2.1 (Int.ofNat j34.1.len)) fun (x36 : Int) =>
      let x37 : Int := wrapA .i64 (x36 + (Int.ofNat j34.1.len))
      (bindV (.val (.one (.int .i64))) (binInt .rem .i64 x37 (Int.ofNat j34.1.len)) fun (x38 : Int) =>
      some ((j34.1, j34.2.1, j34.2.2.1, j34.2.2.2.1, j34.2.2.2.2.1, j34.2.2.2.2.2.1, x38, ()), h35)))
     else
      some ((j34.1, j34.2.1, j34.2.2.1, j34.2.2.2.1, j34.2.2.2.2.1, j34.2.2.2.2.2.1, j34.2.2.2.2.2.2.1, ()), h35)))) fun (j39 : (SL × SL × Bool × Option (Nat × Nat) × Option (Nat × Nat) × Int × Int × Unit)) h40 =>
    (ixK j39.2.1.a j39.2.1.len j39.2.2.2.2.2.1 3 fun q41 =>
    (bindV (.val (.one .bool)) (h40.cell (q41.1, q41.2 + 1)) fun (x42 : Bool) =>
    (bind2 (f30 N j39.2.2.2.1 j39.2.2.2.2.2.2.1 x42 h40) fun (x43 : AV) h44 =>
    (ixK j39.2.1.a j39.2.1.len j39.2.2.2.2.2.1 3 fun q45 =>
    (bindV (.val (.one .bool)) (h44.cell (q45.1, q45.2 + 1)) fun (x46 : Bool) =>
    (bind2 (f31 N j39.2.2.2.2.1 j39.2.2.2.2.2.2.1 x46 h44) fun (x47 : Int) h48 =>
    (bind2 (f19 N x43 x47 0 h48) fun (x49 : Bool) h50 =>
    let x51 : Bool := !x49
    (bif x51 then
     (guardB (bif (sameO (h44.cell (q45.1, q45.2 + 1)) (.bool x46)) then (bif (sameO (h40.cell (q45.1, q45.2 + 1)) (.bool x46)) then (bif (sameO (h40.cell (q41.1, q41.2 + 1)) (.bool x42)) then true else false) else false) else false) (
     some (Out.ret, (false, ()), h50)))
    else
     (bind2 (f28 N j39.2.2.2.1 h50) fun (x52 : SL) h53 =>
     (bind2 (f32 N j39.2.2.2.2.1 h53) fun (x54 : SL) h55 =>
     (bind2 (f18 N x52 x54 h55) fun (x56 : Bool) h57 =>
     let x58 : Bool := !x56
     (bif x58 then
      (guardB (bif (sameO (h44.cell (q45.1, q45.2 + 1)) (.bool x46)) then (bif (sameO (h40.cell (q45.1, q45.2 + 1)) (.bool x46)) then (bif (sameO (h40.cell (q41.1, q41.2 + 1)) (.bool x42)) then true else false) else false) else false) (
      some (Out.ret, (false, ()), h57)))
     else
      (bind2 (f33 N j39.2.2.2.1 h57) fun (x59 : SL) h60 =>
      (bind2 (f34 N j39.2.2.2.2.1 h60) fun (x61 : SL) h62 =>
      (bind2 (f18 N x59 x61 h62) fun (x63 : Bool) h64 =>
      let x65 : Bool := !x63
      (bif x65 then
       (guardB (bif (sameO (h44.cell (q45.1, q45.2 + 1)) (.bool x46)) then (bif (sameO (h40.cell (q45.1, q45.2 + 1)) (.bool x46)) then (bif (sameO (h40.cell (q41.1, q41.2 + 1)) (.bool x42)) then true else false) else false) else false) (
       some (Out.ret, (false, ()), h64)))
      else
       (bind2 (f29 N j39.2.2.2.1 h64) fun (x66 : Int) h67 =>
       (bind2 (f35 N j39.2.2.2.2.1 h67) fun (x68 : Int) h69 =>
       let x70 : Bool := !eqInt x66 x68
       (guardB (bif (sameO (h44.cell (q45.1, q45.2 + 1)) (.bool x46)) then (bif (sameO (h40.cell (q45.1, q45.2 + 1)) (.bool x46)) then (bif (sameO (h40.cell (q41.1, q41.2 + 1)) (.bool x42)) then true else false) else false) else false) (
       (bif x70 then
        some (Out.ret, (false, ()), h69)
       else
        (bind2 (f36 N j39.2.2.2.1 j39.2.2.2.2.2.2.1 h69) fun (x71 : (Bool × Bool × Unit)) h72 =>
        let x73 : Bool := leInt 0 j39.2.2.2.2.2.2.1
        (bif x73 then
         let x74 : Bool := ltInt j39.2.2.2.2.2.2.1 (Int.ofNat j39.1.len)
         (bif x74 then
          (need j39.2.2.2.2.1 fun q75 =>
          (bindV (.val (.one .slice)) (h72.cell (q75.1, q75.2 + 1)) fun (x76 : SL) =>
          (ixK x76.a x76.len j39.2.2.2.2.2.2.1 1 fun q77 =>
          (bindV (.val (.one .bool)) (h72.cell q77) fun (x78 : Bool) =>
          let x79 : Bool := !(bif x71.1 then x78 else !x78)
          (bif x79 then
           some (Out.ret, (false, ()), h72)
          else
           (need j39.2.2.2.2.1 fun q80 =>
           (bindV (.val (.one .slice)) (h72.cell (q80.1, q80.2 + 2)) fun (x81 : SL) =>
           (ixK x81.a x81.len j39.2.2.2.2.2.2.1 1 fun q82 =>
           (bindV (.val (.one .bool)) (h72.cell q82) fun (x83 : Bool) =>
           let x84 : Bool := !(bif x71.2.1 then x83 else !x83)
           (bif x84 then
            some (Out.ret, (false, ()), h72)
           else
            let x85 : Bool := ltInt j39.2.2.2.2.2.2.1 0
            (bif x85 then
             (bif x71.1 then
              some (Out.ret, (false, ()), h72)
             else
              (bif x71.2.1 then
               some (Out.ret, (false, ()), h72)
              else
               let x86 : Int := wrapA .i64 (j39.2.2.2.2.2.1 + 1)
               go j39.1 j39.2.1 j39.2.2.1 j39.2.2.2.1 j39.2.2.2.2.1 x86 h72))
            else
             let x87 : Bool := leInt (Int.ofNat j39.1.len) j39.2.2.2.2.2.2.1
             (bif x87 then
              (bif x71.1 then
               some (Out.ret, (false, ()), h72)
              else
               (bif x71.2.1 then
                some (Out.ret, (false, ()), h72)
               else
                let x88 : Int := wrapA .i64 (j39.2.2.2.2.2.1 + 1)
                go j39.1 j39.2.1 j39.2.2.1 j39.2.2.2.1 j39.2.2.2.2.1 x88 h72))
             else
              let x89 : Int := wrapA .i64 (j39.2.2.2.2.2.1 + 1)
              go j39.1 j39.2.1 j39.2.2.1 j39.2.2.2.1 j39.2.2.2.2.1 x89 h72))))))))))))
         else
          let x90 : Bool := ltInt j39.2.2.2.2.2.2.1 0
          (bif x90 then
           (bif x71.1 then
            some (Out.ret, (false, ()), h72)
           else
            (bif x71.2.1 then
             some (Out.ret, (false, ()), h72)
            else
             let x91 : Int := wrapA .i64 (j39.2.2.2.2.2.1 + 1)
             go j39.1 j39.2.1 j39.2.2.1 j39.2.2.2.1 j39.2.2.2.2.1 x91 h72))
          else
           let x92 : Bool := leInt (Int.ofNat j39.1.len) j39.2.2.2.2.2.2.1
           (bif x92 then
            (bif x71.1 then
             some (Out.ret, (false, ()), h72)
            else
             (bif x71.2.1 then
              some (Out.ret, (false, ()), h72)
             else
              let x93 : Int := wrapA .i64 (j39.2.2.2.2.2.1 + 1)
              go j39.1 j39.2.1 j39.2.2.1 j39.2.2.2.1 j39.2.2.2.2.1 x93 h72))
           else
            let x94 : Int := wrapA .i64 (j39.2.2.2.2.2.1 + 1)
            go j39.1 j39.2.1 j39.2.2.1 j39.2.2.2.1 j39.2.2.2.2.1 x94 h72)))
        else
         let x95 : Bool := ltInt j39.2.2.2.2.2.2.1 0
         (bif x95 then
          (bif x71.1 then
           some (Out.ret, (false, ()), h72)
          else
           (bif x71.2.1 then
            some (Out.ret, (false, ()), h72)
           else
            let x96 : Int := wrapA .i64 (j39.2.2.2.2.2.1 + 1)
            go j39.1 j39.2.1 j39.2.2.1 j39.2.2.2.1 j39.2.2.2.2.1 x96 h72))
         else
          let x97 : Bool := leInt (Int.ofNat j39.1.len) j39.2.2.2.2.2.2.1
          (bif x97 then
           (bif x71.1 then
            some (Out.ret, (false, ()), h72)
           else
            (bif x71.2.1 then
             some (Out.ret, (false, ()), h72)
            else
             let x98 : Int := wrapA .i64 (j39.2.2.2.2.2.1 + 1)
             go j39.1 j39.2.1 j39.2.2.1 j39.2.2.2.1 j39.2.2.2.2.1 x98 h72))
          else
           let x99 : Int := wrapA .i64 (j39.2.2.2.2.2.1 + 1)
           go j39.1 j39.2.1 j39.2.2.1 j39.2.2.2.1 j39.2.2.2.2.1 x99 h72))))))))))))))))))))))))))))
   else
    some ((Out.exit 0), (v4, ()), h))
  else
   some ((Out.exit 0), (v4, ()), h))
noncomputable def f7_l1 (N M : Nat) (v0 : SL) (v1 : SL) (v4 : Bool) (v5 : Option (Nat × Nat)) (v7 : Option (Nat × Nat)) (v10 : Int) (h : Heap) : Option (Out × (Bool × Unit) × Heap) := iter (fun go s h => f7_l1_b N (fun v0 v1 v4 v5 v7 v10 h => go (v0, v1, v4, v5, v7, v10, ()) h) s.1 s.2.1 s.2.2.1 s.2.2.2.1 s.2.2.2.2.1 s.2.2.2.2.2.1 h) M (v0, v1, v4, v5, v7, v10, ()) h
theorem f7_l1_succ (N M : Nat) (v0 : SL) (v1 : SL) (v4 : Bool) (v5 : Option (Nat × Nat)) (v7 : Option (Nat × Nat)) (v10 : Int) (h : Heap) : f7_l1 N (M + 1) v0 v1 v4 v5 v7 v10 h = f7_l1_b N (f7_l1 N M) v0 v1 v4 v5 v7 v10 h := rfl
theorem f7_l1_zero (N : Nat) (v0 : SL) (v1 : SL) (v4 : Bool) (v5 : Option (Nat × Nat)) (v7 : Option (Nat × Nat)) (v10 : Int) (h : Heap) : f7_l1 N 0 v0 v1 v4 v5 v7 v10 h = none := rfl
noncomputable def f7 (N : Nat) (a0 : SL) (a1 : SL) (h : Heap) : Option (Bool × Heap) :=
  (bind2 (f24 N a0 h) fun (x1 : Bool) h2 =>
  let x3 : Bool := !x1
  (bif x3 then
   (bind2 (f25 N  h2) fun (x4 : Bool) h5 =>
   some (x4, h5))
  else
   (bind2 (f26 N a0 h2) fun (x6 : (Option (Nat × Nat) × AV × Unit)) h7 =>
   (bind2 (f27 N a0 h7) fun (x8 : (Option (Nat × Nat) × Int × Int × Unit)) h9 =>
   (bind2 (f19 N x6.2.1 x8.2.1 x8.2.2.1 h9) fun (x10 : Bool) h11 =>
   let x12 : Bool := !x10
   (bif x12 then
    some (false, h11)
   else
    let x13 : Bool := !(bif x6.1.isNone then x8.1.isNone else !x8.1.isNone)
    (bif x13 then
     some (false, h11)
    else
     (bif x6.1.isNone then
      (bind2 (f25 N  h11) fun (x14 : Bool) h15 =>
      (bif x14 then
       (bind2 (f28 N x6.1 h15) fun (x16 : SL) h17 =>
       let x18 : Bool := eqInt (Int.ofNat x16.len) 0
       (bif x18 then
        (bind2 (f29 N x6.1 h17) fun (x19 : Int) h20 =>
        let x21 : Bool := eqInt x19 0
        (bif x21 then
         (bind2 (f30 N x6.1 0 true h20) fun (x22 : AV) h23 =>
         (bind2 (f19 N x22 1 0 h23) fun (x24 : Bool) h25 =>
         some (x24, h25)))
        else
         some (false, h20)))
       else
        some (false, h17)))
      else
       some (false, h15)))
     else
      (bind3 (f7_l1 N N a0 a1 false x6.1 x8.1 0 h11) fun o100 (j101 : (Bool × Unit)) h102 =>
      (bif eqOut o100 (.exit 0) then
       (bind2 (f25 N  h102) fun (x103 : Bool) h104 =>
       some (x103, h104))
      else
       some (j101.1, h102)))))))))))
noncomputable def ann7 : Ann := (.two .n (.two .n (.two .n (.two .n (.two .n (.two .n (.two (.two .n (.two (.loop [(0, (.one .slice)), (1, (.one .slice)), (4, (.one .bool)), (5, (.one .ptr)), (7, (.one .ptr)), (10, (.one (.int .i64)))] [(.exit 0), .ret] [(4, (.one .bool))] (.two .n (.two (.two (.two .n (.two (.join [(0, (.one .slice)), (1, (.one .slice)), (4, (.one .bool)), (5, (.one .ptr)), (7, (.one .ptr)), (10, (.one (.int .i64))), (11, (.one (.int .i64)))] (.two (.join [(0, (.one .slice)), (1, (.one .slice)), (4, (.one .bool)), (5, (.one .ptr)), (7, (.one .ptr)), (10, (.one (.int .i64))), (11, (.one (.int .i64))), (85, (.one .bool))] .n) .n)) .n)) .n) .n))) .n)) .n)))))))
theorem f7_ok (N : Nat) : FnOK Try.prog 7 [(.one .slice), (.one .slice)] (.val (.one .bool)) (fun x h => f7 N x.1 x.2.1 h) :=
  runK_ok envOK hmix (addCall_ok (f36_ok N) (addCall_ok (f35_ok N) (addCall_ok (f34_ok N) (addCall_ok (f33_ok N) (addCall_ok (f32_ok N) (addCall_ok (f31_ok N) (addCall_ok (f30_ok N) (addCall_ok (f29_ok N) (addCall_ok (f28_ok N) (addCall_ok (f27_ok N) (addCall_ok (f26_ok N) (addCall_ok (f25_ok N) (addCall_ok (f24_ok N) (addCall_ok (f19_ok N) (addCall_ok (f18_ok N) noCalls_ok))))))))))))))) (N := N) (x := ann7) (fn := Try.f7) (c := Try.f7.body.getD .skip) (by kernel_rfl) (by kernel_rfl) (by kernel_rfl) (by kernel_rfl) (fun _ _ => by kernel_rfl)
end Go.Proofs.Ythpplekbeecdfaa.Gb

open Go Go.Proofs.Ythpplekbeecdfaa.Ai Go.Proofs
namespace Go.Proofs.Ythpplekbeecdfaa.Gb
abbrev nilS : SL := ⟨none, 0, 0, 0⟩
abbrev Ints (h : Heap) (s : SL) (l : List Int) : Prop := One h s (l.map (AV.int .i64))
structure Rows (h : Heap) (s : SL) (ss : List SL) (ll : List (List Int)) : Prop where
  top : One h s (ss.map SL.av)
  len : ss.length = ll.length
  row : ∀ i, i < ll.length → Ints h (ss.getD i nilS) (ll.getD i [])
theorem Ints.len {h : Heap} {s : SL} {l : List Int} (hs : Ints h s l) : s.len = l.length := by have := hs.1; simpa using this
theorem Rows.slen {h : Heap} {s : SL} {ss : List SL} {ll : List (List Int)} (hs : Rows h s ss ll) : s.len = ll.length := by have := hs.top.1; rw [List.length_map, hs.len] at this; exact this
variable {N : Nat} {h : Heap} {s : SL} {l : List Int} {ss : List SL} {ll : List (List Int)}
theorem has_loop (hs : Ints h s l) (hl : l.length ≤ 1000000) (x : Int) (b : Bool) : ∀ (M i : Nat), i ≤ l.length → l.length - i < M → f13_l1 N M s x b i h = if x ∈ l.drop i then some (.ret, (true, ()), h) else some (.exit 0, (b, ()), h) := by
  intro M
  induction M with
  | zero => intro i h1 h2; omega
  | succ M ih =>
    intro i h1 h2
    have hlen := Ints.len hs
    rw [f13_l1_succ]
    unfold f13_l1_b
    by_cases hi : i < l.length
    · have ew : wrapA .i64 ((i : Int) + 1) = ((i + 1 : Nat) : Int) := wrapA_small (by omega) (by omega)
      have hd : l.drop i = l[i] :: l.drop (i + 1) := List.drop_eq_getElem_cons hi
      have hg : l.getD i 0 = l[i] := by simp [hi]
      rw [hs.int (x := (i : Int)) (by omega) (by omega)]
      simp only [ltInt_dec, hlen, Int.ofNat_eq_natCast, Int.ofNat_lt, hi, decide_true, cond_true, Int.toNat_natCast, hg, eqInt_dec, ew, ih (i + 1) (by omega) (by omega), hd, List.mem_cons]
      by_cases he : l[i] = x
      · simp [he]
      · have he' : ¬ x = l[i] := fun e => he e.symm
        simp [he, he']
    · have : i = l.length := by omega
      subst this
      simp [ltInt_dec, hlen]
theorem has_spec (hs : Ints h s l) (hN : 1000001 ≤ N) (hl : l.length ≤ 1000000) (x : Int) : f13 N s x h = some (decide (x ∈ l), h) := by
  unfold f13
  have := has_loop (N := N) hs hl x false N 0 (by omega) (by omega)
  simp only [List.drop_zero] at this
  rw [show (0 : Int) = ((0 : Nat) : Int) from rfl, this]
  by_cases hx : x ∈ l <;> simp [hx]
/-- needs that may be -/
structure Fine (ll : List (List Int)) : Prop where
  len : ll.length ≤ 64
  row : ∀ i, i < ll.length → (ll.getD i []).length ≤ 64
  inr : ∀ i, i < ll.length → ∀ x ∈ ll.getD i [], 0 ≤ x ∧ x < ll.length
theorem may1 (hr : Rows h s ss ll) (hf : Fine ll) (v : AV) : ∀ (M i : Nat), i ≤ ll.length → ll.length - i < M → f38_l1 N M s v s (ll.length : Int) i h = some (.exit 0, (s, v, ()), h) := by
  intro M
  induction M with
  | zero => intro i h1 h2; omega
  | succ M ih =>
    intro i h1 h2
    rw [f38_l1_succ]
    unfold f38_l1_b
    by_cases hi : i < ll.length
    · have ew : wrapA .i64 ((i : Int) + 1) = ((i + 1 : Nat) : Int) := wrapA_small (by omega) (by have := hf.len; omega)
      have hl := hf.row i hi
      have hrl := Ints.len (hr.row i hi)
      rw [hr.top.sl (x := (i : Int)) (by omega) (by rw [hr.len]; omega)]
      simp only [ltInt_dec, Int.ofNat_lt, hi, decide_true, cond_true, Int.toNat_natCast, hrl, Int.ofNat_eq_natCast, show ¬ ((64 : Int) < (ll.getD i []).length) by omega, decide_false, cond_false, ew, ih (i + 1) (by omega) (by omega)]
    · have : i = ll.length := by omega
      subst this
      simp [ltInt_dec]
theorem may3 (hs : Ints h s l) {s0 : SL} {n : Nat} (hn : s0.len = n) (hl : l.length ≤ 1000) (hin : ∀ x ∈ l, 0 ≤ x ∧ x < n) (v : AV) (a b c : Int) (t : SL) : ∀ (M i : Nat), i ≤ l.length → l.length - i < M → f38_l3 N M s0 v a t b c s (l.length : Int) i h = some (.exit 4, (s0, v, t, b, c, ()), h) := by
  intro M
  induction M with
  | zero => intro i h1 h2; omega
  | succ M ih =>
    intro i h1 h2
    rw [f38_l3_succ]
    unfold f38_l3_b
    by_cases hi : i < l.length
    · have ew : wrapA .i64 ((i : Int) + 1) = ((i + 1 : Nat) : Int) := wrapA_small (by omega) (by omega)
      have hg : l.getD i 0 = l[i] := by simp [hi]
      have hx := hin l[i] (List.getElem_mem hi)
      rw [hs.int (x := (i : Int)) (by omega) (by omega)]
      simp only [ltInt_dec, leInt_dec, Int.ofNat_lt, hi, decide_true, cond_true, Int.toNat_natCast, hg, hn, Int.ofNat_eq_natCast, show ¬ (l[i] < 0) by omega, show ¬ ((n : Int) ≤ l[i]) by omega, decide_false, cond_false, ew, ih (i + 1) (by omega) (by omega)]
    · have : i = l.length := by omega
      subst this
      simp [ltInt_dec]
theorem may2 (hr : Rows h s ss ll) (hf : Fine ll) (hN : 100 ≤ N) (v : AV) : ∀ (M i : Nat), i ≤ ll.length → ll.length - i < M → f38_l2 N M s v s (ll.length : Int) i h = some (.exit 2, (v, ()), h) := by
  intro M
  induction M with
  | zero => intro i h1 h2; omega
  | succ M ih =>
    intro i h1 h2
    rw [f38_l2_succ]
    unfold f38_l2_b
    by_cases hi : i < ll.length
    · have ew : wrapA .i64 ((i : Int) + 1) = ((i + 1 : Nat) : Int) := wrapA_small (by omega) (by have := hf.len; omega)
      have hl := hf.row i hi
      have hrow := hr.row i hi
      have h3 := may3 (N := N) hrow hr.slen (by omega) (hf.inr i hi) v (i : Int) (ll.length : Int) (i : Int) s N 0 (by omega) (by omega)
      rw [hr.top.sl (x := (i : Int)) (by omega) (by rw [hr.len]; omega)]
      simp only [Int.ofNat_zero] at h3
      simp only [ltInt_dec, Int.ofNat_lt, hi, decide_true, cond_true, Int.toNat_natCast, Ints.len hrow, Int.ofNat_eq_natCast, h3, bind3_some, eqOut_exit, ew, ih (i + 1) (by omega) (by omega)]
    · have : i = ll.length := by omega
      subst this
      simp [ltInt_dec]
theorem may_spec (hr : Rows h s ss ll) (hf : Fine ll) (hN : 100 ≤ N) : f38 N s h = some (AV.nilIface, h) := by
  unfold f38
  have hl := hf.len
  have h1 := may1 (N := N) hr hf AV.nilIface N 0 (by omega) (by omega)
  have h2 := may2 (N := N) hr hf hN AV.nilIface N 0 (by omega) (by omega)
  simp only [Int.ofNat_zero] at h1 h2
  simp only [ltInt_dec, hr.slen, Int.ofNat_eq_natCast, show ¬ ((64 : Int) < ll.length) by omega, decide_false, cond_false, h1, h2, bind3_some, eqOut_exit, decide_true, cond_true]
end Go.Proofs.Ythpplekbeecdfaa.Gb

open Go Go.Proofs.Ythpplekbeecdfaa.Ai Go.Proofs
namespace Go.Proofs.Ythpplekbeecdfaa.Gb
/-! plain: what is needed by one step or more -/
inductive Reach (ll : List (List Int)) (i : Int) : Int → Prop
  | one {k : Int} : k ∈ ll.getD i.toNat [] → Reach ll i k
  | step {y k : Int} : Reach ll i y → k ∈ ll.getD y.toNat [] → Reach ll i k
def bstep (p : List Bool × List Int) (k : Int) : List Bool × List Int := if p.1.getD k.toNat false then p else (p.1.set k.toNat true, p.2 ++ [k])
theorem getD_set_b (seen : List Bool) (a k : Nat) (ha : a < seen.length) : (seen.set a true).getD k false = true ↔ seen.getD k false = true ∨ k = a := by
  simp only [List.getD_eq_getElem?_getD, List.getElem?_set]
  by_cases h : a = k
  · subst h; simp [ha]
  · have h' : ¬ k = a := fun e => h e.symm
    simp [h, h']
theorem count_set_b (seen : List Bool) (a : Nat) (ha : a < seen.length) (hf : seen.getD a false = false) : (seen.set a true).count true = seen.count true + 1 := by
  rw [List.count_set ha]
  have : seen[a] = false := by simpa [List.getD_eq_getElem?_getD, ha] using hf
  simp [this]
structure Folded (n : Nat) (r : List Int) (seen : List Bool) (work : List Int) (p : List Bool × List Int) : Prop where
  len : p.1.length = n
  sn : ∀ k, p.1.getD k false = true ↔ seen.getD k false = true ∨ (k : Int) ∈ r
  keep : ∀ x ∈ work, x ∈ p.2
  from' : ∀ x ∈ p.2, x ∈ work ∨ x ∈ r
  new : ∀ x ∈ r, seen.getD x.toNat false = true ∨ x ∈ p.2
  meas : p.2.length + (n - p.1.count true) = work.length + (n - seen.count true)
theorem fold_spec {n : Nat} : ∀ (r : List Int) (seen : List Bool) (work : List Int), seen.length = n → (∀ x ∈ r, 0 ≤ x ∧ x < n) → Folded n r seen work (r.foldl bstep (seen, work))
  | [], seen, work, hl, _ => ⟨hl, by simp, fun _ h => h, fun _ h => .inl h, by simp, rfl⟩
  | k :: r, seen, work, hl, hr => by
    have hk := hr k (by simp)
    have hk' : k.toNat < seen.length := by omega
    have hkk : ((k.toNat : Nat) : Int) = k := by omega
    simp only [List.foldl_cons]
    cases hs : seen.getD k.toNat false with
    | true =>
      have hb : bstep (seen, work) k = (seen, work) := by simp only [bstep, hs, if_true]
      rw [hb]
      have ih := fold_spec r seen work hl (fun x hx => hr x (by simp [hx]))
      refine ⟨ih.len, fun j => ?_, ih.keep, fun x hx => (ih.from' x hx).imp id (by simp; exact .inr), fun x hx => ?_, ih.meas⟩
      · rw [ih.sn]
        constructor
        · rintro (h | h)
          · exact .inl h
          · exact .inr (by simp [h])
        · rintro (h | h)
          · exact .inl h
          · rcases List.mem_cons.1 h with h | h
            · left; rw [← h] at hs; simpa using hs
            · exact .inr h
      · rcases List.mem_cons.1 hx with rfl | h
        · exact .inl hs
        · exact ih.new x h
    | false =>
      have hb : bstep (seen, work) k = (seen.set k.toNat true, work ++ [k]) := by simp only [bstep, hs]; rfl
      rw [hb]
      have ih := fold_spec r (seen.set k.toNat true) (work ++ [k]) (by simpa using hl) (fun x hx => hr x (by simp [hx]))
      have hcount : seen.count true < n := by
        rcases Nat.lt_or_ge (seen.count true) n with h | h
        · exact h
        · have h1 := List.count_le_length (a := true) (l := seen)
          have h2 : seen.count true = seen.length := by omega
          have h3 := List.count_eq_length.1 h2
          have h4 : seen[k.toNat] = false := by simpa [List.getD_eq_getElem?_getD, hk'] using hs
          have := h3 seen[k.toNat] (List.getElem_mem hk')
          rw [h4] at this; cases this
      refine ⟨ih.len, fun j => ?_, fun x hx => ih.keep x (by simp [hx]), fun x hx => ?_, fun x hx => ?_, ?_⟩
      · rw [ih.sn, getD_set_b _ _ _ hk']
        constructor
        · rintro ((h | h) | h)
          · exact .inl h
          · right; subst h; simp [hkk]
          · exact .inr (by simp [h])
        · rintro (h | h)
          · exact .inl (.inl h)
          · rcases List.mem_cons.1 h with h | h
            · left; right; omega
            · exact .inr h
      · rcases ih.from' x hx with h | h
        · rcases List.mem_append.1 h with h | h
          · exact .inl h
          · right; simp at h; simp [h]
        · exact .inr (by simp [h])
      · rcases List.mem_cons.1 hx with rfl | h
        · right; exact ih.keep _ (by simp)
        · rcases ih.new x h with h1 | h1
          · rw [getD_set_b _ _ _ hk'] at h1
            rcases h1 with h1 | h1
            · exact .inl h1
            · right
              have hx2 := hr x (by simp [h])
              have : x = k := by omega
              subst this; exact ih.keep _ (by simp)
          · exact .inr h1
      · rw [ih.meas, count_set_b _ _ hk' hs]
        simp; omega
/-! the program's -/
theorem app26 : App1 E 26 3 := .of (by kernel_rfl) (by kernel_rfl) (by kernel_rfl)
theorem app43 : App1 E 43 4 := .of (by kernel_rfl) (by kernel_rfl) (by kernel_rfl)
variable {N : Nat} {s : SL} {l : List Int} {ss : List SL} {ll : List (List Int)} {B : Nat} {h0 : Heap}
/-- the state of the search -/
structure Bst (B : Nat) (h0 h : Heap) (sv wv : SL) (seen : List Bool) (work : List Int) : Prop where
  k : Keep B h0 h
  b0 : B ≤ h0.next
  s : Own1 B h sv (seen.map AV.bool)
  w : Own1 B h wv (work.map (AV.int .i64))
  ne : ∀ A, sv.blk = some A → wv.blk ≠ some A
theorem inner (hs : Ints h0 s l) (hu : s.under B) (hl : l.length ≤ 1000) (v0 : SL) {sv : SL} {n : Nat} (hn : n ≤ 1000) (hin : ∀ x ∈ l, 0 ≤ x ∧ x < n) : ∀ (M i : Nat) (h : Heap) (wv : SL) (seen : List Bool) (work : List Int), i ≤ l.length → l.length - i < M → Bst B h0 h sv wv seen work → seen.length = n → work.length + (l.length - i) ≤ 90000 →
    ∃ wv' h', f39_l2 N M v0 sv wv s (l.length : Int) i h = some (.exit 2, (v0, sv, wv', ()), h') ∧ Bst B h0 h' sv wv' ((l.drop i).foldl bstep (seen, work)).1 ((l.drop i).foldl bstep (seen, work)).2 := by
  intro M
  induction M with
  | zero => intro i h wv seen work h1 h2; omega
  | succ M ih =>
    intro i h wv seen work h1 h2 hb hsl hwl
    rw [f39_l2_succ]
    unfold f39_l2_b
    by_cases hi : i < l.length
    · have ew : wrapA .i64 ((i : Int) + 1) = ((i + 1 : Nat) : Int) := wrapA_small (by omega) (by omega)
      have hd : l.drop i = l[i] :: l.drop (i + 1) := List.drop_eq_getElem_cons hi
      have hg : l.getD i 0 = l[i] := by simp [hi]
      have hx := hin l[i] (List.getElem_mem hi)
      have hs' : Ints h s l := One.keep hb.k hu hs
      have hso := hb.s.one
      have hwo := hb.w
      rw [hs'.int (x := (i : Int)) (by omega) (by omega), hd]
      simp only [Int.toNat_natCast, hg, List.foldl_cons]
      rw [hso.bool (x := l[i]) (by omega) (by omega)]
      simp only [ltInt_dec, Int.ofNat_lt, hi, decide_true, cond_true, ew]
      cases hsn : seen.getD l[i].toNat false with
      | true =>
        have hbs : bstep (seen, work) l[i] = (seen, work) := by simp only [bstep, hsn, if_true]
        simp only [Bool.not_true, cond_false, hbs]
        exact ih (i + 1) h wv seen work (by omega) (by omega) hb hsl (by omega)
      | false =>
        have hbs : bstep (seen, work) l[i] = (seen.set l[i].toNat true, work ++ [l[i]]) := by simp only [bstep, hsn]; rfl
        simp only [Bool.not_false, cond_true, hbs]
        obtain ⟨h1', e1, o1, b1, n1⟩ := store_own1 hb.s (i := l[i].toNat) (by simp; omega) (AV.bool true)
        have ow : Own1 B h1' wv (work.map (AV.int .i64)) := hb.w.but b1 (fun A hA e => hb.ne A e hA)
        have k1 : Keep B h h1' := b1.keep (Nat.le_trans hb.b0 hb.k.next) (fun A hA => (hb.s.ge A hA).1)
        obtain ⟨wv', h2', e2, o2, b2, c2⟩ := append_own1 app26 (v := AV.int .i64 l[i]) rfl ow (by have := hb.b0; have := hb.k.next; omega) (by simp; omega)
        have k2 : Keep B h1' h2' := b2.keep (by have := hb.b0; have := hb.k.next; omega) (fun A hA => (ow.ge A hA).1)
        have os : Own1 B h2' sv ((seen.set l[i].toNat true).map AV.bool) := by
          rw [List.map_set]
          exact o1.but b2 (fun A hA => hb.ne A hA)
        rw [hso.ixz (x := l[i]) (by omega) (by simp; omega), e1]
        simp only [need_some]
        rw [e2]
        simp only [bindT_some, cast_slice]
        refine ih (i + 1) h2' wv' _ _ (by omega) (by omega) ⟨hb.k.trans (k1.trans k2), hb.b0, os, by rw [List.map_append]; exact o2, ?_⟩ (by simpa using hsl) (by simp; omega)
        intro A hA e
        rcases c2 with c2 | ⟨A', c2, c3⟩
        · exact hb.ne A hA (c2 ▸ e)
        · rw [c2] at e; cases e
          have := (o1.ge A hA).2; omega
    · have : i = l.length := by omega
      subst this
      simp only [ltInt_dec, List.drop_length, List.foldl_nil]
      exact ⟨wv, h, by simp, hb⟩
structure Inv (ll : List (List Int)) (i : Int) (seen : List Bool) (work : List Int) : Prop where
  len : seen.length = ll.length
  a : ∀ k, seen.getD k false = true → Reach ll i (k : Int)
  b : ∀ x ∈ work, 0 ≤ x ∧ x < ll.length ∧ (x = i ∨ seen.getD x.toNat false = true)
  c : ∀ y, 0 ≤ y → (y = i ∨ seen.getD y.toNat false = true) → y ∈ work ∨ ∀ x ∈ ll.getD y.toNat [], seen.getD x.toNat false = true
theorem Inv.done {i : Int} {seen : List Bool} (hi : 0 ≤ i) (hf : Fine ll) (hv : Inv ll i seen []) : ∀ k, Reach ll i k → 0 ≤ k ∧ seen.getD k.toNat false = true := by
  have inr : ∀ y : Int, ∀ x ∈ ll.getD y.toNat [], 0 ≤ x := by
    intro y x hx
    rcases Nat.lt_or_ge y.toNat ll.length with h | h
    · exact (hf.inr _ h x hx).1
    · rw [List.getD_eq_getElem?_getD, List.getElem?_eq_none h] at hx; simp at hx
  intro k hk
  induction hk with
  | one h => exact ⟨inr _ _ h, by rcases hv.c i hi (.inl rfl) with h1 | h1
                                  · simp at h1
                                  · exact h1 _ h⟩
  | step _ h ih => exact ⟨inr _ _ h, by rcases hv.c _ ih.1 (.inr ih.2) with h1 | h1
                                        · simp at h1
                                        · exact h1 _ h⟩
theorem Inv.next {i : Int} {seen : List Bool} {work : List Int} {x : Int} (hf : Fine ll) (hv : Inv ll i seen (work ++ [x])) :
    Inv ll i ((ll.getD x.toNat []).foldl bstep (seen, work)).1 ((ll.getD x.toNat []).foldl bstep (seen, work)).2 := by
  have hx := hv.b x (by simp)
  have hxl : x.toNat < ll.length := by omega
  have hin := hf.inr x.toNat hxl
  have fo := fold_spec (n := ll.length) (ll.getD x.toNat []) seen work hv.len hin
  have hreach : ∀ k ∈ ll.getD x.toNat [], Reach ll i k := by
    intro k hk
    rcases hx.2.2 with h | h
    · subst h; exact .one hk
    · have := hv.a x.toNat h
      rw [show ((x.toNat : Nat) : Int) = x by omega] at this
      exact .step this hk
  refine ⟨fo.len, fun k hk => ?_, fun y hy => ?_, fun y hy0 hy => ?_⟩
  · rcases (fo.sn k).1 hk with h | h
    · exact hv.a k h
    · exact hreach k h
  · rcases fo.from' y hy with h | h
    · obtain ⟨h1, h2, h3⟩ := hv.b y (by simp [h])
      exact ⟨h1, h2, h3.imp id fun h4 => (fo.sn _).2 (.inl h4)⟩
    · obtain ⟨h1, h2⟩ := hin y h
      exact ⟨h1, h2, .inr ((fo.sn _).2 (.inr (by rw [show ((y.toNat : Nat) : Int) = y by omega]; exact h)))⟩
  · have old : (y = i ∨ seen.getD y.toNat false = true) → y ∈ ((ll.getD x.toNat []).foldl bstep (seen, work)).2 ∨ ∀ z ∈ ll.getD y.toNat [], ((ll.getD x.toNat []).foldl bstep (seen, work)).1.getD z.toNat false = true := by
      intro hold
      rcases hv.c y hy0 hold with h | h
      · rcases List.mem_append.1 h with h | h
        · exact .inl (fo.keep y h)
        · simp at h; subst h
          right
          intro z hz
          have := hin z hz
          exact (fo.sn _).2 (.inr (by rw [show ((z.toNat : Nat) : Int) = z by omega]; exact hz))
      · exact .inr fun z hz => (fo.sn _).2 (.inl (h z hz))
    rcases hy with h | h
    · exact old (.inl h)
    · rcases (fo.sn _).1 h with h1 | h1
      · exact old (.inr h1)
      · rw [show ((y.toNat : Nat) : Int) = y by omega] at h1
        rcases fo.new y h1 with h2 | h2
        · exact old (.inr h2)
        · exact .inl h2
end Go.Proofs.Ythpplekbeecdfaa.Gb

open Go Go.Proofs.Ythpplekbeecdfaa.Ai Go.Proofs
namespace Go.Proofs.Ythpplekbeecdfaa.Gb
variable {N : Nat} {s : SL} {l : List Int} {ss : List SL} {ll : List (List Int)} {B : Nat} {h0 : Heap}
/-- rows that lie below 'B' -/
structure RowsB (B : Nat) (h : Heap) (s : SL) (ss : List SL) (ll : List (List Int)) : Prop where
  r : Rows h s ss ll
  u : s.under B
  ru : ∀ i, i < ll.length → (ss.getD i nilS).under B
theorem RowsB.keep {h h' : Heap} (hk : Keep B h h') (hr : RowsB B h s ss ll) : RowsB B h' s ss ll :=
  ⟨⟨hr.r.top.keep hk hr.u, hr.r.len, fun i hi => One.keep hk (hr.ru i hi) (hr.r.row i hi)⟩, hr.u, hr.ru⟩
theorem Bst.front {h : Heap} {sv wv : SL} {seen : List Bool} {wk : List Int} {x : Int} (hb : Bst B h0 h sv wv seen (wk ++ [x])) :
    ∃ wv', sliceA E h 26 (.slice wv.a wv.len wv.cap wv.sz) none (some (.int .i64 (wk.length : Int))) = some (.slice wv'.a wv'.len wv'.cap wv'.sz) ∧ Bst B h0 h sv wv' seen wk := by
  obtain ⟨wv', e1, o1, c1⟩ := front_own1 app26 hb.w (n := wk.length) (by simp)
  refine ⟨wv', e1, hb.k, hb.b0, hb.s, ?_, fun A hA => by rw [c1]; exact hb.ne A hA⟩
  rw [List.map_append, List.take_left' (by simp)] at o1
  exact o1
theorem outer (hr : RowsB B h0 s ss ll) (hf : Fine ll) (hN : 1000 ≤ N) {i : Int} {sv : SL} : ∀ (M : Nat) (h : Heap) (wv : SL) (seen : List Bool) (work : List Int), work.length + (ll.length - seen.count true) < M → work.length + (ll.length - seen.count true) ≤ 200 → Bst B h0 h sv wv seen work → Inv ll i seen work →
    ∃ wv' h' seen', f39_l1 N M s sv wv h = some (.exit 0, (sv, ()), h') ∧ Bst B h0 h' sv wv' seen' [] ∧ Inv ll i seen' [] := by
  intro M
  induction M with
  | zero => intro h wv seen work h1; omega
  | succ M ih =>
    intro h wv seen work h1 h2 hb hv
    rw [f39_l1_succ]
    unfold f39_l1_b
    have hwl := hb.w.len
    rw [List.length_map] at hwl
    rcases List.eq_nil_or_concat work with rfl | ⟨wk, x, rfl⟩
    · refine ⟨wv, h, seen, ?_, hb, hv⟩
      simp [ltInt_dec, hwl]
    · simp only [List.concat_eq_append] at *
      rw [List.length_append, List.length_singleton] at hwl h1 h2
      have hx := hv.b x (by simp)
      have hxl : x.toNat < ll.length := by omega
      have ew : wrapA .i64 (((wk.length + 1 : Nat) : Int) - 1) = (wk.length : Int) := by
        rw [wrapA_small (by omega) (by omega)]; omega
      obtain ⟨wv1, e1, hb1⟩ := hb.front
      have hrk := hr.keep hb.k
      have fo := fold_spec (n := ll.length) (ll.getD x.toNat []) seen wk hv.len (hf.inr x.toNat hxl)
      have hrl := hf.row x.toNat hxl
      obtain ⟨wv2, h2', e2, hb2⟩ := inner (N := N) (B := B) (h0 := h0) (hr.r.row x.toNat hxl) (hr.ru x.toNat hxl) (by omega) s (sv := sv) (n := ll.length) (by have := hf.len; omega) (hf.inr x.toNat hxl) N 0 h wv1 seen wk (by omega) (by omega) hb1 hv.len (by omega)
      simp only [List.drop_zero, Int.ofNat_zero] at e2 hb2
      obtain ⟨wv3, h3, seen3, e3, hb3, hv3⟩ := ih h2' wv2 _ _ (by rw [fo.meas]; omega) (by rw [fo.meas]; omega) hb2 (Inv.next hf hv)
      refine ⟨wv3, h3, seen3, ?_, hb3, hv3⟩
      simp only [hwl, Int.ofNat_eq_natCast, ew, ltInt_dec, show (0 : Int) < ((wk.length + 1 : Nat) : Int) by omega, decide_true, cond_true]
      have hwi : Ints h wv (wk ++ [x]) := hb.w.one
      have hgx : (wk ++ [x]).getD wk.length 0 = x := by simp
      have hi1 := hwi.int (β := Out × (SL × Unit) × Heap) (x := (wk.length : Int)) (by omega) (by simp; omega)
      rw [hwl] at hi1 e1
      rw [hi1]
      simp only [Int.toNat_natCast, hgx, e1, bindV_some, cast_slice]
      rw [hrk.r.top.sl (x := x) hx.1 (by rw [hrk.r.len]; omega)]
      rw [Ints.len (hrk.r.row x.toNat hxl), e2]
      simp only [bind3_some]
      exact e3

theorem count_rep (n : Nat) : (List.replicate n false).count true = 0 := by
  rw [List.count_replicate]; simp
/-- the search -/
theorem below_spec {h : Heap} (hr : RowsB h.next h s ss ll) (hf : Fine ll) (hN : 1000 ≤ N) {i : Int} (hi0 : 0 ≤ i) (hi1 : i < ll.length) :
    ∃ (s' : SL) (h' : Heap) (seen : List Bool), f39 N s i h = some (s', h') ∧ Keep h.next h h' ∧ Own1 h.next h' s' (seen.map AV.bool) ∧ seen.length = ll.length ∧ ∀ k : Nat, k < ll.length → (seen.getD k false = true ↔ Reach ll i (k : Int)) := by
  have hlen := hf.len
  obtain ⟨m1, m2⟩ := make1 app43 (.bool false) (by kernel_rfl) rfl ll.length (by omega) h
  have hb : Bst h.next h ((h.push (.row (List.replicate ll.length (.bool false)) .own)).push (.row [.int .i64 i] .own)) ⟨some (h.next, 0), ll.length, ll.length, 1⟩ ⟨some (h.next + 1, 0), 1, 1, 1⟩ (List.replicate ll.length false) [i] := by
    refine ⟨((Keep.refl _ _).push (Nat.le_refl _) _).push (Nat.le_refl _) _, Nat.le_refl _, ?_, ?_, ?_⟩
    · rw [List.map_replicate]; exact m2.push _
    · exact .inr ⟨h.next + 1, [.int .i64 i], .own, rfl, rfl, by omega, by simp, g_push_eq _ rfl, rfl, by simp, by simp, by simp, .inr ⟨rfl, rfl⟩⟩
    · intro A hA e
      simp [SL.blk] at hA e; omega
  have hv : Inv ll i (List.replicate ll.length false) [i] := by
    have hno : ∀ k, (List.replicate ll.length false).getD k false = false := by
      intro k
      simp [List.getD_eq_getElem?_getD, List.getElem?_replicate]
      split <;> rfl
    refine ⟨by simp, fun k hk => ?_, fun x hx => ?_, fun y hy0 hy => ?_⟩
    · rw [hno] at hk; cases hk
    · simp at hx; subst hx; exact ⟨hi0, hi1, .inl rfl⟩
    · rcases hy with rfl | hy
      · simp
      · rw [hno] at hy; cases hy
  obtain ⟨wv', h', seen', e, hb', hv'⟩ := outer (N := N) hr hf hN (i := i) N _ _ _ _ (by rw [count_rep]; simp; omega) (by rw [count_rep]; simp; omega) hb hv
  refine ⟨_, h', seen', ?_, hb'.k, hb'.s, hv'.len, fun k hk => ⟨hv'.a k, fun hx => ?_⟩⟩
  · unfold f39
    simp only [hr.r.slen, Int.ofNat_eq_natCast, m1, bindT_some, cast_slice, Heap.push_next, e, bind3_some]
  · simpa using (hv'.done hi0 hf k hx).2
/-- what is asked of a list of what is needed -/
def belowL (seen : List Bool) : Nat → List Int
  | 0 => []
  | n + 1 => belowL seen n ++ (if seen.getD n false then [(n : Int)] else [])
theorem belowL_mem (seen : List Bool) : ∀ (n : Nat) (x : Int), x ∈ belowL seen n ↔ 0 ≤ x ∧ x < n ∧ seen.getD x.toNat false = true
  | 0, x => by simp [belowL]; omega
  | n + 1, x => by
    simp only [belowL, List.mem_append, belowL_mem seen n x]
    by_cases hs : seen.getD n false = true
    · simp only [hs, if_true, List.mem_singleton]
      constructor
      · rintro (⟨h1, h2, h3⟩ | rfl)
        · exact ⟨h1, by omega, h3⟩
        · exact ⟨by omega, by omega, by simpa using hs⟩
      · rintro ⟨h1, h2, h3⟩
        by_cases he : x = n
        · exact .inr he
        · exact .inl ⟨h1, by omega, h3⟩
    · simp only [hs, if_false]
      constructor
      · rintro (⟨h1, h2, h3⟩ | h)
        · exact ⟨h1, by omega, h3⟩
        · simp at h
      · rintro ⟨h1, h2, h3⟩
        left
        refine ⟨h1, ?_, h3⟩
        by_cases he : x = n
        · subst he; simp at h3; exact absurd (by simpa using h3) hs
        · omega
theorem belowL_len (seen : List Bool) : ∀ n, (belowL seen n).length ≤ n
  | 0 => by simp [belowL]
  | n + 1 => by have := belowL_len seen n; simp only [belowL, List.length_append]; split <;> simp <;> omega
theorem belowL_sorted (seen : List Bool) : ∀ n, (belowL seen n).Pairwise (· < ·)
  | 0 => List.Pairwise.nil
  | n + 1 => by
    simp only [belowL]
    rw [List.pairwise_append]
    refine ⟨belowL_sorted seen n, by split <;> simp, fun a ha b hb => ?_⟩
    have h1 := ((belowL_mem seen n a).1 ha).2.1
    split at hb
    · simp at hb; omega
    · simp at hb
theorem list_loop {s' : SL} {seen : List Bool} (hn : seen.length ≤ 100) : ∀ (M i : Nat) (h : Heap) (ov : SL), i ≤ seen.length → seen.length - i < M → Keep B h0 h → B ≤ h0.next → Own1 B h s' (seen.map AV.bool) → Own1 B h ov ((belowL seen i).map (AV.int .i64)) → (∀ A, s'.blk = some A → ov.blk ≠ some A) →
    ∃ ov' h', f12_l1 N M ov s' (seen.length : Int) i h = some (.exit 0, (ov', ()), h') ∧ Keep B h0 h' ∧ Own1 B h' ov' ((belowL seen seen.length).map (AV.int .i64)) := by
  intro M
  induction M with
  | zero => intro i h ov h1 h2; omega
  | succ M ih =>
    intro i h ov h1 h2 hk hb0 hs ho hne
    rw [f12_l1_succ]
    unfold f12_l1_b
    by_cases hi : i < seen.length
    · have ew : wrapA .i64 ((i : Int) + 1) = ((i + 1 : Nat) : Int) := wrapA_small (by omega) (by omega)
      simp only [ltInt_dec, Int.ofNat_lt, hi, decide_true, cond_true, ew]
      rw [hs.one.bool (x := (i : Int)) (by omega) (by omega)]
      simp only [Int.toNat_natCast]
      cases hsn : seen.getD i false with
      | true =>
        have hbl : belowL seen (i + 1) = belowL seen i ++ [(i : Int)] := by simp only [belowL, hsn, if_true]
        have := belowL_len seen i
        have hnx := hk.next
        obtain ⟨ov', h2', e2, o2, b2, c2⟩ := append_own1 app26 (v := AV.int .i64 (i : Int)) rfl ho (by omega) (by simp; omega)
        simp only [cond_true]
        rw [e2]
        simp only [bindT_some, cast_slice]
        refine ih (i + 1) h2' ov' (by omega) (by omega) (hk.trans (b2.keep (by omega) (fun A hA => (ho.ge A hA).1))) hb0 (hs.but b2 hne) (by rw [hbl, List.map_append]; exact o2) ?_
        intro A hA e
        rcases c2 with c2 | ⟨A', c2, c3⟩
        · exact hne A hA (c2 ▸ e)
        · rw [c2] at e; cases e
          have := (hs.ge A hA).2; omega
      | false =>
        have hbl : belowL seen (i + 1) = belowL seen i := by simp only [belowL, hsn]; simp
        simp only [cond_false]
        exact ih (i + 1) h ov (by omega) (by omega) hk hb0 hs (by rw [hbl]; exact ho) hne
    · have : i = seen.length := by omega
      subst this
      exact ⟨ov, h, by simp [ltInt_dec], hk, ho⟩
theorem nn9 : binA E .neq 32 (.tmp 9) (.const .nilIface) AV.nilIface AV.nilIface = some (.bool false) := by kernel_rfl
/-- all that a thing needs -/
theorem Below_spec {h : Heap} (hr : RowsB h.next h s ss ll) (hf : Fine ll) (hN : 1000 ≤ N) {i : Int} (hi0 : 0 ≤ i) (hi1 : i < ll.length) :
    ∃ (s' : SL) (h' : Heap) (l : List Int), f12 N s i h = some (s', h') ∧ Keep h.next h h' ∧ Own1 h.next h' s' (l.map (AV.int .i64)) ∧ l.length ≤ 64 ∧ l.Pairwise (· < ·) ∧ ∀ x, x ∈ l ↔ (0 ≤ x ∧ x < ll.length ∧ Reach ll i x) := by
  obtain ⟨s1, h1, seen, e1, k1, o1, hl, hs⟩ := below_spec (N := N) hr hf hN hi0 hi1
  have hlen := hf.len
  obtain ⟨ov, h2, e2, k2, o2⟩ := list_loop (N := N) (B := h.next) (h0 := h) (seen := seen) (s' := s1) (by omega) N 0 h1 nilS (by omega) (by omega) k1 (Nat.le_refl _) o1 (Own1.nil _ _ _) (by simp [SL.blk])
  have hsl := o1.len
  rw [List.length_map] at hsl
  refine ⟨ov, h2, belowL seen seen.length, ?_, k2, o2, by have := belowL_len seen seen.length; omega, belowL_sorted _ _, fun x => ?_⟩
  · unfold f12
    have e2' : f12_l1 N N ⟨none, 0, 0, 0⟩ s1 (seen.length : Int) 0 h1 = some (.exit 0, (ov, ()), h2) := e2
    simp only [may_spec (N := N) hr.r hf (by omega), bind2_some, nn9, bindV_some, cast_bool, cond_false, ltInt_dec, leInt_dec, hr.r.slen, Int.ofNat_eq_natCast, show ¬ i < 0 by omega, show ¬ (ll.length : Int) ≤ i by omega, decide_false, e1, hsl]
    rw [e2']
    rfl
  · rw [belowL_mem]
    constructor
    · rintro ⟨h1, h2, h3⟩
      refine ⟨h1, by omega, ?_⟩
      have := (hs x.toNat (by omega)).1 h3
      rwa [show ((x.toNat : Nat) : Int) = x by omega] at this
    · rintro ⟨h1, h2, h3⟩
      refine ⟨h1, by omega, (hs x.toNat (by omega)).2 (by rwa [show ((x.toNat : Nat) : Int) = x by omega])⟩
end Go.Proofs.Ythpplekbeecdfaa.Gb

open Go Go.Proofs.Ythpplekbeecdfaa.Ai Go.Proofs
namespace Go.Proofs.Ythpplekbeecdfaa.Gb
theorem wrap_u64 (x : Int) : ∃ n : Nat, wrapA .u64 x = (n : Int) ∧ n < 18446744073709551616 := by
  cases x with
  | ofNat a => exact ⟨a % 18446744073709551616, rfl, Nat.mod_lt _ (by decide)⟩
  | negSucc a => exact ⟨18446744073709551616 - 1 - a % 18446744073709551616, rfl, by omega⟩
def conv (m : Nat) (x : Int) : Int := (wrapA .u64 x).tmod m
theorem conv_in {m : Nat} (hm : 0 < m) (x : Int) : 0 ≤ conv m x ∧ conv m x < m := by
  obtain ⟨n, h1, _⟩ := wrap_u64 x
  unfold conv
  rw [h1, Int.tmod_eq_emod_of_nonneg (by omega)]
  exact ⟨Int.emod_nonneg _ (by omega), Int.emod_lt_of_pos _ (by omega)⟩
theorem wrap_small (k : Nat) (h : k < 1000) : wrapA .u64 (k : Int) = k := by
  show wrapN .u64 (k % 18446744073709551616) = _
  rw [Nat.mod_eq_of_lt (by omega)]; rfl
theorem rem_conv {m : Nat} (hm : 0 < m) (h1 : m < 1000) (x : Int) : binInt .rem .u64 (wrapA .u64 x) (m : Int) = some (.int .u64 (conv m x)) ∧ wrapA .i64 (conv m x) = conv m x := by
  have hc := conv_in hm x
  refine ⟨?_, wrapA_small (by omega) (by omega)⟩
  have : eqInt (m : Int) 0 = false := by
    obtain ⟨k, rfl⟩ : ∃ k, m = k + 1 := ⟨m - 1, by omega⟩
    rfl
  simp only [binInt, this, cond_false, conv]
variable {N : Nat} {s : SL} {ss : List SL} {ll : List (List Int)} {B : Nat} {h0 : Heap}
def mOf (ll : List (List Int)) : Nat := min ll.length 70
theorem min_eq (n : Nat) : (bif ltInt 70 (n : Int) then (70 : Int) else (n : Int)) = ((min n 70 : Nat) : Int) := by
  rw [ltInt_dec]
  by_cases h : (70 : Int) < n
  · simp [h]; omega
  · simp [h]; omega
/-- a row, its numbers taken into the range -/
theorem fit_row (hr : RowsB B h0 s ss ll) {i : Nat} (hi : i < ll.length) (hi70 : i < 70) (hl : (ll.getD i []).length ≤ 70) (hb0 : B ≤ h0.next) (v4 v5 : _) (v6 : SL) : ∀ (M k : Nat) (h : Heap) (rv : SL), k ≤ (ll.getD i []).length → (ll.getD i []).length - k < M → Keep B h0 h → Own1 B h rv ((((ll.getD i []).take k).map (conv (mOf ll))).map (AV.int .i64)) →
    ∃ rv' h', f10_l2 N M s false v4 v5 v6 (i : Int) rv (k : Int) h = some (.exit 2, (s, false, v4, v5, v6, (i : Int), rv', ()), h') ∧ Keep B h0 h' ∧ Own1 B h' rv' (((ll.getD i []).map (conv (mOf ll))).map (AV.int .i64)) ∧ But rv.blk h h' ∧ (rv'.blk = rv.blk ∨ ∃ A, rv'.blk = some A ∧ h.next ≤ A) := by
  intro M
  induction M with
  | zero => intro k h rv h1 h2; omega
  | succ M ih =>
    intro k h rv h1 h2 hk ho
    rw [f10_l2_succ]
    unfold f10_l2_b
    have hrk := hr.keep hk
    have hrow := hrk.r.row i hi
    have hnx := hk.next
    simp only [hrk.r.slen]
    have ht := hrk.r.top.sl (β := Out × (SL × Bool × SL × Bool × SL × Int × SL × Unit) × Heap) (x := (i : Int)) (by omega) (by rw [hrk.r.len]; omega)
    rw [hrk.r.slen] at ht
    rw [ht]
    simp only [Int.toNat_natCast, Ints.len hrow]
    by_cases hkl : k < (ll.getD i []).length
    · have ew : wrapA .i64 ((k : Int) + 1) = ((k + 1 : Nat) : Int) := wrapA_small (by omega) (by omega)
      have hg : (ll.getD i []).getD k 0 = (ll.getD i [])[k] := getD_lt _ _ hkl
      have htk : (ll.getD i []).take (k + 1) = (ll.getD i []).take k ++ [(ll.getD i [])[k]] := List.take_succ_eq_append_getElem hkl
      have hmin : mOf ll < 1000 := by unfold mOf; omega
      have hm0 : 0 < mOf ll := by unfold mOf; omega
      obtain ⟨r1, r2⟩ := rem_conv hm0 hmin (ll.getD i [])[k]
      obtain ⟨rv1, h2', e2, o2, b2, c2⟩ := append_own1 app26 (v := AV.int .i64 (conv (mOf ll) (ll.getD i [])[k])) rfl ho (by omega) (by simp; omega)
      have k2 : Keep B h h2' := b2.keep (by omega) (fun A hA => (ho.ge A hA).1)
      obtain ⟨rv', h', e3, k3, o3, b3, c3⟩ := ih (k + 1) h2' rv1 (by omega) (by omega) (hk.trans k2) (by rw [htk, List.map_append, List.map_append]; exact o2)
      refine ⟨rv', h', ?_, k3, o3, b2.step c2 b3, ?_⟩
      · rw [ht]
        simp only [ltInt_dec, Int.ofNat_eq_natCast, Int.ofNat_lt, hkl, decide_true, cond_true, Int.toNat_natCast]
        have hi2 := hrow.int (β := Out × (SL × Bool × SL × Bool × SL × Int × SL × Unit) × Heap) (x := (k : Int)) (by omega) (by omega)
        rw [Ints.len hrow] at hi2 ⊢
        rw [hi2]
        have hmn : (bif decide ((70 : Int) < (ll.length : Int)) then (70 : Int) else (ll.length : Int)) = ((mOf ll : Nat) : Int) := by
          have := min_eq ll.length
          rw [ltInt_dec] at this
          exact this
        simp only [Int.toNat_natCast, hg, Bool.not_false, cond_true, hmn, wrap_small _ hmin, r1, bindV_some, cast_int, r2]
        rw [e2]
        simp only [bindT_some, cast_slice, ew]
        exact e3
      · rcases c3 with c3 | ⟨A, c3, c4⟩
        · rw [c3]; exact c2
        · exact .inr ⟨A, c3, by have := b2.next; omega⟩
    · have : k = (ll.getD i []).length := by omega
      subst this
      rw [List.take_length] at ho
      refine ⟨rv, h, ?_, hk, ho, But.refl _ _, .inl rfl⟩
      simp [ltInt_dec]

/-- rows of one's own -/
structure Fst (B : Nat) (h0 h : Heap) (ov : SL) (ss : List SL) (ll : List (List Int)) : Prop where
  k : Keep B h0 h
  o : Own1 B h ov (ss.map SL.av)
  len : ss.length = ll.length
  row : ∀ i, i < ll.length → Own1 B h (ss.getD i nilS) ((ll.getD i []).map (AV.int .i64)) ∧ ∀ A, (ss.getD i nilS).blk = some A → ov.blk ≠ some A
theorem app22 : App1 E 22 26 := .of (by kernel_rfl) (by kernel_rfl) (by kernel_rfl)
def fitL (ll : List (List Int)) (k : Nat) : List (List Int) := (ll.take k).map fun r => r.map (conv (mOf ll))
theorem fitL_succ {k : Nat} (hk : k < ll.length) : fitL ll (k + 1) = fitL ll k ++ [(ll.getD k []).map (conv (mOf ll))] := by
  unfold fitL
  rw [List.take_succ_eq_append_getElem hk, List.map_append, getD_lt _ _ hk]; rfl
theorem fitL_len {k : Nat} (hk : k ≤ ll.length) : (fitL ll k).length = k := by simp [fitL]; omega
theorem getD_append_l {α : Type} (l r : List α) (d : α) {n : Nat} (h : n < l.length) : (l ++ r).getD n d = l.getD n d := by
  rw [List.getD_eq_getElem?_getD, List.getElem?_append_left h, ← List.getD_eq_getElem?_getD]
theorem getD_append_r {α : Type} (l : List α) (x d : α) {n : Nat} (h : n = l.length) : (l ++ [x]).getD n d = x := by
  subst h; simp [List.getD_eq_getElem?_getD]
theorem fit_loop (hr : RowsB B h0 s ss ll) (hN : 1000 ≤ N) (hb0 : B ≤ h0.next) (v4 : SL) (v5 : Bool) : ∀ (M k : Nat) (h : Heap) (ov : SL) (ss' : List SL), k ≤ ll.length → k ≤ 70 → 70 - k < M → (∀ i, i < k → (ll.getD i []).length ≤ 70) → Fst B h0 h ov ss' (fitL ll k) →
    (∃ ov' h' ss', f10_l1 N M s false v4 v5 ov (k : Int) h = some (.exit 0, (v4, v5, ov', ()), h') ∧ Fst B h0 h' ov' ss' (fitL ll (mOf ll)) ∧ ∀ i, i < mOf ll → (ll.getD i []).length ≤ 70) ∨
    (∃ ov' h', f10_l1 N M s false v4 v5 ov (k : Int) h = some (.ret, (nilS, false, ov', ()), h')) := by
  intro M
  induction M with
  | zero => intro k h ov ss' h1 h2 h3; omega
  | succ M ih =>
    intro k h ov ss' h1 h2 h3 h4 hf
    rw [f10_l1_succ]
    unfold f10_l1_b
    have hrk := hr.keep hf.k
    have hnx := hf.k.next
    by_cases hkl : k < ll.length ∧ k < 70
    · obtain ⟨hkl, hk70⟩ := hkl
      have hrow := hrk.r.row k hkl
      have ht := hrk.r.top.sl (β := Out × (SL × Bool × SL × Unit) × Heap) (x := (k : Int)) (by omega) (by rw [hrk.r.len]; omega)
      have ew : wrapA .i64 ((k : Int) + 1) = ((k + 1 : Nat) : Int) := wrapA_small (by omega) (by omega)
      simp only [hrk.r.slen] at ht ⊢
      simp only [ltInt_dec, Int.ofNat_eq_natCast, Int.ofNat_lt, hkl, show (k : Int) < 70 by omega, decide_true, cond_true]
      rw [ht]
      simp only [Int.toNat_natCast, Ints.len hrow]
      by_cases hl : (ll.getD k []).length ≤ 70
      · simp only [show ¬ (70 : Int) < ((ll.getD k []).length : Int) by omega, decide_false, cond_false]
        obtain ⟨rv, h', e1, k1, o1, b1, c1⟩ := fit_row (N := N) hr hkl hk70 hl hb0 v4 v5 ov N 0 h nilS (by omega) (by omega) hf.k (by simpa using Own1.nil B h 0)
        simp only [Int.ofNat_zero] at e1
        have ov1 : Own1 B h' ov (ss'.map SL.av) := hf.o.but b1 (fun A hA => by simp [SL.blk])
        have hsl := hf.o.len
        rw [List.length_map, hf.len, fitL_len (by omega)] at hsl
        have hs'l : ss'.length = k := by rw [hf.len, fitL_len (by omega)]
        have hnx1 := b1.next
        obtain ⟨ov', h2', e2, o2, b2, c2⟩ := append_own1 app22 (v := SL.av rv) rfl ov1 (by omega) (by rw [List.length_map]; omega)
        have k2 : Keep B h' h2' := b2.keep (by omega) (fun A hA => (ov1.ge A hA).1)
        have hrvn : ∀ A, rv.blk = some A → h.next ≤ A := by
          intro A hA
          rcases c1 with c1 | ⟨A', c1, c3⟩
          · rw [c1] at hA; simp [SL.blk] at hA
          · rw [c1] at hA; cases hA; exact c3
        have hf' : Fst B h0 h2' ov' (ss' ++ [rv]) (fitL ll (k + 1)) := by
          refine ⟨k1.trans k2, by rw [List.map_append]; exact o2, by simp [hs'l, fitL_len (show k + 1 ≤ ll.length by omega)], fun i hi => ?_⟩
          rw [fitL_len (by omega)] at hi
          rw [fitL_succ hkl]
          by_cases hik : i < k
          · rw [getD_append_l _ _ _ (by omega), getD_append_l _ _ _ (by rw [fitL_len (by omega)]; omega)]
            obtain ⟨q1, q2⟩ := hf.row i (by rw [fitL_len (by omega)]; omega)
            have q3 := q1.but b1 (fun A hA => by simp [SL.blk])
            refine ⟨q3.but b2 q2, fun A hA e => ?_⟩
            rcases c2 with c2 | ⟨A', c2, c3⟩
            · exact q2 A hA (c2 ▸ e)
            · rw [c2] at e; cases e
              have := (q3.ge A hA).2; omega
          · have : i = k := by omega
            subst this
            rw [getD_append_r _ _ _ hs'l.symm, getD_append_r _ _ _ (by rw [fitL_len (by omega)])]
            have hne : ∀ A, rv.blk = some A → ov.blk ≠ some A := by
              intro A hA e
              have h5 := hrvn A hA
              have h6 := (hf.o.ge A e).2
              omega
            refine ⟨o1.but b2 hne, fun A hA e => ?_⟩
            rcases c2 with c2 | ⟨A', c2, c3⟩
            · exact hne A hA (c2 ▸ e)
            · rw [c2] at e; cases e
              have := (o1.ge A hA).2; omega
        have e1' : f10_l2 N N s false v4 v5 ov (k : Int) ⟨none, 0, 0, 0⟩ 0 h = some (.exit 2, (s, false, v4, v5, ov, (k : Int), rv, ()), h') := e1
        rw [e1']
        simp only [bind3_some]
        have e2' : appendA E 22 22 (.slice ov.a ov.len ov.cap ov.sz) (.slice (some (h'.next, 0)) 1 1 1) (h'.push (.row [.slice rv.a rv.len rv.cap rv.sz] .own)) = some (.slice ov'.a ov'.len ov'.cap ov'.sz, h2') := e2
        rw [e2']
        simp only [bindT_some, cast_slice, ew]
        exact ih (k + 1) h2' ov' (ss' ++ [rv]) (by omega) (by omega) (by omega) (fun i hi => by
          by_cases hik : i < k
          · exact h4 i hik
          · have : i = k := by omega
            subst this; exact hl) hf'
      · simp only [show (70 : Int) < ((ll.getD k []).length : Int) by omega, decide_true, cond_true]
        exact .inr ⟨ov, h, rfl⟩
    · have hk : k = mOf ll := by unfold mOf; omega
      left
      refine ⟨ov, h, ss', ?_, hk ▸ hf, fun i hi => h4 i (by omega)⟩
      simp only [hrk.r.slen, ltInt_dec, Int.ofNat_eq_natCast, Int.ofNat_lt]
      by_cases hkl' : k < ll.length
      · have : ¬ (k : Int) < 70 := by omega
        simp [hkl', this]
      · simp [hkl']
/-- needs, taken into the range -/
theorem fit_spec {h : Heap} (hr : RowsB h.next h s ss ll) (hN : 1000 ≤ N) :
    (∃ s' h' ss', f10 N s false h = some ((s', true, ()), h') ∧ Keep h.next h h' ∧ RowsB h'.next h' s' ss' (fitL ll (mOf ll)) ∧ ∀ i, i < mOf ll → (ll.getD i []).length ≤ 70) ∨
    (∃ s' h', f10 N s false h = some ((s', false, ()), h')) := by
  rcases fit_loop (N := N) hr hN (Nat.le_refl _) nilS false N 0 h nilS [] (by omega) (by omega) (by omega) (fun i hi => by omega) ⟨Keep.refl _ _, Own1.nil _ _ _, by simp [fitL], fun i hi => by simp [fitL] at hi⟩ with ⟨ov, h', ss', e, hf, hl⟩ | ⟨ov, h', e⟩
  · left
    simp only [Int.ofNat_zero] at e
    have e' : f10_l1 N N s false ⟨none, 0, 0, 0⟩ false ⟨none, 0, 0, 0⟩ 0 h = some (.exit 0, (⟨none, 0, 0, 0⟩, false, ov, ()), h') := e
    refine ⟨ov, h', ss', by unfold f10; rw [e']; simp, hf.k, ⟨⟨hf.o.one, hf.len, fun i hi => (hf.row i hi).1.one⟩, ?_, fun i hi => ?_⟩, hl⟩
    · exact hf.o.one.2.2.under
    · exact (hf.row i hi).1.one.2.2.under
  · right
    simp only [Int.ofNat_zero] at e
    have e' : f10_l1 N N s false ⟨none, 0, 0, 0⟩ false ⟨none, 0, 0, 0⟩ 0 h = some (.ret, (⟨none, 0, 0, 0⟩, false, ov, ()), h') := e
    exact ⟨⟨none, 0, 0, 0⟩, h', by unfold f10; rw [e']; simp⟩
end Go.Proofs.Ythpplekbeecdfaa.Gb
