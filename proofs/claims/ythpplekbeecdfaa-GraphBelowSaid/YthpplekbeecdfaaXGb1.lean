import Derived.Test.YthpplekbeecdfaaAi2
import Derived.Test.YthpplekbeecdfaaProg
import Derived.Test.YthpplekbeecdfaaAi3
/- Functions of the program as plain functions, and what they come to; part 1. -/
set_option linter.unusedVariables false
set_option linter.unusedSimpArgs false
set_option maxRecDepth 100000
open Go Go.Proofs.Ythpplekbeecdfaa.Ai Go.Proofs
namespace Go.Proofs.Ythpplekbeecdfaa.Gb
noncomputable def E : Env := envOf Try.prog [] noNative
theorem envOK : EnvOK E Try.prog := envOf_ok (by kernel_rfl) (by kernel_rfl)
theorem hmix : Try.prog.follows .mixedOrders = true := by kernel_rfl
/- usufruct/usufructlaw11.fit -/
noncomputable def f10_l2_b (N : Nat) (go : SL → Bool → SL → Bool → SL → Int → SL → Int → Heap → Option (Out × (SL × Bool × SL × Bool × SL × Int × SL × Unit) × Heap)) (v0 : SL) (v1 : Bool) (v4 : SL) (v5 : Bool) (v6 : SL) (v7 : Int) (v8 : SL) (v9 : Int) (h : Heap) : Option (Out × (SL × Bool × SL × Bool × SL × Int × SL × Unit) × Heap) :=
  (ixK v0.a v0.len v7 1 fun q6 =>
  (bindV (.val (.one .slice)) (h.cell q6) fun (x7 : SL) =>
  let x8 : Bool := ltInt v9 (Int.ofNat x7.len)
  (bif x8 then
   (ixK v0.a v0.len v7 1 fun q9 =>
   (bindV (.val (.one .slice)) (h.cell q9) fun (x10 : SL) =>
   (ixK x10.a x10.len v9 1 fun q11 =>
   (bindV (.val (.one (.int .i64))) (h.cell q11) fun (x12 : Int) =>
   let x13 : Bool := !v1
   (bif x13 then
    let x14 : Int := wrapA .u64 x12
    let x15 : Int := (bif ltInt 70 (Int.ofNat v0.len) then 70 else (Int.ofNat v0.len))
    let x16 : Int := wrapA .u64 x15
    (bindV (.val (.one (.int .u64))) (binInt .rem .u64 x14 x16) fun (x17 : Int) =>
    let x18 : Int := wrapA .i64 x17
    let h19 : Heap := h.push (.row [(.int .i64 x18)] .own)
    (bindT (.val (.one .slice)) (appendA E 26 26 (.slice v8.a v8.len v8.cap v8.sz) (.slice (some (h.next, 0)) 1 1 1) h19) fun (x20 : SL) h21 =>
    let x22 : Int := wrapA .i64 (v9 + 1)
    go v0 v1 v4 v5 v6 v7 x20 x22 h21))
   else
    let h23 : Heap := h.push (.row [(.int .i64 x12)] .own)
    (bindT (.val (.one .slice)) (appendA E 26 26 (.slice v8.a v8.len v8.cap v8.sz) (.slice (some (h.next, 0)) 1 1 1) h23) fun (x24 : SL) h25 =>
    let x26 : Int := wrapA .i64 (v9 + 1)
    go v0 v1 v4 v5 v6 v7 x24 x26 h25))))))
  else
   some ((Out.exit 2), (v0, v1, v4, v5, v6, v7, v8, ()), h))))
noncomputable def f10_l2 (N M : Nat) (v0 : SL) (v1 : Bool) (v4 : SL) (v5 : Bool) (v6 : SL) (v7 : Int) (v8 : SL) (v9 : Int) (h : Heap) : Option (Out × (SL × Bool × SL × Bool × SL × Int × SL × Unit) × Heap) := iter (fun go s h => f10_l2_b N (fun v0 v1 v4 v5 v6 v7 v8 v9 h => go (v0, v1, v4, v5, v6, v7, v8, v9, ()) h) s.1 s.2.1 s.2.2.1 s.2.2.2.1 s.2.2.2.2.1 s.2.2.2.2.2.1 s.2.2.2.2.2.2.1 s.2.2.2.2.2.2.2.1 h) M (v0, v1, v4, v5, v6, v7, v8, v9, ()) h
theorem f10_l2_succ (N M : Nat) (v0 : SL) (v1 : Bool) (v4 : SL) (v5 : Bool) (v6 : SL) (v7 : Int) (v8 : SL) (v9 : Int) (h : Heap) : f10_l2 N (M + 1) v0 v1 v4 v5 v6 v7 v8 v9 h = f10_l2_b N (f10_l2 N M) v0 v1 v4 v5 v6 v7 v8 v9 h := rfl
theorem f10_l2_zero (N : Nat) (v0 : SL) (v1 : Bool) (v4 : SL) (v5 : Bool) (v6 : SL) (v7 : Int) (v8 : SL) (v9 : Int) (h : Heap) : f10_l2 N 0 v0 v1 v4 v5 v6 v7 v8 v9 h = none := rfl
noncomputable def f10_l1_b (N : Nat) (go : SL → Bool → SL → Bool → SL → Int → Heap → Option (Out × (SL × Bool × SL × Unit) × Heap)) (v0 : SL) (v1 : Bool) (v4 : SL) (v5 : Bool) (v6 : SL) (v7 : Int) (h : Heap) : Option (Out × (SL × Bool × SL × Unit) × Heap) :=
  let x1 : Bool := ltInt v7 (Int.ofNat v0.len)
  (bif x1 then
   let x2 : Bool := ltInt v7 70
   (bif x2 then
    (ixK v0.a v0.len v7 1 fun q3 =>
    (bindV (.val (.one .slice)) (h.cell q3) fun (x4 : SL) =>
    let x5 : Bool := ltInt 70 (Int.ofNat x4.len)
    (bif x5 then
     some (Out.ret, (⟨none, 0, 0, 0⟩, false, v6, ()), h)
    else
     (bind3 (f10_l2 N N v0 v1 v4 v5 v6 v7 ⟨none, 0, 0, 0⟩ 0 h) fun _ (j28 : (SL × Bool × SL × Bool × SL × Int × SL × Unit)) h29 =>
     let h30 : Heap := h29.push (.row [(.slice j28.2.2.2.2.2.2.1.a j28.2.2.2.2.2.2.1.len j28.2.2.2.2.2.2.1.cap j28.2.2.2.2.2.2.1.sz)] .own)
     (bindT (.val (.one .slice)) (appendA E 22 22 (.slice j28.2.2.2.2.1.a j28.2.2.2.2.1.len j28.2.2.2.2.1.cap j28.2.2.2.2.1.sz) (.slice (some (h29.next, 0)) 1 1 1) h30) fun (x31 : SL) h32 =>
     let x33 : Int := wrapA .i64 (j28.2.2.2.2.2.1 + 1)
     go j28.1 j28.2.1 j28.2.2.1 j28.2.2.2.1 x31 x33 h32)))))
   else
    some ((Out.exit 0), (v4, v5, v6, ()), h))
  else
   some ((Out.exit 0), (v4, v5, v6, ()), h))
noncomputable def f10_l1 (N M : Nat) (v0 : SL) (v1 : Bool) (v4 : SL) (v5 : Bool) (v6 : SL) (v7 : Int) (h : Heap) : Option (Out × (SL × Bool × SL × Unit) × Heap) := iter (fun go s h => f10_l1_b N (fun v0 v1 v4 v5 v6 v7 h => go (v0, v1, v4, v5, v6, v7, ()) h) s.1 s.2.1 s.2.2.1 s.2.2.2.1 s.2.2.2.2.1 s.2.2.2.2.2.1 h) M (v0, v1, v4, v5, v6, v7, ()) h
theorem f10_l1_succ (N M : Nat) (v0 : SL) (v1 : Bool) (v4 : SL) (v5 : Bool) (v6 : SL) (v7 : Int) (h : Heap) : f10_l1 N (M + 1) v0 v1 v4 v5 v6 v7 h = f10_l1_b N (f10_l1 N M) v0 v1 v4 v5 v6 v7 h := rfl
theorem f10_l1_zero (N : Nat) (v0 : SL) (v1 : Bool) (v4 : SL) (v5 : Bool) (v6 : SL) (v7 : Int) (h : Heap) : f10_l1 N 0 v0 v1 v4 v5 v6 v7 h = none := rfl
noncomputable def f10 (N : Nat) (a0 : SL) (a1 : Bool) (h : Heap) : Option ((SL × Bool × Unit) × Heap) :=
  (bind3 (f10_l1 N N a0 a1 ⟨none, 0, 0, 0⟩ false ⟨none, 0, 0, 0⟩ 0 h) fun o34 (j35 : (SL × Bool × SL × Unit)) h36 =>
  (bif eqOut o34 (.exit 0) then
   some ((j35.2.2.1, true, ()), h36)
  else
   some ((j35.1, j35.2.1, ()), h36)))
noncomputable def ann10 : Ann := (.two .n (.two .n (.two (.two .n (.two (.loop [(0, (.one .slice)), (1, (.one .bool)), (4, (.one .slice)), (5, (.one .bool)), (6, (.one .slice)), (7, (.one (.int .i64)))] [(.exit 0), .ret] [(4, (.one .slice)), (5, (.one .bool)), (6, (.one .slice))] (.two .n (.two (.two (.two .n (.two .n (.two (.two .n (.two (.loop [(0, (.one .slice)), (1, (.one .bool)), (4, (.one .slice)), (5, (.one .bool)), (6, (.one .slice)), (7, (.one (.int .i64))), (8, (.one .slice)), (9, (.one (.int .i64)))] [(.exit 2)] [(0, (.one .slice)), (1, (.one .bool)), (4, (.one .slice)), (5, (.one .bool)), (6, (.one .slice)), (7, (.one (.int .i64))), (8, (.one .slice))] .n) .n)) .n))) .n) .n))) .n)) .n)))
theorem f10_ok (N : Nat) : FnOK Try.prog 10 [(.one .slice), (.one .bool)] (.tup [(.one .slice), (.one .bool)]) (fun x h => f10 N x.1 x.2.1 h) :=
  runK_ok envOK hmix noCalls_ok (N := N) (x := ann10) (fn := Try.f10) (c := Try.f10.body.getD .skip) (by kernel_rfl) (by kernel_rfl) (by kernel_rfl) (by kernel_rfl) (fun _ _ => by kernel_rfl)

/- usufruct/usufructlaw11.told -/
noncomputable def f11 (N : Nat) (h : Heap) : Option (Bool × Heap) := some (true, h)
theorem f11_ok (N : Nat) : FnOK Try.prog 11 [] (.val (.one .bool)) (fun _ h => f11 N h) :=
  fnOK_told envOK (fn := Try.f11) (by kernel_rfl) (by kernel_rfl) (calls_true envOK hmix noNative_ok (fn := Try.f11) (by kernel_rfl) (by kernel_rfl) (args := []) VRs.nil (n := 1000) (by kernel_rfl))

/- usufruct/fault.New -/
noncomputable def f46 (N : Nat) (a0 : Int) (a1 : Int) (h : Heap) : Option (AV × Heap) :=
  let x1 : Bool := eqInt a0 0
  (bif x1 then
   some (AV.nilIface, h)
  else
   let h2 : Heap := h.push (.row [(.int .i64 a0), (.int .i64 a1), (AV.iface 71 (.int .i64 a0))] .own)
   some ((AV.iface 69 (.ptr (some (h.next, 0)))), h2))
noncomputable def ann46 : Ann := .n
theorem f46_ok (N : Nat) : FnOK Try.prog 46 [(.one (.int .i64)), (.one (.int .i64))] (.val (.one .any)) (fun x h => f46 N x.1 x.2.1 h) :=
  runK_ok envOK hmix noCalls_ok (N := N) (x := ann46) (fn := Try.f46) (c := Try.f46.body.getD .skip) (by kernel_rfl) (by kernel_rfl) (by kernel_rfl) (by kernel_rfl) (fun _ _ => by kernel_rfl)

/- usufruct/graph.may -/
noncomputable def f38_l3_b (N : Nat) (go : SL → AV → Int → SL → Int → Int → SL → Int → Int → Heap → Option (Out × (SL × AV × SL × Int × Int × Unit) × Heap)) (v0 : SL) (v2 : AV) (v5 : Int) (v26 : SL) (v27 : Int) (v28 : Int) (v33 : SL) (v34 : Int) (v35 : Int) (h : Heap) : Option (Out × (SL × AV × SL × Int × Int × Unit) × Heap) :=
  let x17 : Bool := ltInt v35 v34
  (bif x17 then
   (ixK v33.a v33.len v35 1 fun q18 =>
   (bindV (.val (.one (.int .i64))) (h.cell q18) fun (x19 : Int) =>
   let x20 : Bool := ltInt x19 0
   (bif x20 then
    (bind2 (f46 N 2 v5 h) fun (x21 : AV) h22 =>
    some (Out.ret, (v0, x21, v26, v27, v28, ()), h22))
   else
    let x23 : Bool := leInt (Int.ofNat v0.len) x19
    (bif x23 then
     (bind2 (f46 N 2 v5 h) fun (x24 : AV) h25 =>
     some (Out.ret, (v0, x24, v26, v27, v28, ()), h25))
    else
     let x26 : Int := wrapA .i64 (v35 + 1)
     go v0 v2 v5 v26 v27 v28 v33 v34 x26 h))))
  else
   some ((Out.exit 4), (v0, v2, v26, v27, v28, ()), h))
noncomputable def f38_l3 (N M : Nat) (v0 : SL) (v2 : AV) (v5 : Int) (v26 : SL) (v27 : Int) (v28 : Int) (v33 : SL) (v34 : Int) (v35 : Int) (h : Heap) : Option (Out × (SL × AV × SL × Int × Int × Unit) × Heap) := iter (fun go s h => f38_l3_b N (fun v0 v2 v5 v26 v27 v28 v33 v34 v35 h => go (v0, v2, v5, v26, v27, v28, v33, v34, v35, ()) h) s.1 s.2.1 s.2.2.1 s.2.2.2.1 s.2.2.2.2.1 s.2.2.2.2.2.1 s.2.2.2.2.2.2.1 s.2.2.2.2.2.2.2.1 s.2.2.2.2.2.2.2.2.1 h) M (v0, v2, v5, v26, v27, v28, v33, v34, v35, ()) h
theorem f38_l3_succ (N M : Nat) (v0 : SL) (v2 : AV) (v5 : Int) (v26 : SL) (v27 : Int) (v28 : Int) (v33 : SL) (v34 : Int) (v35 : Int) (h : Heap) : f38_l3 N (M + 1) v0 v2 v5 v26 v27 v28 v33 v34 v35 h = f38_l3_b N (f38_l3 N M) v0 v2 v5 v26 v27 v28 v33 v34 v35 h := rfl
theorem f38_l3_zero (N : Nat) (v0 : SL) (v2 : AV) (v5 : Int) (v26 : SL) (v27 : Int) (v28 : Int) (v33 : SL) (v34 : Int) (v35 : Int) (h : Heap) : f38_l3 N 0 v0 v2 v5 v26 v27 v28 v33 v34 v35 h = none := rfl
noncomputable def f38_l2_b (N : Nat) (go : SL → AV → SL → Int → Int → Heap → Option (Out × (AV × Unit) × Heap)) (v0 : SL) (v2 : AV) (v26 : SL) (v27 : Int) (v28 : Int) (h : Heap) : Option (Out × (AV × Unit) × Heap) :=
  let x14 : Bool := ltInt v28 v27
  (bif x14 then
   (ixK v26.a v26.len v28 1 fun q15 =>
   (bindV (.val (.one .slice)) (h.cell q15) fun (x16 : SL) =>
   (bind3 (f38_l3 N N v0 v2 v28 v26 v27 v28 x16 (Int.ofNat x16.len) 0 h) fun o27 (j28 : (SL × AV × SL × Int × Int × Unit)) h29 =>
   (bif eqOut o27 (.exit 4) then
    let x30 : Int := wrapA .i64 (j28.2.2.2.2.1 + 1)
    go j28.1 j28.2.1 j28.2.2.1 j28.2.2.2.1 x30 h29
   else
    some (Out.ret, (j28.2.1, ()), h29)))))
  else
   some ((Out.exit 2), (v2, ()), h))
noncomputable def f38_l2 (N M : Nat) (v0 : SL) (v2 : AV) (v26 : SL) (v27 : Int) (v28 : Int) (h : Heap) : Option (Out × (AV × Unit) × Heap) := iter (fun go s h => f38_l2_b N (fun v0 v2 v26 v27 v28 h => go (v0, v2, v26, v27, v28, ()) h) s.1 s.2.1 s.2.2.1 s.2.2.2.1 s.2.2.2.2.1 h) M (v0, v2, v26, v27, v28, ()) h
theorem f38_l2_succ (N M : Nat) (v0 : SL) (v2 : AV) (v26 : SL) (v27 : Int) (v28 : Int) (h : Heap) : f38_l2 N (M + 1) v0 v2 v26 v27 v28 h = f38_l2_b N (f38_l2 N M) v0 v2 v26 v27 v28 h := rfl
theorem f38_l2_zero (N : Nat) (v0 : SL) (v2 : AV) (v26 : SL) (v27 : Int) (v28 : Int) (h : Heap) : f38_l2 N 0 v0 v2 v26 v27 v28 h = none := rfl
noncomputable def f38_l1_b (N : Nat) (go : SL → AV → SL → Int → Int → Heap → Option (Out × (SL × AV × Unit) × Heap)) (v0 : SL) (v2 : AV) (v13 : SL) (v14 : Int) (v15 : Int) (h : Heap) : Option (Out × (SL × AV × Unit) × Heap) :=
  let x4 : Bool := ltInt v15 v14
  (bif x4 then
   (ixK v13.a v13.len v15 1 fun q5 =>
   (bindV (.val (.one .slice)) (h.cell q5) fun (x6 : SL) =>
   let x7 : Bool := ltInt 64 (Int.ofNat x6.len)
   (bif x7 then
    (bind2 (f46 N 5 v15 h) fun (x8 : AV) h9 =>
    some (Out.ret, (v0, x8, ()), h9))
   else
    let x10 : Int := wrapA .i64 (v15 + 1)
    go v0 v2 v13 v14 x10 h)))
  else
   some ((Out.exit 0), (v0, v2, ()), h))
noncomputable def f38_l1 (N M : Nat) (v0 : SL) (v2 : AV) (v13 : SL) (v14 : Int) (v15 : Int) (h : Heap) : Option (Out × (SL × AV × Unit) × Heap) := iter (fun go s h => f38_l1_b N (fun v0 v2 v13 v14 v15 h => go (v0, v2, v13, v14, v15, ()) h) s.1 s.2.1 s.2.2.1 s.2.2.2.1 s.2.2.2.2.1 h) M (v0, v2, v13, v14, v15, ()) h
theorem f38_l1_succ (N M : Nat) (v0 : SL) (v2 : AV) (v13 : SL) (v14 : Int) (v15 : Int) (h : Heap) : f38_l1 N (M + 1) v0 v2 v13 v14 v15 h = f38_l1_b N (f38_l1 N M) v0 v2 v13 v14 v15 h := rfl
theorem f38_l1_zero (N : Nat) (v0 : SL) (v2 : AV) (v13 : SL) (v14 : Int) (v15 : Int) (h : Heap) : f38_l1 N 0 v0 v2 v13 v14 v15 h = none := rfl
noncomputable def f38 (N : Nat) (a0 : SL) (h : Heap) : Option (AV × Heap) :=
  let x1 : Bool := ltInt 64 (Int.ofNat a0.len)
  (bif x1 then
   (bind2 (f46 N 5 0 h) fun (x2 : AV) h3 =>
   some (x2, h3))
  else
   (bind3 (f38_l1 N N a0 AV.nilIface a0 (Int.ofNat a0.len) 0 h) fun o11 (j12 : (SL × AV × Unit)) h13 =>
   (bif eqOut o11 (.exit 0) then
    (bind3 (f38_l2 N N j12.1 j12.2.1 j12.1 (Int.ofNat j12.1.len) 0 h13) fun o31 (j32 : (AV × Unit)) h33 =>
    (bif eqOut o31 (.exit 2) then
     some (AV.nilIface, h33)
    else
     some (j32.1, h33)))
   else
    some (j12.2.1, h13))))
noncomputable def ann38 : Ann := (.two .n (.two .n (.two (.two .n (.two (.loop [(0, (.one .slice)), (2, (.one .any)), (13, (.one .slice)), (14, (.one (.int .i64))), (15, (.one (.int .i64)))] [(.exit 0), .ret] [(0, (.one .slice)), (2, (.one .any))] .n) .n)) (.two (.two .n (.two (.loop [(0, (.one .slice)), (2, (.one .any)), (26, (.one .slice)), (27, (.one (.int .i64))), (28, (.one (.int .i64)))] [(.exit 2), .ret] [(2, (.one .any))] (.two .n (.two .n (.two (.two (.two .n (.two .n (.two (.loop [(0, (.one .slice)), (2, (.one .any)), (5, (.one (.int .i64))), (26, (.one .slice)), (27, (.one (.int .i64))), (28, (.one (.int .i64))), (33, (.one .slice)), (34, (.one (.int .i64))), (35, (.one (.int .i64)))] [(.exit 4), .ret] [(0, (.one .slice)), (2, (.one .any)), (26, (.one .slice)), (27, (.one (.int .i64))), (28, (.one (.int .i64)))] .n) .n))) .n) .n)))) .n)) .n))))
theorem f38_ok (N : Nat) : FnOK Try.prog 38 [(.one .slice)] (.val (.one .any)) (fun x h => f38 N x.1 h) :=
  runK_ok envOK hmix (addCall_ok (f46_ok N) noCalls_ok) (N := N) (x := ann38) (fn := Try.f38) (c := Try.f38.body.getD .skip) (by kernel_rfl) (by kernel_rfl) (by kernel_rfl) (by kernel_rfl) (fun _ _ => by kernel_rfl)

/- usufruct/graph.below -/
noncomputable def f39_l2_b (N : Nat) (go : SL → SL → SL → SL → Int → Int → Heap → Option (Out × (SL × SL × SL × Unit) × Heap)) (v0 : SL) (v5 : SL) (v6 : SL) (v32 : SL) (v33 : Int) (v34 : Int) (h : Heap) : Option (Out × (SL × SL × SL × Unit) × Heap) :=
  let x12 : Bool := ltInt v34 v33
  (bif x12 then
   (ixK v32.a v32.len v34 1 fun q13 =>
   (bindV (.val (.one (.int .i64))) (h.cell q13) fun (x14 : Int) =>
   (ixK v5.a v5.len x14 1 fun q15 =>
   (bindV (.val (.one .bool)) (h.cell q15) fun (x16 : Bool) =>
   let x17 : Bool := !x16
   (bif x17 then
    (ixK v5.a v5.len x14 1 fun q18 =>
    (need (h.store q18 [(.bool true)]) fun h19 =>
    let h20 : Heap := h19.push (.row [(.int .i64 x14)] .own)
    (bindT (.val (.one .slice)) (appendA E 26 26 (.slice v6.a v6.len v6.cap v6.sz) (.slice (some (h19.next, 0)) 1 1 1) h20) fun (x21 : SL) h22 =>
    let x23 : Int := wrapA .i64 (v34 + 1)
    go v0 v5 x21 v32 v33 x23 h22)))
   else
    let x24 : Int := wrapA .i64 (v34 + 1)
    go v0 v5 v6 v32 v33 x24 h)))))
  else
   some ((Out.exit 2), (v0, v5, v6, ()), h))
noncomputable def f39_l2 (N M : Nat) (v0 : SL) (v5 : SL) (v6 : SL) (v32 : SL) (v33 : Int) (v34 : Int) (h : Heap) : Option (Out × (SL × SL × SL × Unit) × Heap) := iter (fun go s h => f39_l2_b N (fun v0 v5 v6 v32 v33 v34 h => go (v0, v5, v6, v32, v33, v34, ()) h) s.1 s.2.1 s.2.2.1 s.2.2.2.1 s.2.2.2.2.1 s.2.2.2.2.2.1 h) M (v0, v5, v6, v32, v33, v34, ()) h
theorem f39_l2_succ (N M : Nat) (v0 : SL) (v5 : SL) (v6 : SL) (v32 : SL) (v33 : Int) (v34 : Int) (h : Heap) : f39_l2 N (M + 1) v0 v5 v6 v32 v33 v34 h = f39_l2_b N (f39_l2 N M) v0 v5 v6 v32 v33 v34 h := rfl
theorem f39_l2_zero (N : Nat) (v0 : SL) (v5 : SL) (v6 : SL) (v32 : SL) (v33 : Int) (v34 : Int) (h : Heap) : f39_l2 N 0 v0 v5 v6 v32 v33 v34 h = none := rfl
noncomputable def f39_l1_b (N : Nat) (go : SL → SL → SL → Heap → Option (Out × (SL × Unit) × Heap)) (v0 : SL) (v5 : SL) (v6 : SL) (h : Heap) : Option (Out × (SL × Unit) × Heap) :=
  let x4 : Bool := ltInt 0 (Int.ofNat v6.len)
  (bif x4 then
   let x5 : Int := wrapA .i64 ((Int.ofNat v6.len) - 1)
   (ixK v6.a v6.len x5 1 fun q6 =>
   (bindV (.val (.one (.int .i64))) (h.cell q6) fun (x7 : Int) =>
   let x8 : Int := wrapA .i64 ((Int.ofNat v6.len) - 1)
   (bindV (.val (.one .slice)) (sliceA E h 26 (.slice v6.a v6.len v6.cap v6.sz) none (some (.int .i64 x8))) fun (x9 : SL) =>
   (ixK v0.a v0.len x7 1 fun q10 =>
   (bindV (.val (.one .slice)) (h.cell q10) fun (x11 : SL) =>
   (bind3 (f39_l2 N N v0 v5 x9 x11 (Int.ofNat x11.len) 0 h) fun _ (j26 : (SL × SL × SL × Unit)) h27 =>
   go j26.1 j26.2.1 j26.2.2.1 h27))))))
  else
   some ((Out.exit 0), (v5, ()), h))
noncomputable def f39_l1 (N M : Nat) (v0 : SL) (v5 : SL) (v6 : SL) (h : Heap) : Option (Out × (SL × Unit) × Heap) := iter (fun go s h => f39_l1_b N (fun v0 v5 v6 h => go (v0, v5, v6, ()) h) s.1 s.2.1 s.2.2.1 h) M (v0, v5, v6, ()) h
theorem f39_l1_succ (N M : Nat) (v0 : SL) (v5 : SL) (v6 : SL) (h : Heap) : f39_l1 N (M + 1) v0 v5 v6 h = f39_l1_b N (f39_l1 N M) v0 v5 v6 h := rfl
theorem f39_l1_zero (N : Nat) (v0 : SL) (v5 : SL) (v6 : SL) (h : Heap) : f39_l1 N 0 v0 v5 v6 h = none := rfl
noncomputable def f39 (N : Nat) (a0 : SL) (a1 : Int) (h : Heap) : Option (SL × Heap) :=
  (bindT (.val (.one .slice)) (makeSliceA E 43 (.int .i64 (Int.ofNat a0.len)) (.int .i64 (Int.ofNat a0.len)) h) fun (x1 : SL) h2 =>
  let h3 : Heap := h2.push (.row [(.int .i64 a1)] .own)
  (bind3 (f39_l1 N N a0 x1 ⟨(some (h2.next, 0)), 1, 1, 1⟩ h3) fun _ (j29 : (SL × Unit)) h30 =>
  some (j29.1, h30)))
noncomputable def ann39 : Ann := (.two .n (.two .n (.two .n (.two (.two (.loop [(0, (.one .slice)), (5, (.one .slice)), (6, (.one .slice))] [(.exit 0)] [(5, (.one .slice))] (.two .n (.two (.two .n (.two .n (.two .n (.two (.loop [(0, (.one .slice)), (5, (.one .slice)), (6, (.one .slice)), (32, (.one .slice)), (33, (.one (.int .i64))), (34, (.one (.int .i64)))] [(.exit 2)] [(0, (.one .slice)), (5, (.one .slice)), (6, (.one .slice))] .n) .n)))) .n))) .n) .n))))
theorem f39_ok (N : Nat) : FnOK Try.prog 39 [(.one .slice), (.one (.int .i64))] (.val (.one .slice)) (fun x h => f39 N x.1 x.2.1 h) :=
  runK_ok envOK hmix noCalls_ok (N := N) (x := ann39) (fn := Try.f39) (c := Try.f39.body.getD .skip) (by kernel_rfl) (by kernel_rfl) (by kernel_rfl) (by kernel_rfl) (fun _ _ => by kernel_rfl)

/- usufruct/graph.Below -/
noncomputable def f12_l1_b (N : Nat) (go : SL → SL → Int → Int → Heap → Option (Out × (SL × Unit) × Heap)) (v5 : SL) (v23 : SL) (v24 : Int) (v25 : Int) (h : Heap) : Option (Out × (SL × Unit) × Heap) :=
  let x8 : Bool := ltInt v25 v24
  (bif x8 then
   (ixK v23.a v23.len v25 1 fun q9 =>
   (bindV (.val (.one .bool)) (h.cell q9) fun (x10 : Bool) =>
   (bif x10 then
    let h11 : Heap := h.push (.row [(.int .i64 v25)] .own)
    (bindT (.val (.one .slice)) (appendA E 26 26 (.slice v5.a v5.len v5.cap v5.sz) (.slice (some (h.next, 0)) 1 1 1) h11) fun (x12 : SL) h13 =>
    let x14 : Int := wrapA .i64 (v25 + 1)
    go x12 v23 v24 x14 h13)
   else
    let x15 : Int := wrapA .i64 (v25 + 1)
    go v5 v23 v24 x15 h)))
  else
   some ((Out.exit 0), (v5, ()), h))
noncomputable def f12_l1 (N M : Nat) (v5 : SL) (v23 : SL) (v24 : Int) (v25 : Int) (h : Heap) : Option (Out × (SL × Unit) × Heap) := iter (fun go s h => f12_l1_b N (fun v5 v23 v24 v25 h => go (v5, v23, v24, v25, ()) h) s.1 s.2.1 s.2.2.1 s.2.2.2.1 h) M (v5, v23, v24, v25, ()) h
theorem f12_l1_succ (N M : Nat) (v5 : SL) (v23 : SL) (v24 : Int) (v25 : Int) (h : Heap) : f12_l1 N (M + 1) v5 v23 v24 v25 h = f12_l1_b N (f12_l1 N M) v5 v23 v24 v25 h := rfl
theorem f12_l1_zero (N : Nat) (v5 : SL) (v23 : SL) (v24 : Int) (v25 : Int) (h : Heap) : f12_l1 N 0 v5 v23 v24 v25 h = none := rfl
noncomputable def f12 (N : Nat) (a0 : SL) (a1 : Int) (h : Heap) : Option (SL × Heap) :=
  (bind2 (f38 N a0 h) fun (x1 : AV) h2 =>
  (bindV (.val (.one .bool)) (binA E .neq 32 (.tmp 9) (.const .nilIface) x1 AV.nilIface) fun (x3 : Bool) =>
  (bif x3 then
   some (⟨none, 0, 0, 0⟩, h2)
  else
   let x4 : Bool := ltInt a1 0
   (bif x4 then
    some (⟨none, 0, 0, 0⟩, h2)
   else
    let x5 : Bool := leInt (Int.ofNat a0.len) a1
    (bif x5 then
     some (⟨none, 0, 0, 0⟩, h2)
    else
     (bind2 (f39 N a0 a1 h2) fun (x6 : SL) h7 =>
     (bind3 (f12_l1 N N ⟨none, 0, 0, 0⟩ x6 (Int.ofNat x6.len) 0 h7) fun _ (j17 : (SL × Unit)) h18 =>
     some (j17.1, h18))))))))
noncomputable def ann12 : Ann := (.two .n (.two .n (.two .n (.two (.two .n (.two (.loop [(5, (.one .slice)), (23, (.one .slice)), (24, (.one (.int .i64))), (25, (.one (.int .i64)))] [(.exit 0)] [(5, (.one .slice))] .n) .n)) .n))))
theorem f12_ok (N : Nat) : FnOK Try.prog 12 [(.one .slice), (.one (.int .i64))] (.val (.one .slice)) (fun x h => f12 N x.1 x.2.1 h) :=
  runK_ok envOK hmix (addCall_ok (f39_ok N) (addCall_ok (f38_ok N) noCalls_ok)) (N := N) (x := ann12) (fn := Try.f12) (c := Try.f12.body.getD .skip) (by kernel_rfl) (by kernel_rfl) (by kernel_rfl) (by kernel_rfl) (fun _ _ => by kernel_rfl)

/- usufruct/usufructlaw11.has -/
noncomputable def f13_l1_b (N : Nat) (go : SL → Int → Bool → Int → Heap → Option (Out × (Bool × Unit) × Heap)) (v0 : SL) (v1 : Int) (v4 : Bool) (v5 : Int) (h : Heap) : Option (Out × (Bool × Unit) × Heap) :=
  let x1 : Bool := ltInt v5 (Int.ofNat v0.len)
  (bif x1 then
   (ixK v0.a v0.len v5 1 fun q2 =>
   (bindV (.val (.one (.int .i64))) (h.cell q2) fun (x3 : Int) =>
   let x4 : Bool := eqInt x3 v1
   (bif x4 then
    some (Out.ret, (true, ()), h)
   else
    let x5 : Int := wrapA .i64 (v5 + 1)
    go v0 v1 v4 x5 h)))
  else
   some ((Out.exit 0), (v4, ()), h))
noncomputable def f13_l1 (N M : Nat) (v0 : SL) (v1 : Int) (v4 : Bool) (v5 : Int) (h : Heap) : Option (Out × (Bool × Unit) × Heap) := iter (fun go s h => f13_l1_b N (fun v0 v1 v4 v5 h => go (v0, v1, v4, v5, ()) h) s.1 s.2.1 s.2.2.1 s.2.2.2.1 h) M (v0, v1, v4, v5, ()) h
theorem f13_l1_succ (N M : Nat) (v0 : SL) (v1 : Int) (v4 : Bool) (v5 : Int) (h : Heap) : f13_l1 N (M + 1) v0 v1 v4 v5 h = f13_l1_b N (f13_l1 N M) v0 v1 v4 v5 h := rfl
theorem f13_l1_zero (N : Nat) (v0 : SL) (v1 : Int) (v4 : Bool) (v5 : Int) (h : Heap) : f13_l1 N 0 v0 v1 v4 v5 h = none := rfl
noncomputable def f13 (N : Nat) (a0 : SL) (a1 : Int) (h : Heap) : Option (Bool × Heap) :=
  (bind3 (f13_l1 N N a0 a1 false 0 h) fun o6 (j7 : (Bool × Unit)) h8 =>
  (bif eqOut o6 (.exit 0) then
   some (false, h8)
  else
   some (j7.1, h8)))
noncomputable def ann13 : Ann := (.two .n (.two (.two .n (.two (.loop [(0, (.one .slice)), (1, (.one (.int .i64))), (4, (.one .bool)), (5, (.one (.int .i64)))] [(.exit 0), .ret] [(4, (.one .bool))] .n) .n)) .n))
theorem f13_ok (N : Nat) : FnOK Try.prog 13 [(.one .slice), (.one (.int .i64))] (.val (.one .bool)) (fun x h => f13 N x.1 x.2.1 h) :=
  runK_ok envOK hmix noCalls_ok (N := N) (x := ann13) (fn := Try.f13) (c := Try.f13.body.getD .skip) (by kernel_rfl) (by kernel_rfl) (by kernel_rfl) (by kernel_rfl) (fun _ _ => by kernel_rfl)

/- usufruct/usufructlaw11.GraphBelow -/
noncomputable def f3_l7_b (N : Nat) (go : Bool → SL → Int → SL → Int → Bool → Int → Int → Heap → Option (Out × (Bool × SL × Int × SL × Int × Bool × Int × Unit) × Heap)) (v4 : Bool) (v5 : SL) (v8 : Int) (v9 : SL) (v11 : Int) (v12 : Bool) (v13 : Int) (v14 : Int) (h : Heap) : Option (Out × (Bool × SL × Int × SL × Int × Bool × Int × Unit) × Heap) :=
  (ixK v9.a v9.len v13 1 fun q114 =>
  (bindV (.val (.one (.int .i64))) (h.cell q114) fun (x115 : Int) =>
  (ixK v5.a v5.len x115 1 fun q116 =>
  (bindV (.val (.one .slice)) (h.cell q116) fun (x117 : SL) =>
  let x118 : Bool := ltInt v14 (Int.ofNat x117.len)
  (bif x118 then
   (ixK v9.a v9.len v13 1 fun q119 =>
   (bindV (.val (.one (.int .i64))) (h.cell q119) fun (x120 : Int) =>
   (ixK v5.a v5.len x120 1 fun q121 =>
   (bindV (.val (.one .slice)) (h.cell q121) fun (x122 : SL) =>
   (ixK x122.a x122.len v14 1 fun q123 =>
   (bindV (.val (.one (.int .i64))) (h.cell q123) fun (x124 : Int) =>
   (bind2 (f13 N v9 x124 h) fun (x125 : Bool) h126 =>
   let x127 : Bool := !x125
   (bif x127 then
    some (Out.ret, (false, v5, v8, v9, v11, v12, v13, ()), h126)
   else
    let x128 : Int := wrapA .i64 (v14 + 1)
    go v4 v5 v8 v9 v11 v12 v13 x128 h126))))))))
  else
   some ((Out.exit 8), (v4, v5, v8, v9, v11, v12, v13, ()), h))))))
noncomputable def f3_l7 (N M : Nat) (v4 : Bool) (v5 : SL) (v8 : Int) (v9 : SL) (v11 : Int) (v12 : Bool) (v13 : Int) (v14 : Int) (h : Heap) : Option (Out × (Bool × SL × Int × SL × Int × Bool × Int × Unit) × Heap) := iter (fun go s h => f3_l7_b N (fun v4 v5 v8 v9 v11 v12 v13 v14 h => go (v4, v5, v8, v9, v11, v12, v13, v14, ()) h) s.1 s.2.1 s.2.2.1 s.2.2.2.1 s.2.2.2.2.1 s.2.2.2.2.2.1 s.2.2.2.2.2.2.1 s.2.2.2.2.2.2.2.1 h) M (v4, v5, v8, v9, v11, v12, v13, v14, ()) h
theorem f3_l7_succ (N M : Nat) (v4 : Bool) (v5 : SL) (v8 : Int) (v9 : SL) (v11 : Int) (v12 : Bool) (v13 : Int) (v14 : Int) (h : Heap) : f3_l7 N (M + 1) v4 v5 v8 v9 v11 v12 v13 v14 h = f3_l7_b N (f3_l7 N M) v4 v5 v8 v9 v11 v12 v13 v14 h := rfl
theorem f3_l7_zero (N : Nat) (v4 : Bool) (v5 : SL) (v8 : Int) (v9 : SL) (v11 : Int) (v12 : Bool) (v13 : Int) (v14 : Int) (h : Heap) : f3_l7 N 0 v4 v5 v8 v9 v11 v12 v13 v14 h = none := rfl
noncomputable def f3_l6_b (N : Nat) (go : Bool → SL → Int → SL → Int → Bool → Int → Heap → Option (Out × (Bool × SL × Int × SL × Int × Bool × Unit) × Heap)) (v4 : Bool) (v5 : SL) (v8 : Int) (v9 : SL) (v11 : Int) (v12 : Bool) (v13 : Int) (h : Heap) : Option (Out × (Bool × SL × Int × SL × Int × Bool × Unit) × Heap) :=
  let x102 : Bool := ltInt v13 (Int.ofNat v9.len)
  (bif x102 then
   (bind2 (α := (Bool × SL × Int × SL × Int × Bool × Int × Unit)) (
    (bif v12 then
     some ((v4, v5, v8, v9, v11, true, v13, ()), h)
    else
     let x103 : Bool := !eqInt v13 v11
     (bif x103 then
      (ixK v9.a v9.len v13 1 fun q104 =>
      (bindV (.val (.one (.int .i64))) (h.cell q104) fun (x105 : Int) =>
      (ixK v5.a v5.len x105 1 fun q106 =>
      (bindV (.val (.one .slice)) (h.cell q106) fun (x107 : SL) =>
      (ixK v9.a v9.len v11 1 fun q108 =>
      (bindV (.val (.one (.int .i64))) (h.cell q108) fun (x109 : Int) =>
      (bind2 (f13 N x107 x109 h) fun (x110 : Bool) h111 =>
      some ((v4, v5, v8, v9, v11, x110, v13, ()), h111))))))))
     else
      some ((v4, v5, v8, v9, v11, false, v13, ()), h)))) fun (j112 : (Bool × SL × Int × SL × Int × Bool × Int × Unit)) h113 =>
   (bind3 (f3_l7 N N j112.1 j112.2.1 j112.2.2.1 j112.2.2.2.1 j112.2.2.2.2.1 j112.2.2.2.2.2.1 j112.2.2.2.2.2.2.1 0 h113) fun o129 (j130 : (Bool × SL × Int × SL × Int × Bool × Int × Unit)) h131 =>
   (bif eqOut o129 (.exit 8) then
    let x132 : Int := wrapA .i64 (j130.2.2.2.2.2.2.1 + 1)
    go j130.1 j130.2.1 j130.2.2.1 j130.2.2.2.1 j130.2.2.2.2.1 j130.2.2.2.2.2.1 x132 h131
   else
    some (Out.ret, (j130.1, j130.2.1, j130.2.2.1, j130.2.2.2.1, j130.2.2.2.2.1, j130.2.2.2.2.2.1, ()), h131))))
  else
   some ((Out.exit 6), (v4, v5, v8, v9, v11, v12, ()), h))
noncomputable def f3_l6 (N M : Nat) (v4 : Bool) (v5 : SL) (v8 : Int) (v9 : SL) (v11 : Int) (v12 : Bool) (v13 : Int) (h : Heap) : Option (Out × (Bool × SL × Int × SL × Int × Bool × Unit) × Heap) := iter (fun go s h => f3_l6_b N (fun v4 v5 v8 v9 v11 v12 v13 h => go (v4, v5, v8, v9, v11, v12, v13, ()) h) s.1 s.2.1 s.2.2.1 s.2.2.2.1 s.2.2.2.2.1 s.2.2.2.2.2.1 s.2.2.2.2.2.2.1 h) M (v4, v5, v8, v9, v11, v12, v13, ()) h
theorem f3_l6_succ (N M : Nat) (v4 : Bool) (v5 : SL) (v8 : Int) (v9 : SL) (v11 : Int) (v12 : Bool) (v13 : Int) (h : Heap) : f3_l6 N (M + 1) v4 v5 v8 v9 v11 v12 v13 h = f3_l6_b N (f3_l6 N M) v4 v5 v8 v9 v11 v12 v13 h := rfl
theorem f3_l6_zero (N : Nat) (v4 : Bool) (v5 : SL) (v8 : Int) (v9 : SL) (v11 : Int) (v12 : Bool) (v13 : Int) (h : Heap) : f3_l6 N 0 v4 v5 v8 v9 v11 v12 v13 h = none := rfl
noncomputable def f3_l5_b (N : Nat) (go : Bool → SL → Int → SL → Int → Bool → Int → Int → Heap → Option (Out × (Bool × SL × Int × SL × Int × Bool × Int × Unit) × Heap)) (v4 : Bool) (v5 : SL) (v8 : Int) (v9 : SL) (v11 : Int) (v12 : Bool) (v13 : Int) (v14 : Int) (h : Heap) : Option (Out × (Bool × SL × Int × SL × Int × Bool × Int × Unit) × Heap) :=
  (ixK v9.a v9.len v13 1 fun q72 =>
  (bindV (.val (.one (.int .i64))) (h.cell q72) fun (x73 : Int) =>
  (ixK v5.a v5.len x73 1 fun q74 =>
  (bindV (.val (.one .slice)) (h.cell q74) fun (x75 : SL) =>
  let x76 : Bool := ltInt v14 (Int.ofNat x75.len)
  (bif x76 then
   (ixK v9.a v9.len v13 1 fun q77 =>
   (bindV (.val (.one (.int .i64))) (h.cell q77) fun (x78 : Int) =>
   (ixK v5.a v5.len x78 1 fun q79 =>
   (bindV (.val (.one .slice)) (h.cell q79) fun (x80 : SL) =>
   (ixK x80.a x80.len v14 1 fun q81 =>
   (bindV (.val (.one (.int .i64))) (h.cell q81) fun (x82 : Int) =>
   (bind2 (f13 N v9 x82 h) fun (x83 : Bool) h84 =>
   let x85 : Bool := !x83
   (bif x85 then
    some (Out.ret, (false, v5, v8, v9, v11, v12, v13, ()), h84)
   else
    let x86 : Int := wrapA .i64 (v14 + 1)
    go v4 v5 v8 v9 v11 v12 v13 x86 h84))))))))
  else
   some ((Out.exit 8), (v4, v5, v8, v9, v11, v12, v13, ()), h))))))
noncomputable def f3_l5 (N M : Nat) (v4 : Bool) (v5 : SL) (v8 : Int) (v9 : SL) (v11 : Int) (v12 : Bool) (v13 : Int) (v14 : Int) (h : Heap) : Option (Out × (Bool × SL × Int × SL × Int × Bool × Int × Unit) × Heap) := iter (fun go s h => f3_l5_b N (fun v4 v5 v8 v9 v11 v12 v13 v14 h => go (v4, v5, v8, v9, v11, v12, v13, v14, ()) h) s.1 s.2.1 s.2.2.1 s.2.2.2.1 s.2.2.2.2.1 s.2.2.2.2.2.1 s.2.2.2.2.2.2.1 s.2.2.2.2.2.2.2.1 h) M (v4, v5, v8, v9, v11, v12, v13, v14, ()) h
theorem f3_l5_succ (N M : Nat) (v4 : Bool) (v5 : SL) (v8 : Int) (v9 : SL) (v11 : Int) (v12 : Bool) (v13 : Int) (v14 : Int) (h : Heap) : f3_l5 N (M + 1) v4 v5 v8 v9 v11 v12 v13 v14 h = f3_l5_b N (f3_l5 N M) v4 v5 v8 v9 v11 v12 v13 v14 h := rfl
theorem f3_l5_zero (N : Nat) (v4 : Bool) (v5 : SL) (v8 : Int) (v9 : SL) (v11 : Int) (v12 : Bool) (v13 : Int) (v14 : Int) (h : Heap) : f3_l5 N 0 v4 v5 v8 v9 v11 v12 v13 v14 h = none := rfl
noncomputable def f3_l4_b (N : Nat) (go : Bool → SL → Int → SL → Int → Bool → Int → Heap → Option (Out × (Bool × SL × Int × SL × Int × Bool × Unit) × Heap)) (v4 : Bool) (v5 : SL) (v8 : Int) (v9 : SL) (v11 : Int) (v12 : Bool) (v13 : Int) (h : Heap) : Option (Out × (Bool × SL × Int × SL × Int × Bool × Unit) × Heap) :=
  let x60 : Bool := ltInt v13 (Int.ofNat v9.len)
  (bif x60 then
   (bind2 (α := (Bool × SL × Int × SL × Int × Bool × Int × Unit)) (
    (bif v12 then
     some ((v4, v5, v8, v9, v11, true, v13, ()), h)
    else
     let x61 : Bool := !eqInt v13 v11
     (bif x61 then
      (ixK v9.a v9.len v13 1 fun q62 =>
      (bindV (.val (.one (.int .i64))) (h.cell q62) fun (x63 : Int) =>
      (ixK v5.a v5.len x63 1 fun q64 =>
      (bindV (.val (.one .slice)) (h.cell q64) fun (x65 : SL) =>
      (ixK v9.a v9.len v11 1 fun q66 =>
      (bindV (.val (.one (.int .i64))) (h.cell q66) fun (x67 : Int) =>
      (bind2 (f13 N x65 x67 h) fun (x68 : Bool) h69 =>
      some ((v4, v5, v8, v9, v11, x68, v13, ()), h69))))))))
     else
      some ((v4, v5, v8, v9, v11, false, v13, ()), h)))) fun (j70 : (Bool × SL × Int × SL × Int × Bool × Int × Unit)) h71 =>
   (bind3 (f3_l5 N N j70.1 j70.2.1 j70.2.2.1 j70.2.2.2.1 j70.2.2.2.2.1 j70.2.2.2.2.2.1 j70.2.2.2.2.2.2.1 0 h71) fun o87 (j88 : (Bool × SL × Int × SL × Int × Bool × Int × Unit)) h89 =>
   (bif eqOut o87 (.exit 8) then
    let x90 : Int := wrapA .i64 (j88.2.2.2.2.2.2.1 + 1)
    go j88.1 j88.2.1 j88.2.2.1 j88.2.2.2.1 j88.2.2.2.2.1 j88.2.2.2.2.2.1 x90 h89
   else
    some (Out.ret, (j88.1, j88.2.1, j88.2.2.1, j88.2.2.2.1, j88.2.2.2.2.1, j88.2.2.2.2.2.1, ()), h89))))
  else
   some ((Out.exit 6), (v4, v5, v8, v9, v11, v12, ()), h))
noncomputable def f3_l4 (N M : Nat) (v4 : Bool) (v5 : SL) (v8 : Int) (v9 : SL) (v11 : Int) (v12 : Bool) (v13 : Int) (h : Heap) : Option (Out × (Bool × SL × Int × SL × Int × Bool × Unit) × Heap) := iter (fun go s h => f3_l4_b N (fun v4 v5 v8 v9 v11 v12 v13 h => go (v4, v5, v8, v9, v11, v12, v13, ()) h) s.1 s.2.1 s.2.2.1 s.2.2.2.1 s.2.2.2.2.1 s.2.2.2.2.2.1 s.2.2.2.2.2.2.1 h) M (v4, v5, v8, v9, v11, v12, v13, ()) h
theorem f3_l4_succ (N M : Nat) (v4 : Bool) (v5 : SL) (v8 : Int) (v9 : SL) (v11 : Int) (v12 : Bool) (v13 : Int) (h : Heap) : f3_l4 N (M + 1) v4 v5 v8 v9 v11 v12 v13 h = f3_l4_b N (f3_l4 N M) v4 v5 v8 v9 v11 v12 v13 h := rfl
theorem f3_l4_zero (N : Nat) (v4 : Bool) (v5 : SL) (v8 : Int) (v9 : SL) (v11 : Int) (v12 : Bool) (v13 : Int) (h : Heap) : f3_l4 N 0 v4 v5 v8 v9 v11 v12 v13 h = none := rfl
noncomputable def f3_l3_b (N : Nat) (go : Bool → SL → Int → SL → Int → Heap → Option (Out × (Bool × Unit) × Heap)) (v4 : Bool) (v5 : SL) (v8 : Int) (v9 : SL) (v11 : Int) (h : Heap) : Option (Out × (Bool × Unit) × Heap) :=
  let x40 : Bool := ltInt v11 (Int.ofNat v9.len)
  (bif x40 then
   (ixK v9.a v9.len v11 1 fun q41 =>
   (bindV (.val (.one (.int .i64))) (h.cell q41) fun (x42 : Int) =>
   let x43 : Bool := ltInt x42 0
   (bif x43 then
    some (Out.ret, (false, ()), h)
   else
    (ixK v9.a v9.len v11 1 fun q44 =>
    (bindV (.val (.one (.int .i64))) (h.cell q44) fun (x45 : Int) =>
    let x46 : Bool := leInt (Int.ofNat v5.len) x45
    (bif x46 then
     some (Out.ret, (false, ()), h)
    else
     let x47 : Bool := ltInt 0 v11
     (bif x47 then
      let x48 : Int := wrapA .i64 (v11 - 1)
      (ixK v9.a v9.len x48 1 fun q49 =>
      (bindV (.val (.one (.int .i64))) (h.cell q49) fun (x50 : Int) =>
      (ixK v9.a v9.len v11 1 fun q51 =>
      (bindV (.val (.one (.int .i64))) (h.cell q51) fun (x52 : Int) =>
      let x53 : Bool := leInt x52 x50
      (bif x53 then
       some (Out.ret, (false, ()), h)
      else
       (ixK v5.a v5.len v8 1 fun q54 =>
       (bindV (.val (.one .slice)) (h.cell q54) fun (x55 : SL) =>
       (ixK v9.a v9.len v11 1 fun q56 =>
       (bindV (.val (.one (.int .i64))) (h.cell q56) fun (x57 : Int) =>
       (bind2 (f13 N x55 x57 h) fun (x58 : Bool) h59 =>
       (bind3 (f3_l4 N N v4 v5 v8 v9 v11 x58 0 h59) fun o91 (j92 : (Bool × SL × Int × SL × Int × Bool × Unit)) h93 =>
       (bif eqOut o91 (.exit 6) then
        let x94 : Bool := !j92.2.2.2.2.2.1
        (bif x94 then
         some (Out.ret, (false, ()), h93)
        else
         let x95 : Int := wrapA .i64 (j92.2.2.2.2.1 + 1)
         go j92.1 j92.2.1 j92.2.2.1 j92.2.2.2.1 x95 h93)
       else
        some (Out.ret, (j92.1, ()), h93)))))))))))))
     else
      (ixK v5.a v5.len v8 1 fun q96 =>
      (bindV (.val (.one .slice)) (h.cell q96) fun (x97 : SL) =>
      (ixK v9.a v9.len v11 1 fun q98 =>
      (bindV (.val (.one (.int .i64))) (h.cell q98) fun (x99 : Int) =>
      (bind2 (f13 N x97 x99 h) fun (x100 : Bool) h101 =>
      (bind3 (f3_l6 N N v4 v5 v8 v9 v11 x100 0 h101) fun o133 (j134 : (Bool × SL × Int × SL × Int × Bool × Unit)) h135 =>
      (bif eqOut o133 (.exit 6) then
       let x136 : Bool := !j134.2.2.2.2.2.1
       (bif x136 then
        some (Out.ret, (false, ()), h135)
       else
        let x137 : Int := wrapA .i64 (j134.2.2.2.2.1 + 1)
        go j134.1 j134.2.1 j134.2.2.1 j134.2.2.2.1 x137 h135)
      else
       some (Out.ret, (j134.1, ()), h135)))))))))))))))
  else
   some ((Out.exit 4), (v4, ()), h))
noncomputable def f3_l3 (N M : Nat) (v4 : Bool) (v5 : SL) (v8 : Int) (v9 : SL) (v11 : Int) (h : Heap) : Option (Out × (Bool × Unit) × Heap) := iter (fun go s h => f3_l3_b N (fun v4 v5 v8 v9 v11 h => go (v4, v5, v8, v9, v11, ()) h) s.1 s.2.1 s.2.2.1 s.2.2.2.1 s.2.2.2.2.1 h) M (v4, v5, v8, v9, v11, ()) h
theorem f3_l3_succ (N M : Nat) (v4 : Bool) (v5 : SL) (v8 : Int) (v9 : SL) (v11 : Int) (h : Heap) : f3_l3 N (M + 1) v4 v5 v8 v9 v11 h = f3_l3_b N (f3_l3 N M) v4 v5 v8 v9 v11 h := rfl
theorem f3_l3_zero (N : Nat) (v4 : Bool) (v5 : SL) (v8 : Int) (v9 : SL) (v11 : Int) (h : Heap) : f3_l3 N 0 v4 v5 v8 v9 v11 h = none := rfl
noncomputable def f3_l2_b (N : Nat) (go : Bool → SL → Int → SL → Int → Heap → Option (Out × (Bool × SL × Int × SL × Unit) × Heap)) (v4 : Bool) (v5 : SL) (v8 : Int) (v9 : SL) (v10 : Int) (h : Heap) : Option (Out × (Bool × SL × Int × SL × Unit) × Heap) :=
  (ixK v5.a v5.len v8 1 fun q26 =>
  (bindV (.val (.one .slice)) (h.cell q26) fun (x27 : SL) =>
  let x28 : Bool := ltInt v10 (Int.ofNat x27.len)
  (bif x28 then
   (ixK v5.a v5.len v8 1 fun q29 =>
   (bindV (.val (.one .slice)) (h.cell q29) fun (x30 : SL) =>
   (ixK x30.a x30.len v10 1 fun q31 =>
   (bindV (.val (.one (.int .i64))) (h.cell q31) fun (x32 : Int) =>
   (bind2 (f13 N v9 x32 h) fun (x33 : Bool) h34 =>
   let x35 : Bool := !x33
   (bif x35 then
    some (Out.ret, (false, v5, v8, v9, ()), h34)
   else
    let x36 : Int := wrapA .i64 (v10 + 1)
    go v4 v5 v8 v9 x36 h34))))))
  else
   some ((Out.exit 2), (v4, v5, v8, v9, ()), h))))
noncomputable def f3_l2 (N M : Nat) (v4 : Bool) (v5 : SL) (v8 : Int) (v9 : SL) (v10 : Int) (h : Heap) : Option (Out × (Bool × SL × Int × SL × Unit) × Heap) := iter (fun go s h => f3_l2_b N (fun v4 v5 v8 v9 v10 h => go (v4, v5, v8, v9, v10, ()) h) s.1 s.2.1 s.2.2.1 s.2.2.2.1 s.2.2.2.2.1 h) M (v4, v5, v8, v9, v10, ()) h
theorem f3_l2_succ (N M : Nat) (v4 : Bool) (v5 : SL) (v8 : Int) (v9 : SL) (v10 : Int) (h : Heap) : f3_l2 N (M + 1) v4 v5 v8 v9 v10 h = f3_l2_b N (f3_l2 N M) v4 v5 v8 v9 v10 h := rfl
theorem f3_l2_zero (N : Nat) (v4 : Bool) (v5 : SL) (v8 : Int) (v9 : SL) (v10 : Int) (h : Heap) : f3_l2 N 0 v4 v5 v8 v9 v10 h = none := rfl
noncomputable def f3_l1_b (N : Nat) (go : Int → Bool → SL → Int → Heap → Option (Out × (Int × Bool × SL × Unit) × Heap)) (v1 : Int) (v4 : Bool) (v5 : SL) (v7 : Int) (h : Heap) : Option (Out × (Int × Bool × SL × Unit) × Heap) :=
  let x10 : Bool := ltInt v7 (Int.ofNat v5.len)
  (bif x10 then
   (ixK v5.a v5.len v7 1 fun q11 =>
   (bindV (.val (.one .slice)) (h.cell q11) fun (x12 : SL) =>
   let x13 : Bool := ltInt 64 (Int.ofNat x12.len)
   (bif x13 then
    (bind2 (f11 N  h) fun (x14 : Bool) h15 =>
    some (Out.ret, (v1, x14, v5, ()), h15))
   else
    let x16 : Int := wrapA .i64 (v7 + 1)
    go v1 v4 v5 x16 h)))
  else
   some ((Out.exit 0), (v1, v4, v5, ()), h))
noncomputable def f3_l1 (N M : Nat) (v1 : Int) (v4 : Bool) (v5 : SL) (v7 : Int) (h : Heap) : Option (Out × (Int × Bool × SL × Unit) × Heap) := iter (fun go s h => f3_l1_b N (fun v1 v4 v5 v7 h => go (v1, v4, v5, v7, ()) h) s.1 s.2.1 s.2.2.1 s.2.2.2.1 h) M (v1, v4, v5, v7, ()) h
theorem f3_l1_succ (N M : Nat) (v1 : Int) (v4 : Bool) (v5 : SL) (v7 : Int) (h : Heap) : f3_l1 N (M + 1) v1 v4 v5 v7 h = f3_l1_b N (f3_l1 N M) v1 v4 v5 v7 h := rfl
theorem f3_l1_zero (N : Nat) (v1 : Int) (v4 : Bool) (v5 : SL) (v7 : Int) (h : Heap) : f3_l1 N 0 v1 v4 v5 v7 h = none := rfl
noncomputable def f3 (N : Nat) (a0 : SL) (a1 : Int) (h : Heap) : Option (Bool × Heap) :=
  (bind2 (f10 N a0 false h) fun (x1 : (SL × Bool × Unit)) h2 =>
  (bind2 (α := (Int × Bool × SL × Bool × Unit)) (
   let x3 : Bool := !x1.2.1
   (bif x3 then
    some ((a1, false, x1.1, true, ()), h2)
   else
    let x4 : Bool := eqInt (Int.ofNat x1.1.len) 0
    (bif x4 then
     some ((a1, false, x1.1, true, ()), h2)
    else
     let x5 : Bool := ltInt 64 (Int.ofNat x1.1.len)
     some ((a1, false, x1.1, x5, ()), h2)))) fun (j6 : (Int × Bool × SL × Bool × Unit)) h7 =>
  (bif j6.2.2.2.1 then
   (bind2 (f11 N  h7) fun (x8 : Bool) h9 =>
   some (x8, h9))
  else
   (bind3 (f3_l1 N N j6.1 j6.2.1 j6.2.2.1 0 h7) fun o17 (j18 : (Int × Bool × SL × Unit)) h19 =>
   (bif eqOut o17 (.exit 0) then
    let x20 : Int := wrapA .u64 j18.1
    let x21 : Int := wrapA .u64 (Int.ofNat j18.2.2.1.len)
    (bindV (.val (.one (.int .u64))) (binInt .rem .u64 x20 x21) fun (x22 : Int) =>
    let x23 : Int := wrapA .i64 x22
    (bind2 (f12 N j18.2.2.1 x23 h19) fun (x24 : SL) h25 =>
    (bind3 (f3_l2 N N j18.2.1 j18.2.2.1 x23 x24 0 h25) fun o37 (j38 : (Bool × SL × Int × SL × Unit)) h39 =>
    (bif eqOut o37 (.exit 2) then
     (bind3 (f3_l3 N N j38.1 j38.2.1 j38.2.2.1 j38.2.2.2.1 0 h39) fun o138 (j139 : (Bool × Unit)) h140 =>
     (bif eqOut o138 (.exit 4) then
      (bind2 (f11 N  h140) fun (x141 : Bool) h142 =>
      some (x141, h142))
     else
      some (j139.1, h140)))
    else
     some (j38.1, h39)))))
   else
    some (j18.2.1, h19))))))
noncomputable def ann3 : Ann := (.two .n (.two .n (.two (.two (.join [(1, (.one (.int .i64))), (4, (.one .bool)), (5, (.one .slice)), (31, (.one .bool))] .n) .n) (.two (.two .n (.two (.loop [(1, (.one (.int .i64))), (4, (.one .bool)), (5, (.one .slice)), (7, (.one (.int .i64)))] [(.exit 0), .ret] [(1, (.one (.int .i64))), (4, (.one .bool)), (5, (.one .slice))] .n) .n)) (.two .n (.two .n (.two (.two .n (.two (.loop [(4, (.one .bool)), (5, (.one .slice)), (8, (.one (.int .i64))), (9, (.one .slice)), (10, (.one (.int .i64)))] [(.exit 2), .ret] [(4, (.one .bool)), (5, (.one .slice)), (8, (.one (.int .i64))), (9, (.one .slice))] .n) .n)) (.two (.two .n (.two (.loop [(4, (.one .bool)), (5, (.one .slice)), (8, (.one (.int .i64))), (9, (.one .slice)), (11, (.one (.int .i64)))] [(.exit 4), .ret] [(4, (.one .bool))] (.two .n (.two (.two (.two .n (.two .n (.two (.two .n (.two (.loop [(4, (.one .bool)), (5, (.one .slice)), (8, (.one (.int .i64))), (9, (.one .slice)), (11, (.one (.int .i64))), (12, (.one .bool)), (13, (.one (.int .i64)))] [(.exit 6), .ret] [(4, (.one .bool)), (5, (.one .slice)), (8, (.one (.int .i64))), (9, (.one .slice)), (11, (.one (.int .i64))), (12, (.one .bool))] (.two .n (.two (.two (.two (.join [(4, (.one .bool)), (5, (.one .slice)), (8, (.one (.int .i64))), (9, (.one .slice)), (11, (.one (.int .i64))), (12, (.one .bool)), (13, (.one (.int .i64)))] .n) (.two .n (.two (.loop [(4, (.one .bool)), (5, (.one .slice)), (8, (.one (.int .i64))), (9, (.one .slice)), (11, (.one (.int .i64))), (12, (.one .bool)), (13, (.one (.int .i64))), (14, (.one (.int .i64)))] [(.exit 8), .ret] [(4, (.one .bool)), (5, (.one .slice)), (8, (.one (.int .i64))), (9, (.one .slice)), (11, (.one (.int .i64))), (12, (.one .bool)), (13, (.one (.int .i64)))] .n) .n))) .n) .n))) .n)) .n))) .n) .n))) .n)) .n))))))))
theorem f3_ok (N : Nat) : FnOK Try.prog 3 [(.one .slice), (.one (.int .i64))] (.val (.one .bool)) (fun x h => f3 N x.1 x.2.1 h) :=
  runK_ok envOK hmix (addCall_ok (f13_ok N) (addCall_ok (f12_ok N) (addCall_ok (f11_ok N) (addCall_ok (f10_ok N) noCalls_ok)))) (N := N) (x := ann3) (fn := Try.f3) (c := Try.f3.body.getD .skip) (by kernel_rfl) (by kernel_rfl) (by kernel_rfl) (by kernel_rfl) (fun _ _ => by kernel_rfl)
end Go.Proofs.Ythpplekbeecdfaa.Gb

open Go Go.Proofs.Ythpplekbeecdfaa.Ai Go.Proofs
namespace Go.Proofs.Ythpplekbeecdfaa.Gb
abbrev nilS : SL := ⟨none, 0, 0, 0⟩
abbrev Ints (h : Heap) (s : SL) (l : List Int) : Prop := One h s (l.map (AV.int .i64))
structure Rows (h : Heap) (s : SL) (ss : List SL) (ll : List (List Int)) : Prop where
  top : One h s (ss.map SL.av)
  len : ss.length = ll.length
  row : ∀ i, i < ll.length → Ints h (ss.getD i nilS) (ll.getD i [])
theorem Ints.len {h : Heap} {s : SL} {l : List Int} (hs : Ints h s l) : s.len = l.length := by have := hs.1; simpa using this
theorem Rows.slen {h : Heap} {s : SL} {ss : List SL} {ll : List (List Int)} (hs : Rows h s ss ll) : s.len = ll.length := by have := hs.top.1; rw [List.length_map, hs.len] at this; exact this
variable {N : Nat} {h : Heap} {s : SL} {l : List Int} {ss : List SL} {ll : List (List Int)}
theorem has_loop (hs : Ints h s l) (hl : l.length ≤ 1000000) (x : Int) (b : Bool) : ∀ (M i : Nat), i ≤ l.length → l.length - i < M → f13_l1 N M s x b i h = if x ∈ l.drop i then some (.ret, (true, ()), h) else some (.exit 0, (b, ()), h) := by
  intro M
  induction M with
  | zero => intro i h1 h2; omega
  | succ M ih =>
    intro i h1 h2
    have hlen := Ints.len hs
    rw [f13_l1_succ]
    unfold f13_l1_b
    by_cases hi : i < l.length
    · have ew : wrapA .i64 ((i : Int) + 1) = ((i + 1 : Nat) : Int) := wrapA_small (by omega) (by omega)
      have hd : l.drop i = l[i] :: l.drop (i + 1) := List.drop_eq_getElem_cons hi
      have hg : l.getD i 0 = l[i] := by simp [hi]
      rw [hs.int (x := (i : Int)) (by omega) (by omega)]
      simp only [ltInt_dec, hlen, Int.ofNat_eq_natCast, Int.ofNat_lt, hi, decide_true, cond_true, Int.toNat_natCast, hg, eqInt_dec, ew, ih (i + 1) (by omega) (by omega), hd, List.mem_cons]
      by_cases he : l[i] = x
      · simp [he]
      · have he' : ¬ x = l[i] := fun e => he e.symm
        simp [he, he']
    · have : i = l.length := by omega
      subst this
      simp [ltInt_dec, hlen]
theorem has_spec (hs : Ints h s l) (hN : 1000001 ≤ N) (hl : l.length ≤ 1000000) (x : Int) : f13 N s x h = some (decide (x ∈ l), h) := by
  unfold f13
  have := has_loop (N := N) hs hl x false N 0 (by omega) (by omega)
  simp only [List.drop_zero] at this
  rw [show (0 : Int) = ((0 : Nat) : Int) from rfl, this]
  by_cases hx : x ∈ l <;> simp [hx]
/-- needs that may be -/
structure Fine (ll : List (List Int)) : Prop where
  len : ll.length ≤ 64
  row : ∀ i, i < ll.length → (ll.getD i []).length ≤ 64
  inr : ∀ i, i < ll.length → ∀ x ∈ ll.getD i [], 0 ≤ x ∧ x < ll.length
theorem may1 (hr : Rows h s ss ll) (hf : Fine ll) (v : AV) : ∀ (M i : Nat), i ≤ ll.length → ll.length - i < M → f38_l1 N M s v s (ll.length : Int) i h = some (.exit 0, (s, v, ()), h) := by
  intro M
  induction M with
  | zero => intro i h1 h2; omega
  | succ M ih =>
    intro i h1 h2
    rw [f38_l1_succ]
    unfold f38_l1_b
    by_cases hi : i < ll.length
    · have ew : wrapA .i64 ((i : Int) + 1) = ((i + 1 : Nat) : Int) := wrapA_small (by omega) (by have := hf.len; omega)
      have hl := hf.row i hi
      have hrl := Ints.len (hr.row i hi)
      rw [hr.top.sl (x := (i : Int)) (by omega) (by rw [hr.len]; omega)]
      simp only [ltInt_dec, Int.ofNat_lt, hi, decide_true, cond_true, Int.toNat_natCast, hrl, Int.ofNat_eq_natCast, show ¬ ((64 : Int) < (ll.getD i []).length) by omega, decide_false, cond_false, ew, ih (i + 1) (by omega) (by omega)]
    · have : i = ll.length := by omega
      subst this
      simp [ltInt_dec]
theorem may3 (hs : Ints h s l) {s0 : SL} {n : Nat} (hn : s0.len = n) (hl : l.length ≤ 1000) (hin : ∀ x ∈ l, 0 ≤ x ∧ x < n) (v : AV) (a b c : Int) (t : SL) : ∀ (M i : Nat), i ≤ l.length → l.length - i < M → f38_l3 N M s0 v a t b c s (l.length : Int) i h = some (.exit 4, (s0, v, t, b, c, ()), h) := by
  intro M
  induction M with
  | zero => intro i h1 h2; omega
  | succ M ih =>
    intro i h1 h2
    rw [f38_l3_succ]
    unfold f38_l3_b
    by_cases hi : i < l.length
    · have ew : wrapA .i64 ((i : Int) + 1) = ((i + 1 : Nat) : Int) := wrapA_small (by omega) (by omega)
      have hg : l.getD i 0 = l[i] := by simp [hi]
      have hx := hin l[i] (List.getElem_mem hi)
      rw [hs.int (x := (i : Int)) (by omega) (by omega)]
      simp only [ltInt_dec, leInt_dec, Int.ofNat_lt, hi, decide_true, cond_true, Int.toNat_natCast, hg, hn, Int.ofNat_eq_natCast, show ¬ (l[i] < 0) by omega, show ¬ ((n : Int) ≤ l[i]) by omega, decide_false, cond_false, ew, ih (i + 1) (by omega) (by omega)]
    · have : i = l.length := by omega
      subst this
      simp [ltInt_dec]
theorem may2 (hr : Rows h s ss ll) (hf : Fine ll) (hN : 100 ≤ N) (v : AV) : ∀ (M i : Nat), i ≤ ll.length → ll.length - i < M → f38_l2 N M s v s (ll.length : Int) i h = some (.exit 2, (v, ()), h) := by
  intro M
  induction M with
  | zero => intro i h1 h2; omega
  | succ M ih =>
    intro i h1 h2
    rw [f38_l2_succ]
    unfold f38_l2_b
    by_cases hi : i < ll.length
    · have ew : wrapA .i64 ((i : Int) + 1) = ((i + 1 : Nat) : Int) := wrapA_small (by omega) (by have := hf.len; omega)
      have hl := hf.row i hi
      have hrow := hr.row i hi
      have h3 := may3 (N := N) hrow hr.slen (by omega) (hf.inr i hi) v (i : Int) (ll.length : Int) (i : Int) s N 0 (by omega) (by omega)
      rw [hr.top.sl (x := (i : Int)) (by omega) (by rw [hr.len]; omega)]
      simp only [Int.ofNat_zero] at h3
      simp only [ltInt_dec, Int.ofNat_lt, hi, decide_true, cond_true, Int.toNat_natCast, Ints.len hrow, Int.ofNat_eq_natCast, h3, bind3_some, eqOut_exit, ew, ih (i + 1) (by omega) (by omega)]
    · have : i = ll.length := by omega
      subst this
      simp [ltInt_dec]
theorem may_spec (hr : Rows h s ss ll) (hf : Fine ll) (hN : 100 ≤ N) : f38 N s h = some (AV.nilIface, h) := by
  unfold f38
  have hl := hf.len
  have h1 := may1 (N := N) hr hf AV.nilIface N 0 (by omega) (by omega)
  have h2 := may2 (N := N) hr hf hN AV.nilIface N 0 (by omega) (by omega)
  simp only [Int.ofNat_zero] at h1 h2
  simp only [ltInt_dec, hr.slen, Int.ofNat_eq_natCast, show ¬ ((64 : Int) < ll.length) by omega, decide_false, cond_false, h1, h2, bind3_some, eqOut_exit, decide_true, cond_true]
end Go.Proofs.Ythpplekbeecdfaa.Gb

open Go Go.Proofs.Ythpplekbeecdfaa.Ai Go.Proofs
namespace Go.Proofs.Ythpplekbeecdfaa.Gb
/-! plain: what is needed by one step or more -/
inductive Reach (ll : List (List Int)) (i : Int) : Int → Prop
  | one {k : Int} : k ∈ ll.getD i.toNat [] → Reach ll i k
  | step {y k : Int} : Reach ll i y → k ∈ ll.getD y.toNat [] → Reach ll i k
def bstep (p : List Bool × List Int) (k : Int) : List Bool × List Int := if p.1.getD k.toNat false then p else (p.1.set k.toNat true, p.2 ++ [k])
theorem getD_set_b (seen : List Bool) (a k : Nat) (ha : a < seen.length) : (seen.set a true).getD k false = true ↔ seen.getD k false = true ∨ k = a := by
  simp only [List.getD_eq_getElem?_getD, List.getElem?_set]
  by_cases h : a = k
  · subst h; simp [ha]
  · have h' : ¬ k = a := fun e => h e.symm
    simp [h, h']
theorem count_set_b (seen : List Bool) (a : Nat) (ha : a < seen.length) (hf : seen.getD a false = false) : (seen.set a true).count true = seen.count true + 1 := by
  rw [List.count_set ha]
  have : seen[a] = false := by simpa [List.getD_eq_getElem?_getD, ha] using hf
  simp [this]
structure Folded (n : Nat) (r : List Int) (seen : List Bool) (work : List Int) (p : List Bool × List Int) : Prop where
  len : p.1.length = n
  sn : ∀ k, p.1.getD k false = true ↔ seen.getD k false = true ∨ (k : Int) ∈ r
  keep : ∀ x ∈ work, x ∈ p.2
  from' : ∀ x ∈ p.2, x ∈ work ∨ x ∈ r
  new : ∀ x ∈ r, seen.getD x.toNat false = true ∨ x ∈ p.2
  meas : p.2.length + (n - p.1.count true) = work.length + (n - seen.count true)
theorem fold_spec {n : Nat} : ∀ (r : List Int) (seen : List Bool) (work : List Int), seen.length = n → (∀ x ∈ r, 0 ≤ x ∧ x < n) → Folded n r seen work (r.foldl bstep (seen, work))
  | [], seen, work, hl, _ => ⟨hl, by simp, fun _ h => h, fun _ h => .inl h, by simp, rfl⟩
  | k :: r, seen, work, hl, hr => by
    have hk := hr k (by simp)
    have hk' : k.toNat < seen.length := by omega
    have hkk : ((k.toNat : Nat) : Int) = k := by omega
    simp only [List.foldl_cons]
    cases hs : seen.getD k.toNat false with
    | true =>
      have hb : bstep (seen, work) k = (seen, work) := by simp only [bstep, hs, if_true]
      rw [hb]
      have ih := fold_spec r seen work hl (fun x hx => hr x (by simp [hx]))
      refine ⟨ih.len, fun j => ?_, ih.keep, fun x hx => (ih.from' x hx).imp id (by simp; exact .inr), fun x hx => ?_, ih.meas⟩
      · rw [ih.sn]
        constructor
        · rintro (h | h)
          · exact .inl h
          · exact .inr (by simp [h])
        · rintro (h | h)
          · exact .inl h
          · rcases List.mem_cons.1 h with h | h
            · left; rw [← h] at hs; simpa using hs
            · exact .inr h
      · rcases List.mem_cons.1 hx with rfl | h
        · exact .inl hs
        · exact ih.new x h
    | false =>
      have hb : bstep (seen, work) k = (seen.set k.toNat true, work ++ [k]) := by simp only [bstep, hs]; rfl
      rw [hb]
      have ih := fold_spec r (seen.set k.toNat true) (work ++ [k]) (by simpa using hl) (fun x hx => hr x (by simp [hx]))
      have hcount : seen.count true < n := by
        rcases Nat.lt_or_ge (seen.count true) n with h | h
        · exact h
        · have h1 := List.count_le_length (a := true) (l := seen)
          have h2 : seen.count true = seen.length := by omega
          have h3 := List.count_eq_length.1 h2
          have h4 : seen[k.toNat] = false := by simpa [List.getD_eq_getElem?_getD, hk'] using hs
          have := h3 seen[k.toNat] (List.getElem_mem hk')
          rw [h4] at this; cases this
      refine ⟨ih.len, fun j => ?_, fun x hx => ih.keep x (by simp [hx]), fun x hx => ?_, fun x hx => ?_, ?_⟩
      · rw [ih.sn, getD_set_b _ _ _ hk']
        constructor
        · rintro ((h | h) | h)
          · exact .inl h
          · right; subst h; simp [hkk]
          · exact .inr (by simp [h])
        · rintro (h | h)
          · exact .inl (.inl h)
          · rcases List.mem_cons.1 h with h | h
            · left; right; omega
            · exact .inr h
      · rcases ih.from' x hx with h | h
        · rcases List.mem_append.1 h with h | h
          · exact .inl h
          · right; simp at h; simp [h]
        · exact .inr (by simp [h])
      · rcases List.mem_cons.1 hx with rfl | h
        · right; exact ih.keep _ (by simp)
        · rcases ih.new x h with h1 | h1
          · rw [getD_set_b _ _ _ hk'] at h1
            rcases h1 with h1 | h1
            · exact .inl h1
            · right
              have hx2 := hr x (by simp [h])
              have : x = k := by omega
              subst this; exact ih.keep _ (by simp)
          · exact .inr h1
      · rw [ih.meas, count_set_b _ _ hk' hs]
        simp; omega
/-! the program's -/
theorem app26 : App1 E 26 3 := .of (by kernel_rfl) (by kernel_rfl) (by kernel_rfl)
theorem app43 : App1 E 43 4 := .of (by kernel_rfl) (by kernel_rfl) (by kernel_rfl)
variable {N : Nat} {s : SL} {l : List Int} {ss : List SL} {ll : List (List Int)} {B : Nat} {h0 : Heap}
/-- the state of the search -/
structure Bst (B : Nat) (h0 h : Heap) (sv wv : SL) (seen : List Bool) (work : List Int) : Prop where
  k : Keep B h0 h
  b0 : B ≤ h0.next
  s : Own1 B h sv (seen.map AV.bool)
  w : Own1 B h wv (work.map (AV.int .i64))
  ne : ∀ A, sv.blk = some A → wv.blk ≠ some A
theorem inner (hs : Ints h0 s l) (hu : s.under B) (hl : l.length ≤ 1000) (v0 : SL) {sv : SL} {n : Nat} (hn : n ≤ 1000) (hin : ∀ x ∈ l, 0 ≤ x ∧ x < n) : ∀ (M i : Nat) (h : Heap) (wv : SL) (seen : List Bool) (work : List Int), i ≤ l.length → l.length - i < M → Bst B h0 h sv wv seen work → seen.length = n → work.length + (l.length - i) ≤ 90000 →
    ∃ wv' h', f39_l2 N M v0 sv wv s (l.length : Int) i h = some (.exit 2, (v0, sv, wv', ()), h') ∧ Bst B h0 h' sv wv' ((l.drop i).foldl bstep (seen, work)).1 ((l.drop i).foldl bstep (seen, work)).2 := by
  intro M
  induction M with
  | zero => intro i h wv seen work h1 h2; omega
  | succ M ih =>
    intro i h wv seen work h1 h2 hb hsl hwl
    rw [f39_l2_succ]
    unfold f39_l2_b
    by_cases hi : i < l.length
    · have ew : wrapA .i64 ((i : Int) + 1) = ((i + 1 : Nat) : Int) := wrapA_small (by omega) (by omega)
      have hd : l.drop i = l[i] :: l.drop (i + 1) := List.drop_eq_getElem_cons hi
      have hg : l.getD i 0 = l[i] := by simp [hi]
      have hx := hin l[i] (List.getElem_mem hi)
      have hs' : Ints h s l := One.keep hb.k hu hs
      have hso := hb.s.one
      have hwo := hb.w
      rw [hs'.int (x := (i : Int)) (by omega) (by omega), hd]
      simp only [Int.toNat_natCast, hg, List.foldl_cons]
      rw [hso.bool (x := l[i]) (by omega) (by omega)]
      simp only [ltInt_dec, Int.ofNat_lt, hi, decide_true, cond_true, ew]
      cases hsn : seen.getD l[i].toNat false with
      | true =>
        have hbs : bstep (seen, work) l[i] = (seen, work) := by simp only [bstep, hsn, if_true]
        simp only [Bool.not_true, cond_false, hbs]
        exact ih (i + 1) h wv seen work (by omega) (by omega) hb hsl (by omega)
      | false =>
        have hbs : bstep (seen, work) l[i] = (seen.set l[i].toNat true, work ++ [l[i]]) := by simp only [bstep, hsn]; rfl
        simp only [Bool.not_false, cond_true, hbs]
        obtain ⟨h1', e1, o1, b1, n1⟩ := store_own1 hb.s (i := l[i].toNat) (by simp; omega) (AV.bool true)
        have ow : Own1 B h1' wv (work.map (AV.int .i64)) := hb.w.but b1 (fun A hA e => hb.ne A e hA)
        have k1 : Keep B h h1' := b1.keep (Nat.le_trans hb.b0 hb.k.next) (fun A hA => (hb.s.ge A hA).1)
        obtain ⟨wv', h2', e2, o2, b2, c2⟩ := append_own1 app26 (v := AV.int .i64 l[i]) rfl ow (by have := hb.b0; have := hb.k.next; omega) (by simp; omega)
        have k2 : Keep B h1' h2' := b2.keep (by have := hb.b0; have := hb.k.next; omega) (fun A hA => (ow.ge A hA).1)
        have os : Own1 B h2' sv ((seen.set l[i].toNat true).map AV.bool) := by
          rw [List.map_set]
          exact o1.but b2 (fun A hA => hb.ne A hA)
        rw [hso.ixz (x := l[i]) (by omega) (by simp; omega), e1]
        simp only [need_some]
        rw [e2]
        simp only [bindT_some, cast_slice]
        refine ih (i + 1) h2' wv' _ _ (by omega) (by omega) ⟨hb.k.trans (k1.trans k2), hb.b0, os, by rw [List.map_append]; exact o2, ?_⟩ (by simpa using hsl) (by simp; omega)
        intro A hA e
        rcases c2 with c2 | ⟨A', c2, c3⟩
        · exact hb.ne A hA (c2 ▸ e)
        · rw [c2] at e; cases e
          have := (o1.ge A hA).2; omega
    · have : i = l.length := by omega
      subst this
      simp only [ltInt_dec, List.drop_length, List.foldl_nil]
      exact ⟨wv, h, by simp, hb⟩
structure Inv (ll : List (List Int)) (i : Int) (seen : List Bool) (work : List Int) : Prop where
  len : seen.length = ll.length
  a : ∀ k, seen.getD k false = true → Reach ll i (k : Int)
  b : ∀ x ∈ work, 0 ≤ x ∧ x < ll.length ∧ (x = i ∨ seen.getD x.toNat false = true)
  c : ∀ y, 0 ≤ y → (y = i ∨ seen.getD y.toNat false = true) → y ∈ work ∨ ∀ x ∈ ll.getD y.toNat [], seen.getD x.toNat false = true
theorem Inv.done {i : Int} {seen : List Bool} (hi : 0 ≤ i) (hf : Fine ll) (hv : Inv ll i seen []) : ∀ k, Reach ll i k → 0 ≤ k ∧ seen.getD k.toNat false = true := by
  have inr : ∀ y : Int, ∀ x ∈ ll.getD y.toNat [], 0 ≤ x := by
    intro y x hx
    rcases Nat.lt_or_ge y.toNat ll.length with h | h
    · exact (hf.inr _ h x hx).1
    · rw [List.getD_eq_getElem?_getD, List.getElem?_eq_none h] at hx; simp at hx
  intro k hk
  induction hk with
  | one h => exact ⟨inr _ _ h, by rcases hv.c i hi (.inl rfl) with h1 | h1
                                  · simp at h1
                                  · exact h1 _ h⟩
  | step _ h ih => exact ⟨inr _ _ h, by rcases hv.c _ ih.1 (.inr ih.2) with h1 | h1
                                        · simp at h1
                                        · exact h1 _ h⟩
theorem Inv.next {i : Int} {seen : List Bool} {work : List Int} {x : Int} (hf : Fine ll) (hv : Inv ll i seen (work ++ [x])) :
    Inv ll i ((ll.getD x.toNat []).foldl bstep (seen, work)).1 ((ll.getD x.toNat []).foldl bstep (seen, work)).2 := by
  have hx := hv.b x (by simp)
  have hxl : x.toNat < ll.length := by omega
  have hin := hf.inr x.toNat hxl
  have fo := fold_spec (n := ll.length) (ll.getD x.toNat []) seen work hv.len hin
  have hreach : ∀ k ∈ ll.getD x.toNat [], Reach ll i k := by
    intro k hk
    rcases hx.2.2 with h | h
    · subst h; exact .one hk
    · have := hv.a x.toNat h
      rw [show ((x.toNat : Nat) : Int) = x by omega] at this
      exact .step this hk
  refine ⟨fo.len, fun k hk => ?_, fun y hy => ?_, fun y hy0 hy => ?_⟩
  · rcases (fo.sn k).1 hk with h | h
    · exact hv.a k h
    · exact hreach k h
  · rcases fo.from' y hy with h | h
    · obtain ⟨h1, h2, h3⟩ := hv.b y (by simp [h])
      exact ⟨h1, h2, h3.imp id fun h4 => (fo.sn _).2 (.inl h4)⟩
    · obtain ⟨h1, h2⟩ := hin y h
      exact ⟨h1, h2, .inr ((fo.sn _).2 (.inr (by rw [show ((y.toNat : Nat) : Int) = y by omega]; exact h)))⟩
  · have old : (y = i ∨ seen.getD y.toNat false = true) → y ∈ ((ll.getD x.toNat []).foldl bstep (seen, work)).2 ∨ ∀ z ∈ ll.getD y.toNat [], ((ll.getD x.toNat []).foldl bstep (seen, work)).1.getD z.toNat false = true := by
      intro hold
      rcases hv.c y hy0 hold with h | h
      · rcases List.mem_append.1 h with h | h
        · exact .inl (fo.keep y h)
        · simp at h; subst h
          right
          intro z hz
          have := hin z hz
          exact (fo.sn _).2 (.inr (by rw [show ((z.toNat : Nat) : Int) = z by omega]; exact hz))
      · exact .inr fun z hz => (fo.sn _).2 (.inl (h z hz))
    rcases hy with h | h
    · exact old (.inl h)
    · rcases (fo.sn _).1 h with h1 | h1
      · exact old (.inr h1)
      · rw [show ((y.toNat : Nat) : Int) = y by omega] at h1
        rcases fo.new y h1 with h2 | h2
        · exact old (.inr h2)
        · exact .inl h2
end Go.Proofs.Ythpplekbeecdfaa.Gb

open Go Go.Proofs.Ythpplekbeecdfaa.Ai Go.Proofs
namespace Go.Proofs.Ythpplekbeecdfaa.Gb
variable {N : Nat} {s : SL} {l : List Int} {ss : List SL} {ll : List (List Int)} {B : Nat} {h0 : Heap}
/-- rows that lie below 'B' -/
structure RowsB (B : Nat) (h : Heap) (s : SL) (ss : List SL) (ll : List (List Int)) : Prop where
  r : Rows h s ss ll
  u : s.under B
  ru : ∀ i, i < ll.length → (ss.getD i nilS).under B
theorem RowsB.keep {h h' : Heap} (hk : Keep B h h') (hr : RowsB B h s ss ll) : RowsB B h' s ss ll :=
  ⟨⟨hr.r.top.keep hk hr.u, hr.r.len, fun i hi => One.keep hk (hr.ru i hi) (hr.r.row i hi)⟩, hr.u, hr.ru⟩
theorem Bst.front {h : Heap} {sv wv : SL} {seen : List Bool} {wk : List Int} {x : Int} (hb : Bst B h0 h sv wv seen (wk ++ [x])) :
    ∃ wv', sliceA E h 26 (.slice wv.a wv.len wv.cap wv.sz) none (some (.int .i64 (wk.length : Int))) = some (.slice wv'.a wv'.len wv'.cap wv'.sz) ∧ Bst B h0 h sv wv' seen wk := by
  obtain ⟨wv', e1, o1, c1⟩ := front_own1 app26 hb.w (n := wk.length) (by simp)
  refine ⟨wv', e1, hb.k, hb.b0, hb.s, ?_, fun A hA => by rw [c1]; exact hb.ne A hA⟩
  rw [List.map_append, List.take_left' (by simp)] at o1
  exact o1
theorem outer (hr : RowsB B h0 s ss ll) (hf : Fine ll) (hN : 1000 ≤ N) {i : Int} {sv : SL} : ∀ (M : Nat) (h : Heap) (wv : SL) (seen : List Bool) (work : List Int), work.length + (ll.length - seen.count true) < M → work.length + (ll.length - seen.count true) ≤ 200 → Bst B h0 h sv wv seen work → Inv ll i seen work →
    ∃ wv' h' seen', f39_l1 N M s sv wv h = some (.exit 0, (sv, ()), h') ∧ Bst B h0 h' sv wv' seen' [] ∧ Inv ll i seen' [] := by
  intro M
  induction M with
  | zero => intro h wv seen work h1; omega
  | succ M ih =>
    intro h wv seen work h1 h2 hb hv
    rw [f39_l1_succ]
    unfold f39_l1_b
    have hwl := hb.w.len
    rw [List.length_map] at hwl
    rcases List.eq_nil_or_concat work with rfl | ⟨wk, x, rfl⟩
    · refine ⟨wv, h, seen, ?_, hb, hv⟩
      simp [ltInt_dec, hwl]
    · simp only [List.concat_eq_append] at *
      rw [List.length_append, List.length_singleton] at hwl h1 h2
      have hx := hv.b x (by simp)
      have hxl : x.toNat < ll.length := by omega
      have ew : wrapA .i64 (((wk.length + 1 : Nat) : Int) - 1) = (wk.length : Int) := by
        rw [wrapA_small (by omega) (by omega)]; omega
      obtain ⟨wv1, e1, hb1⟩ := hb.front
      have hrk := hr.keep hb.k
      have fo := fold_spec (n := ll.length) (ll.getD x.toNat []) seen wk hv.len (hf.inr x.toNat hxl)
      have hrl := hf.row x.toNat hxl
      obtain ⟨wv2, h2', e2, hb2⟩ := inner (N := N) (B := B) (h0 := h0) (hr.r.row x.toNat hxl) (hr.ru x.toNat hxl) (by omega) s (sv := sv) (n := ll.length) (by have := hf.len; omega) (hf.inr x.toNat hxl) N 0 h wv1 seen wk (by omega) (by omega) hb1 hv.len (by omega)
      simp only [List.drop_zero, Int.ofNat_zero] at e2 hb2
      obtain ⟨wv3, h3, seen3, e3, hb3, hv3⟩ := ih h2' wv2 _ _ (by rw [fo.meas]; omega) (by rw [fo.meas]; omega) hb2 (Inv.next hf hv)
      refine ⟨wv3, h3, seen3, ?_, hb3, hv3⟩
      simp only [hwl, Int.ofNat_eq_natCast, ew, ltInt_dec, show (0 : Int) < ((wk.length + 1 : Nat) : Int) by omega, decide_true, cond_true]
      have hwi : Ints h wv (wk ++ [x]) := hb.w.one
      have hgx : (wk ++ [x]).getD wk.length 0 = x := by simp
      have hi1 := hwi.int (β := Out × (SL × Unit) × Heap) (x := (wk.length : Int)) (by omega) (by simp; omega)
      rw [hwl] at hi1 e1
      rw [hi1]
      simp only [Int.toNat_natCast, hgx, e1, bindV_some, cast_slice]
      rw [hrk.r.top.sl (x := x) hx.1 (by rw [hrk.r.len]; omega)]
      rw [Ints.len (hrk.r.row x.toNat hxl), e2]
      simp only [bind3_some]
      exact e3

theorem count_rep (n : Nat) : (List.replicate n false).count true = 0 := by
  rw [List.count_replicate]; simp
/-- the search -/
theorem below_spec {h : Heap} (hr : RowsB h.next h s ss ll) (hf : Fine ll) (hN : 1000 ≤ N) {i : Int} (hi0 : 0 ≤ i) (hi1 : i < ll.length) :
    ∃ (s' : SL) (h' : Heap) (seen : List Bool), f39 N s i h = some (s', h') ∧ Keep h.next h h' ∧ Own1 h.next h' s' (seen.map AV.bool) ∧ seen.length = ll.length ∧ ∀ k : Nat, k < ll.length → (seen.getD k false = true ↔ Reach ll i (k : Int)) := by
  have hlen := hf.len
  obtain ⟨m1, m2⟩ := make1 app43 (.bool false) (by kernel_rfl) rfl ll.length (by omega) h
  have hb : Bst h.next h ((h.push (.row (List.replicate ll.length (.bool false)) .own)).push (.row [.int .i64 i] .own)) ⟨some (h.next, 0), ll.length, ll.length, 1⟩ ⟨some (h.next + 1, 0), 1, 1, 1⟩ (List.replicate ll.length false) [i] := by
    refine ⟨((Keep.refl _ _).push (Nat.le_refl _) _).push (Nat.le_refl _) _, Nat.le_refl _, ?_, ?_, ?_⟩
    · rw [List.map_replicate]; exact m2.push _
    · exact .inr ⟨h.next + 1, [.int .i64 i], .own, rfl, rfl, by omega, by simp, g_push_eq _ rfl, rfl, by simp, by simp, by simp, .inr ⟨rfl, rfl⟩⟩
    · intro A hA e
      simp [SL.blk] at hA e; omega
  have hv : Inv ll i (List.replicate ll.length false) [i] := by
    have hno : ∀ k, (List.replicate ll.length false).getD k false = false := by
      intro k
      simp [List.getD_eq_getElem?_getD, List.getElem?_replicate]
      split <;> rfl
    refine ⟨by simp, fun k hk => ?_, fun x hx => ?_, fun y hy0 hy => ?_⟩
    · rw [hno] at hk; cases hk
    · simp at hx; subst hx; exact ⟨hi0, hi1, .inl rfl⟩
    · rcases hy with rfl | hy
      · simp
      · rw [hno] at hy; cases hy
  obtain ⟨wv', h', seen', e, hb', hv'⟩ := outer (N := N) hr hf hN (i := i) N _ _ _ _ (by rw [count_rep]; simp; omega) (by rw [count_rep]; simp; omega) hb hv
  refine ⟨_, h', seen', ?_, hb'.k, hb'.s, hv'.len, fun k hk => ⟨hv'.a k, fun hx => ?_⟩⟩
  · unfold f39
    simp only [hr.r.slen, Int.ofNat_eq_natCast, m1, bindT_some, cast_slice, Heap.push_next, e, bind3_some]
  · simpa using (hv'.done hi0 hf k hx).2
/-- what is asked of a list of what is needed -/
def belowL (seen : List Bool) : Nat → List Int
  | 0 => []
  | n + 1 => belowL seen n ++ (if seen.getD n false then [(n : Int)] else [])
theorem belowL_mem (seen : List Bool) : ∀ (n : Nat) (x : Int), x ∈ belowL seen n ↔ 0 ≤ x ∧ x < n ∧ seen.getD x.toNat false = true
  | 0, x => by simp [belowL]; omega
  | n + 1, x => by
    simp only [belowL, List.mem_append, belowL_mem seen n x]
    by_cases hs : seen.getD n false = true
    · simp only [hs, if_true, List.mem_singleton]
      constructor
      · rintro (⟨h1, h2, h3⟩ | rfl)
        · exact ⟨h1, by omega, h3⟩
        · exact ⟨by omega, by omega, by simpa using hs⟩
      · rintro ⟨h1, h2, h3⟩
        by_cases he : x = n
        · exact .inr he
        · exact .inl ⟨h1, by omega, h3⟩
    · simp only [hs, if_false]
      constructor
      · rintro (⟨h1, h2, h3⟩ | h)
        · exact ⟨h1, by omega, h3⟩
        · simp at h
      · rintro ⟨h1, h2, h3⟩
        left
        refine ⟨h1, ?_, h3⟩
        by_cases he : x = n
        · subst he; simp at h3; exact absurd (by simpa using h3) hs
        · omega
theorem belowL_len (seen : List Bool) : ∀ n, (belowL seen n).length ≤ n
  | 0 => by simp [belowL]
  | n + 1 => by have := belowL_len seen n; simp only [belowL, List.length_append]; split <;> simp <;> omega
theorem belowL_sorted (seen : List Bool) : ∀ n, (belowL seen n).Pairwise (· < ·)
  | 0 => List.Pairwise.nil
  | n + 1 => by
    simp only [belowL]
    rw [List.pairwise_append]
    refine ⟨belowL_sorted seen n, by split <;> simp, fun a ha b hb => ?_⟩
    have h1 := ((belowL_mem seen n a).1 ha).2.1
    split at hb
    · simp at hb; omega
    · simp at hb
theorem list_loop {s' : SL} {seen : List Bool} (hn : seen.length ≤ 100) : ∀ (M i : Nat) (h : Heap) (ov : SL), i ≤ seen.length → seen.length - i < M → Keep B h0 h → B ≤ h0.next → Own1 B h s' (seen.map AV.bool) → Own1 B h ov ((belowL seen i).map (AV.int .i64)) → (∀ A, s'.blk = some A → ov.blk ≠ some A) →
    ∃ ov' h', f12_l1 N M ov s' (seen.length : Int) i h = some (.exit 0, (ov', ()), h') ∧ Keep B h0 h' ∧ Own1 B h' ov' ((belowL seen seen.length).map (AV.int .i64)) := by
  intro M
  induction M with
  | zero => intro i h ov h1 h2; omega
  | succ M ih =>
    intro i h ov h1 h2 hk hb0 hs ho hne
    rw [f12_l1_succ]
    unfold f12_l1_b
    by_cases hi : i < seen.length
    · have ew : wrapA .i64 ((i : Int) + 1) = ((i + 1 : Nat) : Int) := wrapA_small (by omega) (by omega)
      simp only [ltInt_dec, Int.ofNat_lt, hi, decide_true, cond_true, ew]
      rw [hs.one.bool (x := (i : Int)) (by omega) (by omega)]
      simp only [Int.toNat_natCast]
      cases hsn : seen.getD i false with
      | true =>
        have hbl : belowL seen (i + 1) = belowL seen i ++ [(i : Int)] := by simp only [belowL, hsn, if_true]
        have := belowL_len seen i
        have hnx := hk.next
        obtain ⟨ov', h2', e2, o2, b2, c2⟩ := append_own1 app26 (v := AV.int .i64 (i : Int)) rfl ho (by omega) (by simp; omega)
        simp only [cond_true]
        rw [e2]
        simp only [bindT_some, cast_slice]
        refine ih (i + 1) h2' ov' (by omega) (by omega) (hk.trans (b2.keep (by omega) (fun A hA => (ho.ge A hA).1))) hb0 (hs.but b2 hne) (by rw [hbl, List.map_append]; exact o2) ?_
        intro A hA e
        rcases c2 with c2 | ⟨A', c2, c3⟩
        · exact hne A hA (c2 ▸ e)
        · rw [c2] at e; cases e
          have := (hs.ge A hA).2; omega
      | false =>
        have hbl : belowL seen (i + 1) = belowL seen i := by simp only [belowL, hsn]; simp
        simp only [cond_false]
        exact ih (i + 1) h ov (by omega) (by omega) hk hb0 hs (by rw [hbl]; exact ho) hne
    · have : i = seen.length := by omega
      subst this
      exact ⟨ov, h, by simp [ltInt_dec], hk, ho⟩
theorem nn9 : binA E .neq 32 (.tmp 9) (.const .nilIface) AV.nilIface AV.nilIface = some (.bool false) := by kernel_rfl
/-- all that a thing needs -/
theorem Below_spec {h : Heap} (hr : RowsB h.next h s ss ll) (hf : Fine ll) (hN : 1000 ≤ N) {i : Int} (hi0 : 0 ≤ i) (hi1 : i < ll.length) :
    ∃ (s' : SL) (h' : Heap) (l : List Int), f12 N s i h = some (s', h') ∧ Keep h.next h h' ∧ Own1 h.next h' s' (l.map (AV.int .i64)) ∧ l.length ≤ 64 ∧ l.Pairwise (· < ·) ∧ ∀ x, x ∈ l ↔ (0 ≤ x ∧ x < ll.length ∧ Reach ll i x) := by
  obtain ⟨s1, h1, seen, e1, k1, o1, hl, hs⟩ := below_spec (N := N) hr hf hN hi0 hi1
  have hlen := hf.len
  obtain ⟨ov, h2, e2, k2, o2⟩ := list_loop (N := N) (B := h.next) (h0 := h) (seen := seen) (s' := s1) (by omega) N 0 h1 nilS (by omega) (by omega) k1 (Nat.le_refl _) o1 (Own1.nil _ _ _) (by simp [SL.blk])
  have hsl := o1.len
  rw [List.length_map] at hsl
  refine ⟨ov, h2, belowL seen seen.length, ?_, k2, o2, by have := belowL_len seen seen.length; omega, belowL_sorted _ _, fun x => ?_⟩
  · unfold f12
    have e2' : f12_l1 N N ⟨none, 0, 0, 0⟩ s1 (seen.length : Int) 0 h1 = some (.exit 0, (ov, ()), h2) := e2
    simp only [may_spec (N := N) hr.r hf (by omega), bind2_some, nn9, bindV_some, cast_bool, cond_false, ltInt_dec, leInt_dec, hr.r.slen, Int.ofNat_eq_natCast, show ¬ i < 0 by omega, show ¬ (ll.length : Int) ≤ i by omega, decide_false, e1, hsl]
    rw [e2']
    rfl
  · rw [belowL_mem]
    constructor
    · rintro ⟨h1, h2, h3⟩
      refine ⟨h1, by omega, ?_⟩
      have := (hs x.toNat (by omega)).1 h3
      rwa [show ((x.toNat : Nat) : Int) = x by omega] at this
    · rintro ⟨h1, h2, h3⟩
      refine ⟨h1, by omega, (hs x.toNat (by omega)).2 (by rwa [show ((x.toNat : Nat) : Int) = x by omega])⟩
end Go.Proofs.Ythpplekbeecdfaa.Gb

open Go Go.Proofs.Ythpplekbeecdfaa.Ai Go.Proofs
namespace Go.Proofs.Ythpplekbeecdfaa.Gb
theorem wrap_u64 (x : Int) : ∃ n : Nat, wrapA .u64 x = (n : Int) ∧ n < 18446744073709551616 := by
  cases x with
  | ofNat a => exact ⟨a % 18446744073709551616, rfl, Nat.mod_lt _ (by decide)⟩
  | negSucc a => exact ⟨18446744073709551616 - 1 - a % 18446744073709551616, rfl, by omega⟩
def conv (m : Nat) (x : Int) : Int := (wrapA .u64 x).tmod m
theorem conv_in {m : Nat} (hm : 0 < m) (x : Int) : 0 ≤ conv m x ∧ conv m x < m := by
  obtain ⟨n, h1, _⟩ := wrap_u64 x
  unfold conv
  rw [h1, Int.tmod_eq_emod_of_nonneg (by omega)]
  exact ⟨Int.emod_nonneg _ (by omega), Int.emod_lt_of_pos _ (by omega)⟩
theorem wrap_small (k : Nat) (h : k < 1000) : wrapA .u64 (k : Int) = k := by
  show wrapN .u64 (k % 18446744073709551616) = _
  rw [Nat.mod_eq_of_lt (by omega)]; rfl
theorem rem_conv {m : Nat} (hm : 0 < m) (h1 : m < 1000) (x : Int) : binInt .rem .u64 (wrapA .u64 x) (m : Int) = some (.int .u64 (conv m x)) ∧ wrapA .i64 (conv m x) = conv m x := by
  have hc := conv_in hm x
  refine ⟨?_, wrapA_small (by omega) (by omega)⟩
  have : eqInt (m : Int) 0 = false := by
    obtain ⟨k, rfl⟩ : ∃ k, m = k + 1 := ⟨m - 1, by omega⟩
    rfl
  simp only [binInt, this, cond_false, conv]
variable {N : Nat} {s : SL} {ss : List SL} {ll : List (List Int)} {B : Nat} {h0 : Heap}
def mOf (ll : List (List Int)) : Nat := min ll.length 70
theorem min_eq (n : Nat) : (bif ltInt 70 (n : Int) then (70 : Int) else (n : Int)) = ((min n 70 : Nat) : Int) := by
  rw [ltInt_dec]
  by_cases h : (70 : Int) < n
  · simp [h]; omega
  · simp [h]; omega
/-- a row, its numbers taken into the range -/
theorem fit_row (hr : RowsB B h0 s ss ll) {i : Nat} (hi : i < ll.length) (hi70 : i < 70) (hl : (ll.getD i []).length ≤ 70) (hb0 : B ≤ h0.next) (v4 v5 : _) (v6 : SL) : ∀ (M k : Nat) (h : Heap) (rv : SL), k ≤ (ll.getD i []).length → (ll.getD i []).length - k < M → Keep B h0 h → Own1 B h rv ((((ll.getD i []).take k).map (conv (mOf ll))).map (AV.int .i64)) →
    ∃ rv' h', f10_l2 N M s false v4 v5 v6 (i : Int) rv (k : Int) h = some (.exit 2, (s, false, v4, v5, v6, (i : Int), rv', ()), h') ∧ Keep B h0 h' ∧ Own1 B h' rv' (((ll.getD i []).map (conv (mOf ll))).map (AV.int .i64)) ∧ But rv.blk h h' ∧ (rv'.blk = rv.blk ∨ ∃ A, rv'.blk = some A ∧ h.next ≤ A) := by
  intro M
  induction M with
  | zero => intro k h rv h1 h2; omega
  | succ M ih =>
    intro k h rv h1 h2 hk ho
    rw [f10_l2_succ]
    unfold f10_l2_b
    have hrk := hr.keep hk
    have hrow := hrk.r.row i hi
    have hnx := hk.next
    simp only [hrk.r.slen]
    have ht := hrk.r.top.sl (β := Out × (SL × Bool × SL × Bool × SL × Int × SL × Unit) × Heap) (x := (i : Int)) (by omega) (by rw [hrk.r.len]; omega)
    rw [hrk.r.slen] at ht
    rw [ht]
    simp only [Int.toNat_natCast, Ints.len hrow]
    by_cases hkl : k < (ll.getD i []).length
    · have ew : wrapA .i64 ((k : Int) + 1) = ((k + 1 : Nat) : Int) := wrapA_small (by omega) (by omega)
      have hg : (ll.getD i []).getD k 0 = (ll.getD i [])[k] := getD_lt _ _ hkl
      have htk : (ll.getD i []).take (k + 1) = (ll.getD i []).take k ++ [(ll.getD i [])[k]] := List.take_succ_eq_append_getElem hkl
      have hmin : mOf ll < 1000 := by unfold mOf; omega
      have hm0 : 0 < mOf ll := by unfold mOf; omega
      obtain ⟨r1, r2⟩ := rem_conv hm0 hmin (ll.getD i [])[k]
      obtain ⟨rv1, h2', e2, o2, b2, c2⟩ := append_own1 app26 (v := AV.int .i64 (conv (mOf ll) (ll.getD i [])[k])) rfl ho (by omega) (by simp; omega)
      have k2 : Keep B h h2' := b2.keep (by omega) (fun A hA => (ho.ge A hA).1)
      obtain ⟨rv', h', e3, k3, o3, b3, c3⟩ := ih (k + 1) h2' rv1 (by omega) (by omega) (hk.trans k2) (by rw [htk, List.map_append, List.map_append]; exact o2)
      refine ⟨rv', h', ?_, k3, o3, b2.step c2 b3, ?_⟩
      · rw [ht]
        simp only [ltInt_dec, Int.ofNat_eq_natCast, Int.ofNat_lt, hkl, decide_true, cond_true, Int.toNat_natCast]
        have hi2 := hrow.int (β := Out × (SL × Bool × SL × Bool × SL × Int × SL × Unit) × Heap) (x := (k : Int)) (by omega) (by omega)
        rw [Ints.len hrow] at hi2 ⊢
        rw [hi2]
        have hmn : (bif decide ((70 : Int) < (ll.length : Int)) then (70 : Int) else (ll.length : Int)) = ((mOf ll : Nat) : Int) := by
          have := min_eq ll.length
          rw [ltInt_dec] at this
          exact this
        simp only [Int.toNat_natCast, hg, Bool.not_false, cond_true, hmn, wrap_small _ hmin, r1, bindV_some, cast_int, r2]
        rw [e2]
        simp only [bindT_some, cast_slice, ew]
        exact e3
      · rcases c3 with c3 | ⟨A, c3, c4⟩
        · rw [c3]; exact c2
        · exact .inr ⟨A, c3, by have := b2.next; omega⟩
    · have : k = (ll.getD i []).length := by omega
      subst this
      rw [List.take_length] at ho
      refine ⟨rv, h, ?_, hk, ho, But.refl _ _, .inl rfl⟩
      simp [ltInt_dec]

/-- rows of one's own -/
structure Fst (B : Nat) (h0 h : Heap) (ov : SL) (ss : List SL) (ll : List (List Int)) : Prop where
  k : Keep B h0 h
  o : Own1 B h ov (ss.map SL.av)
  len : ss.length = ll.length
  row : ∀ i, i < ll.length → Own1 B h (ss.getD i nilS) ((ll.getD i []).map (AV.int .i64)) ∧ ∀ A, (ss.getD i nilS).blk = some A → ov.blk ≠ some A
theorem app22 : App1 E 22 26 := .of (by kernel_rfl) (by kernel_rfl) (by kernel_rfl)
def fitL (ll : List (List Int)) (k : Nat) : List (List Int) := (ll.take k).map fun r => r.map (conv (mOf ll))
theorem fitL_succ {k : Nat} (hk : k < ll.length) : fitL ll (k + 1) = fitL ll k ++ [(ll.getD k []).map (conv (mOf ll))] := by
  unfold fitL
  rw [List.take_succ_eq_append_getElem hk, List.map_append, getD_lt _ _ hk]; rfl
theorem fitL_len {k : Nat} (hk : k ≤ ll.length) : (fitL ll k).length = k := by simp [fitL]; omega
theorem getD_append_l {α : Type} (l r : List α) (d : α) {n : Nat} (h : n < l.length) : (l ++ r).getD n d = l.getD n d := by
  rw [List.getD_eq_getElem?_getD, List.getElem?_append_left h, ← List.getD_eq_getElem?_getD]
theorem getD_append_r {α : Type} (l : List α) (x d : α) {n : Nat} (h : n = l.length) : (l ++ [x]).getD n d = x := by
  subst h; simp [List.getD_eq_getElem?_getD]
theorem fit_loop (hr : RowsB B h0 s ss ll) (hN : 1000 ≤ N) (hb0 : B ≤ h0.next) (v4 : SL) (v5 : Bool) : ∀ (M k : Nat) (h : Heap) (ov : SL) (ss' : List SL), k ≤ ll.length → k ≤ 70 → 70 - k < M → (∀ i, i < k → (ll.getD i []).length ≤ 70) → Fst B h0 h ov ss' (fitL ll k) →
    (∃ ov' h' ss', f10_l1 N M s false v4 v5 ov (k : Int) h = some (.exit 0, (v4, v5, ov', ()), h') ∧ Fst B h0 h' ov' ss' (fitL ll (mOf ll)) ∧ ∀ i, i < mOf ll → (ll.getD i []).length ≤ 70) ∨
    (∃ ov' h', f10_l1 N M s false v4 v5 ov (k : Int) h = some (.ret, (nilS, false, ov', ()), h')) := by
  intro M
  induction M with
  | zero => intro k h ov ss' h1 h2 h3; omega
  | succ M ih =>
    intro k h ov ss' h1 h2 h3 h4 hf
    rw [f10_l1_succ]
    unfold f10_l1_b
    have hrk := hr.keep hf.k
    have hnx := hf.k.next
    by_cases hkl : k < ll.length ∧ k < 70
    · obtain ⟨hkl, hk70⟩ := hkl
      have hrow := hrk.r.row k hkl
      have ht := hrk.r.top.sl (β := Out × (SL × Bool × SL × Unit) × Heap) (x := (k : Int)) (by omega) (by rw [hrk.r.len]; omega)
      have ew : wrapA .i64 ((k : Int) + 1) = ((k + 1 : Nat) : Int) := wrapA_small (by omega) (by omega)
      simp only [hrk.r.slen] at ht ⊢
      simp only [ltInt_dec, Int.ofNat_eq_natCast, Int.ofNat_lt, hkl, show (k : Int) < 70 by omega, decide_true, cond_true]
      rw [ht]
      simp only [Int.toNat_natCast, Ints.len hrow]
      by_cases hl : (ll.getD k []).length ≤ 70
      · simp only [show ¬ (70 : Int) < ((ll.getD k []).length : Int) by omega, decide_false, cond_false]
        obtain ⟨rv, h', e1, k1, o1, b1, c1⟩ := fit_row (N := N) hr hkl hk70 hl hb0 v4 v5 ov N 0 h nilS (by omega) (by omega) hf.k (by simpa using Own1.nil B h 0)
        simp only [Int.ofNat_zero] at e1
        have ov1 : Own1 B h' ov (ss'.map SL.av) := hf.o.but b1 (fun A hA => by simp [SL.blk])
        have hsl := hf.o.len
        rw [List.length_map, hf.len, fitL_len (by omega)] at hsl
        have hs'l : ss'.length = k := by rw [hf.len, fitL_len (by omega)]
        have hnx1 := b1.next
        obtain ⟨ov', h2', e2, o2, b2, c2⟩ := append_own1 app22 (v := SL.av rv) rfl ov1 (by omega) (by rw [List.length_map]; omega)
        have k2 : Keep B h' h2' := b2.keep (by omega) (fun A hA => (ov1.ge A hA).1)
        have hrvn : ∀ A, rv.blk = some A → h.next ≤ A := by
          intro A hA
          rcases c1 with c1 | ⟨A', c1, c3⟩
          · rw [c1] at hA; simp [SL.blk] at hA
          · rw [c1] at hA; cases hA; exact c3
        have hf' : Fst B h0 h2' ov' (ss' ++ [rv]) (fitL ll (k + 1)) := by
          refine ⟨k1.trans k2, by rw [List.map_append]; exact o2, by simp [hs'l, fitL_len (show k + 1 ≤ ll.length by omega)], fun i hi => ?_⟩
          rw [fitL_len (by omega)] at hi
          rw [fitL_succ hkl]
          by_cases hik : i < k
          · rw [getD_append_l _ _ _ (by omega), getD_append_l _ _ _ (by rw [fitL_len (by omega)]; omega)]
            obtain ⟨q1, q2⟩ := hf.row i (by rw [fitL_len (by omega)]; omega)
            have q3 := q1.but b1 (fun A hA => by simp [SL.blk])
            refine ⟨q3.but b2 q2, fun A hA e => ?_⟩
            rcases c2 with c2 | ⟨A', c2, c3⟩
            · exact q2 A hA (c2 ▸ e)
            · rw [c2] at e; cases e
              have := (q3.ge A hA).2; omega
          · have : i = k := by omega
            subst this
            rw [getD_append_r _ _ _ hs'l.symm, getD_append_r _ _ _ (by rw [fitL_len (by omega)])]
            have hne : ∀ A, rv.blk = some A → ov.blk ≠ some A := by
              intro A hA e
              have h5 := hrvn A hA
              have h6 := (hf.o.ge A e).2
              omega
            refine ⟨o1.but b2 hne, fun A hA e => ?_⟩
            rcases c2 with c2 | ⟨A', c2, c3⟩
            · exact hne A hA (c2 ▸ e)
            · rw [c2] at e; cases e
              have := (o1.ge A hA).2; omega
        have e1' : f10_l2 N N s false v4 v5 ov (k : Int) ⟨none, 0, 0, 0⟩ 0 h = some (.exit 2, (s, false, v4, v5, ov, (k : Int), rv, ()), h') := e1
        rw [e1']
        simp only [bind3_some]
        have e2' : appendA E 22 22 (.slice ov.a ov.len ov.cap ov.sz) (.slice (some (h'.next, 0)) 1 1 1) (h'.push (.row [.slice rv.a rv.len rv.cap rv.sz] .own)) = some (.slice ov'.a ov'.len ov'.cap ov'.sz, h2') := e2
        rw [e2']
        simp only [bindT_some, cast_slice, ew]
        exact ih (k + 1) h2' ov' (ss' ++ [rv]) (by omega) (by omega) (by omega) (fun i hi => by
          by_cases hik : i < k
          · exact h4 i hik
          · have : i = k := by omega
            subst this; exact hl) hf'
      · simp only [show (70 : Int) < ((ll.getD k []).length : Int) by omega, decide_true, cond_true]
        exact .inr ⟨ov, h, rfl⟩
    · have hk : k = mOf ll := by unfold mOf; omega
      left
      refine ⟨ov, h, ss', ?_, hk ▸ hf, fun i hi => h4 i (by omega)⟩
      simp only [hrk.r.slen, ltInt_dec, Int.ofNat_eq_natCast, Int.ofNat_lt]
      by_cases hkl' : k < ll.length
      · have : ¬ (k : Int) < 70 := by omega
        simp [hkl', this]
      · simp [hkl']
/-- needs, taken into the range -/
theorem fit_spec {h : Heap} (hr : RowsB h.next h s ss ll) (hN : 1000 ≤ N) :
    (∃ s' h' ss', f10 N s false h = some ((s', true, ()), h') ∧ Keep h.next h h' ∧ RowsB h'.next h' s' ss' (fitL ll (mOf ll)) ∧ ∀ i, i < mOf ll → (ll.getD i []).length ≤ 70) ∨
    (∃ s' h', f10 N s false h = some ((s', false, ()), h')) := by
  rcases fit_loop (N := N) hr hN (Nat.le_refl _) nilS false N 0 h nilS [] (by omega) (by omega) (by omega) (fun i hi => by omega) ⟨Keep.refl _ _, Own1.nil _ _ _, by simp [fitL], fun i hi => by simp [fitL] at hi⟩ with ⟨ov, h', ss', e, hf, hl⟩ | ⟨ov, h', e⟩
  · left
    simp only [Int.ofNat_zero] at e
    have e' : f10_l1 N N s false ⟨none, 0, 0, 0⟩ false ⟨none, 0, 0, 0⟩ 0 h = some (.exit 0, (⟨none, 0, 0, 0⟩, false, ov, ()), h') := e
    refine ⟨ov, h', ss', by unfold f10; rw [e']; simp, hf.k, ⟨⟨hf.o.one, hf.len, fun i hi => (hf.row i hi).1.one⟩, ?_, fun i hi => ?_⟩, hl⟩
    · exact hf.o.one.2.2.under
    · exact (hf.row i hi).1.one.2.2.under
  · right
    simp only [Int.ofNat_zero] at e
    have e' : f10_l1 N N s false ⟨none, 0, 0, 0⟩ false ⟨none, 0, 0, 0⟩ 0 h = some (.ret, (⟨none, 0, 0, 0⟩, false, ov, ()), h') := e
    exact ⟨⟨none, 0, 0, 0⟩, h', by unfold f10; rw [e']; simp⟩
end Go.Proofs.Ythpplekbeecdfaa.Gb

open Go Go.Proofs.Ythpplekbeecdfaa.Ai Go.Proofs
namespace Go.Proofs.Ythpplekbeecdfaa.Gb
variable {N : Nat} {s v5 v9 : SL} {ss : List SL} {d : List (List Int)} {l : List Int} {h : Heap}
theorem l1_spec (hr : Rows h v5 ss d) (hd : d.length ≤ 64) (v1 : Int) (v4 : Bool) : ∀ (M k : Nat), k ≤ d.length → d.length - k < M →
    (f3_l1 N M v1 v4 v5 (k : Int) h = some (.exit 0, (v1, v4, v5, ()), h) ∧ ∀ i, k ≤ i → i < d.length → (d.getD i []).length ≤ 64) ∨ f3_l1 N M v1 v4 v5 (k : Int) h = some (.ret, (v1, true, v5, ()), h) := by
  intro M
  induction M with
  | zero => intro k h1 h2; omega
  | succ M ih =>
    intro k h1 h2
    rw [f3_l1_succ]
    unfold f3_l1_b
    have ht := hr.top.sl (β := Out × (Int × Bool × SL × Unit) × Heap) (x := (k : Int)) (by omega)
    simp only [hr.slen] at ht ⊢
    by_cases hk : k < d.length
    · have ew : wrapA .i64 ((k : Int) + 1) = ((k + 1 : Nat) : Int) := wrapA_small (by omega) (by omega)
      have hrow := hr.row k hk
      simp only [ltInt_dec, Int.ofNat_eq_natCast, Int.ofNat_lt, hk, decide_true, cond_true]
      rw [ht (by rw [hr.len]; omega)]
      simp only [Int.toNat_natCast, Ints.len hrow]
      by_cases hl : (d.getD k []).length ≤ 64
      · simp only [show ¬ (64 : Int) < ((d.getD k []).length : Int) by omega, decide_false, cond_false, ew]
        rcases ih (k + 1) (by omega) (by omega) with ⟨e, h3⟩ | e
        · refine .inl ⟨e, fun i hi1 hi2 => ?_⟩
          by_cases hik : i = k
          · subst hik; exact hl
          · exact h3 i (by omega) hi2
        · exact .inr e
      · simp only [show (64 : Int) < ((d.getD k []).length : Int) by omega, decide_true, cond_true, f11, bind2_some]
        exact .inr trivial
    · have : k = d.length := by omega
      subst this
      left
      refine ⟨by simp [ltInt_dec], fun i h3 h4 => by omega⟩
/-- reading a row's number -/
theorem row_int {β : Type} (hr : Rows h v5 ss d) {y : Int} (h0 : 0 ≤ y) (h1 : y < d.length) (K : SL → Option β) : (ixK v5.a v5.len y 1 fun q => bindV (.val (.one .slice)) (h.cell q) K) = K (ss.getD y.toNat nilS) := hr.top.sl h0 (by rw [hr.len]; omega) K
theorem l2_spec (hr : Rows h v5 ss d) (hf : Fine d) (hl9 : Ints h v9 l) (hll : l.length ≤ 64) (hN : 1000001 ≤ N) {n : Int} (hn0 : 0 ≤ n) (hn1 : n < d.length) (hall : ∀ x ∈ d.getD n.toNat [], x ∈ l) (v4 : Bool) : ∀ (M k : Nat), k ≤ (d.getD n.toNat []).length → (d.getD n.toNat []).length - k < M →
    f3_l2 N M v4 v5 n v9 (k : Int) h = some (.exit 2, (v4, v5, n, v9, ()), h) := by
  intro M
  induction M with
  | zero => intro k h1 h2; omega
  | succ M ih =>
    intro k h1 h2
    rw [f3_l2_succ]
    unfold f3_l2_b
    have hnl : n.toNat < d.length := by omega
    have hrow := hr.row n.toNat hnl
    have hrl := hf.row n.toNat hnl
    rw [row_int hr hn0 hn1]
    simp only [Ints.len hrow]
    by_cases hk : k < (d.getD n.toNat []).length
    · have ew : wrapA .i64 ((k : Int) + 1) = ((k + 1 : Nat) : Int) := wrapA_small (by omega) (by omega)
      have hg := getD_lt (d.getD n.toNat []) 0 hk
      simp only [ltInt_dec, Int.ofNat_eq_natCast, Int.ofNat_lt, hk, decide_true, cond_true]
      rw [row_int hr hn0 hn1]
      rw [hrow.int (x := (k : Int)) (by omega) (by omega)]
      have hm := hall _ (List.getElem_mem hk)
      simp only [Int.toNat_natCast, hg, has_spec hl9 hN (by omega), bind2_some, hm, decide_true, Bool.not_true, cond_false, ew]
      exact ih (k + 1) (by omega) (by omega)
    · have : k = (d.getD n.toNat []).length := by omega
      subst this
      simp [ltInt_dec]
theorem l5_spec (hr : Rows h v5 ss d) (hf : Fine d) (hl9 : Ints h v9 l) (hll : l.length ≤ 64) (hN : 1000001 ≤ N) (hin : ∀ x ∈ l, 0 ≤ x ∧ x < d.length) {j : Nat} (hj : j < l.length) (hall : ∀ x ∈ d.getD l[j].toNat [], x ∈ l) (v4 : Bool) (v8 v11 : Int) (v12 : Bool) : ∀ (M k : Nat), k ≤ (d.getD l[j].toNat []).length → (d.getD l[j].toNat []).length - k < M →
    f3_l5 N M v4 v5 v8 v9 v11 v12 (j : Int) (k : Int) h = some (.exit 8, (v4, v5, v8, v9, v11, v12, (j : Int), ()), h) := by
  intro M
  induction M with
  | zero => intro k h1 h2; omega
  | succ M ih =>
    intro k h1 h2
    rw [f3_l5_succ]
    unfold f3_l5_b
    have hy := hin _ (List.getElem_mem hj)
    have hnl : l[j].toNat < d.length := by omega
    have hrow := hr.row l[j].toNat hnl
    have hrl := hf.row l[j].toNat hnl
    have hgj := getD_lt l 0 hj
    rw [hl9.int (x := (j : Int)) (by omega) (by omega)]
    simp only [Int.toNat_natCast, hgj]
    rw [row_int hr hy.1 hy.2]
    simp only [Ints.len hrow]
    by_cases hk : k < (d.getD l[j].toNat []).length
    · have ew : wrapA .i64 ((k : Int) + 1) = ((k + 1 : Nat) : Int) := wrapA_small (by omega) (by omega)
      have hg := getD_lt (d.getD l[j].toNat []) 0 hk
      simp only [ltInt_dec, Int.ofNat_eq_natCast, Int.ofNat_lt, hk, decide_true, cond_true]
      rw [hl9.int (x := (j : Int)) (by omega) (by omega)]
      simp only [Int.toNat_natCast, hgj]
      rw [row_int hr hy.1 hy.2, hrow.int (x := (k : Int)) (by omega) (by omega)]
      have hm := hall _ (List.getElem_mem hk)
      simp only [Int.toNat_natCast, hg, has_spec hl9 hN (by omega), bind2_some, hm, decide_true, Bool.not_true, cond_false, ew]
      exact ih (k + 1) (by omega) (by omega)
    · have : k = (d.getD l[j].toNat []).length := by omega
      subst this
      simp [ltInt_dec]
theorem l4_spec (hr : Rows h v5 ss d) (hf : Fine d) (hl9 : Ints h v9 l) (hll : l.length ≤ 64) (hN : 1000001 ≤ N) (hin : ∀ x ∈ l, 0 ≤ x ∧ x < d.length) {k : Nat} (hk : k < l.length) (hall : ∀ y ∈ l, ∀ x ∈ d.getD y.toNat [], x ∈ l) (v4 : Bool) (v8 : Int) : ∀ (M j : Nat) (v12 : Bool), j ≤ l.length → l.length - j < M →
    ∃ b : Bool, f3_l4 N M v4 v5 v8 v9 (k : Int) v12 (j : Int) h = some (.exit 6, (v4, v5, v8, v9, (k : Int), b, ()), h) ∧ (v12 = true → b = true) ∧ ((∃ i, ∃ hi : i < l.length, j ≤ i ∧ i ≠ k ∧ l[k] ∈ d.getD l[i].toNat []) → b = true) := by
  intro M
  induction M with
  | zero => intro j v12 h1 h2; omega
  | succ M ih =>
    intro j v12 h1 h2
    rw [f3_l4_succ]
    unfold f3_l4_b
    simp only [Ints.len hl9]
    by_cases hj : j < l.length
    · have ew : wrapA .i64 ((j : Int) + 1) = ((j + 1 : Nat) : Int) := wrapA_small (by omega) (by omega)
      have hy := hin _ (List.getElem_mem hj)
      have hnl : l[j].toNat < d.length := by omega
      have hrow := hr.row l[j].toNat hnl
      have hrl := hf.row l[j].toNat hnl
      have hgj := getD_lt l 0 hj
      have hgk := getD_lt l 0 hk
      have h5 : ∀ b, f3_l5 N N v4 v5 v8 v9 (k : Int) b (j : Int) 0 h = some (.exit 8, (v4, v5, v8, v9, (k : Int), b, (j : Int), ()), h) := fun b => by
        have := l5_spec (N := N) hr hf hl9 hll hN hin hj (hall _ (List.getElem_mem hj)) v4 v8 (k : Int) b N 0 (by omega) (by omega)
        simpa using this
      simp only [ltInt_dec, Int.ofNat_eq_natCast, Int.ofNat_lt, hj, decide_true, cond_true]
      cases v12 with
      | true =>
        simp only [cond_true, bind2_some, h5, bind3_some, eqOut_exit, decide_true, ew]
        obtain ⟨b, e, g1, g2⟩ := ih (j + 1) true (by omega) (by omega)
        exact ⟨b, e, fun _ => g1 rfl, fun _ => g1 rfl⟩
      | false =>
        simp only [cond_false, eqInt_dec]
        by_cases hjk : j = k
        · subst hjk
          simp only [decide_true, Bool.not_true, cond_false, bind2_some, h5, bind3_some, eqOut_exit, decide_true, cond_true, ew]
          obtain ⟨b, e, g1, g2⟩ := ih (j + 1) false (by omega) (by omega)
          refine ⟨b, e, by simp, ?_⟩
          rintro ⟨i, hi, h6, h7, h8⟩
          exact g2 ⟨i, hi, by omega, h7, h8⟩
        · have hjk' : ¬ ((j : Int) = (k : Int)) := by omega
          simp only [hjk', decide_false, Bool.not_false, cond_true]
          rw [show (ixK v9.a l.length (j : Int) 1) = ixK v9.a v9.len (j : Int) 1 by rw [Ints.len hl9]]
          rw [hl9.int (x := (j : Int)) (by omega) (by omega)]
          simp only [Int.toNat_natCast, hgj]
          rw [row_int hr hy.1 hy.2]
          rw [show (ixK v9.a l.length (k : Int) 1) = ixK v9.a v9.len (k : Int) 1 by rw [Ints.len hl9]]
          rw [hl9.int (x := (k : Int)) (by omega) (by omega)]
          simp only [Int.toNat_natCast, hgk, has_spec hrow hN (by omega), bind2_some, h5, bind3_some, eqOut_exit, decide_true, cond_true, ew]
          obtain ⟨b, e, g1, g2⟩ := ih (j + 1) (decide (l[k] ∈ d.getD l[j].toNat [])) (by omega) (by omega)
          refine ⟨b, e, by simp, ?_⟩
          rintro ⟨i, hi, h6, h7, h8⟩
          by_cases hij : i = j
          · subst hij; exact g1 (by simpa using h8)
          · exact g2 ⟨i, hi, by omega, h7, h8⟩
    · have : j = l.length := by omega
      subst this
      refine ⟨v12, by simp [ltInt_dec], id, ?_⟩
      rintro ⟨i, hi, h6, _⟩
      omega
theorem l6_l4 (M : Nat) : f3_l6 N M = f3_l4 N M := rfl
end Go.Proofs.Ythpplekbeecdfaa.Gb

open Go Go.Proofs.Ythpplekbeecdfaa.Ai Go.Proofs
namespace Go.Proofs.Ythpplekbeecdfaa.Gb
variable {N : Nat} {s v5 v9 : SL} {ss : List SL} {d : List (List Int)} {l : List Int} {h : Heap}
theorem l3_spec (hr : Rows h v5 ss d) (hf : Fine d) (hl9 : Ints h v9 l) (hll : l.length ≤ 64) (hN : 1000001 ≤ N) (hin : ∀ x ∈ l, 0 ≤ x ∧ x < d.length) (hsort : l.Pairwise (· < ·)) (hall : ∀ y ∈ l, ∀ x ∈ d.getD y.toNat [], x ∈ l)
    {n : Int} (hn0 : 0 ≤ n) (hn1 : n < d.length) (hfrom : ∀ k, ∀ hk : k < l.length, l[k] ∈ d.getD n.toNat [] ∨ ∃ i, ∃ hi : i < l.length, i ≠ k ∧ l[k] ∈ d.getD l[i].toNat []) (v4 : Bool) : ∀ (M k : Nat), k ≤ l.length → l.length - k < M →
    f3_l3 N M v4 v5 n v9 (k : Int) h = some (.exit 4, (v4, ()), h) := by
  intro M
  induction M with
  | zero => intro k h1 h2; omega
  | succ M ih =>
    intro k h1 h2
    rw [f3_l3_succ]
    unfold f3_l3_b
    by_cases hk : k < l.length
    · have ew : wrapA .i64 ((k : Int) + 1) = ((k + 1 : Nat) : Int) := wrapA_small (by omega) (by omega)
      have hy := hin _ (List.getElem_mem hk)
      have hnl : n.toNat < d.length := by omega
      have hrow := hr.row n.toNat hnl
      have hrl := hf.row n.toNat hnl
      have hgk := getD_lt l 0 hk
      obtain ⟨b, e4, g1, g2⟩ := l4_spec (N := N) hr hf hl9 hll hN hin hk hall v4 n N 0 (decide (l[k] ∈ d.getD n.toNat [])) (by omega) (by omega)
      have hb : b = true := by
        rcases hfrom k hk with h3 | ⟨i, hi, h3, h4⟩
        · exact g1 (by simpa using h3)
        · exact g2 ⟨i, hi, by omega, h3, h4⟩
      subst hb
      simp only [Int.ofNat_zero] at e4
      have e6 : f3_l6 N N v4 v5 n v9 (k : Int) (decide (l[k] ∈ d.getD n.toNat [])) 0 h = some (.exit 6, (v4, v5, n, v9, (k : Int), true, ()), h) := e4
      have rx : ∀ (i : Nat) (hi : i < l.length) (K : Int → Option (Out × (Bool × Unit) × Heap)), (ixK v9.a l.length (i : Int) 1 fun q => bindV (.val (.one (.int .i64))) (h.cell q) K) = K l[i] := fun i hi K => by
        have := hl9.int (x := (i : Int)) (by omega) (by omega) K
        rw [Ints.len hl9] at this
        rw [this]; simp only [Int.toNat_natCast, getD_lt l 0 hi]
      have rn : ∀ (K : SL → Option (Out × (Bool × Unit) × Heap)), (ixK v5.a d.length n 1 fun q => bindV (.val (.one .slice)) (h.cell q) K) = K (ss.getD n.toNat nilS) := fun K => by
        have := row_int hr hn0 hn1 K
        rw [hr.slen] at this; exact this
      have rk := rx k hk
      simp only [Ints.len hl9, hr.slen, ltInt_dec, leInt_dec, Int.ofNat_eq_natCast, Int.ofNat_lt, hk, decide_true, cond_true, rk, show ¬ l[k] < 0 by omega, show ¬ (d.length : Int) ≤ l[k] by omega, decide_false, cond_false]
      by_cases hk0 : 0 < k
      · have ew1 : wrapA .i64 ((k : Int) - 1) = ((k - 1 : Nat) : Int) := by rw [wrapA_small (by omega) (by omega)]; omega
        have hs : l[k - 1] < l[k] := List.pairwise_iff_getElem.1 hsort (k - 1) k (by omega) hk (by omega)
        have rk1 := rx (k - 1) (by omega)
        simp only [show (0 : Int) < (k : Int) by omega, decide_true, cond_true, ew1, rk1, show ¬ l[k] ≤ l[k - 1] by omega, decide_false, cond_false, rn, has_spec hrow hN (by omega), bind2_some, e4, bind3_some, eqOut_exit, Bool.not_true, ew]
        exact ih (k + 1) (by omega) (by omega)
      · simp only [show ¬ (0 : Int) < (k : Int) by omega, decide_false, cond_false, rn, has_spec hrow hN (by omega), bind2_some, e6, bind3_some, eqOut_exit, decide_true, cond_true, Bool.not_true, ew]
        exact ih (k + 1) (by omega) (by omega)
    · have : k = l.length := by omega
      subst this
      simp [ltInt_dec, Ints.len hl9]

theorem Reach.inr {i x : Int} (hf : Fine d) (hx : Reach d i x) : 0 ≤ x ∧ x < d.length := by
  have key : ∀ y : Int, ∀ x ∈ d.getD y.toNat [], 0 ≤ x ∧ x < d.length := by
    intro y x hx
    rcases Nat.lt_or_ge y.toNat d.length with h | h
    · exact hf.inr _ h x hx
    · rw [List.getD_eq_getElem?_getD, List.getElem?_eq_none h] at hx; simp at hx
  cases hx with
  | one h => exact key _ _ h
  | step _ h => exact key _ _ h
theorem Reach.other {i x : Int} (hx : Reach d i x) : x ∈ d.getD i.toNat [] ∨ ∃ y, Reach d i y ∧ y ≠ x ∧ x ∈ d.getD y.toNat [] := by
  induction hx with
  | one h => exact .inl h
  | @step y k h1 h2 ih =>
    by_cases he : y = k
    · subst he; exact ih
    · exact .inr ⟨y, h1, he, h2⟩
theorem conv_rem {m : Nat} (hm : 0 < m) (h1 : m < 1000) (x : Int) : binInt .rem .u64 (wrapA .u64 x) (wrapA .u64 (m : Int)) = some (.int .u64 (conv m x)) ∧ wrapA .i64 (conv m x) = conv m x := by
  rw [wrap_small m h1]; exact rem_conv hm h1 x
theorem below_law (hr : RowsB h.next h s ss d) (i : Int) : ∃ h', f3 2000000 s i h = some (true, h') := by
  rcases fit_spec (N := 2000000) hr (by omega) with ⟨s', h1, ss', e1, k1, r1, hl⟩ | ⟨s', h1, e1⟩
  · have hlen : (fitL d (mOf d)).length = mOf d := fitL_len (by unfold mOf; omega)
    generalize hdd : fitL d (mOf d) = dd at *
    have hsl : s'.len = dd.length := r1.r.slen
    by_cases h0 : dd.length = 0
    · refine ⟨h1, ?_⟩
      simp [f3, e1, hsl, h0, eqInt_dec, f11]
    · by_cases h64 : dd.length ≤ 64
      · rcases l1_spec (N := 2000000) r1.r h64 i false 2000000 0 (by omega) (by omega) with ⟨e2, hrows⟩ | e2
        · have hf : Fine dd := by
            refine ⟨h64, fun i hi => hrows i (by omega) hi, fun i hi x hx => ?_⟩
            rw [← hdd] at hx
            unfold fitL at hx
            rw [getD_lt _ _ (by rw [List.length_map, List.length_take]; have : mOf d ≤ d.length := by (unfold mOf; omega)
                                omega)] at hx
            simp only [List.getElem_map, List.mem_map] at hx
            obtain ⟨y, _, rfl⟩ := hx
            rw [hlen]
            exact conv_in (by omega) y
          obtain ⟨c1, c2⟩ := conv_rem (m := dd.length) (by omega) (by omega) i
          have hc := conv_in (m := dd.length) (by omega) i
          obtain ⟨s2, h2, l, e3, k2, o2, hll, hsort, hmem⟩ := Below_spec (N := 2000000) r1 hf (by omega) hc.1 hc.2
          have r2 := r1.keep k2
          have hl9 : Ints h2 s2 l := o2.one
          have hin : ∀ x ∈ l, 0 ≤ x ∧ x < dd.length := fun x hx => ⟨((hmem x).1 hx).1, ((hmem x).1 hx).2.1⟩
          have hall1 : ∀ x ∈ dd.getD (conv dd.length i).toNat [], x ∈ l := fun x hx => by
            have hr := Reach.one (ll := dd) (i := conv dd.length i) hx
            exact (hmem x).2 ⟨(hr.inr hf).1, (hr.inr hf).2, hr⟩
          have hall : ∀ y ∈ l, ∀ x ∈ dd.getD y.toNat [], x ∈ l := fun y hy x hx => by
            have hr := Reach.step ((hmem y).1 hy).2.2 hx
            exact (hmem x).2 ⟨(hr.inr hf).1, (hr.inr hf).2, hr⟩
          have hfrom : ∀ k, ∀ hk : k < l.length, l[k] ∈ dd.getD (conv dd.length i).toNat [] ∨ ∃ i, ∃ hi : i < l.length, i ≠ k ∧ l[k] ∈ dd.getD l[i].toNat [] := by
            intro k hk
            rcases Reach.other ((hmem l[k]).1 (List.getElem_mem hk)).2.2 with h3 | ⟨y, h3, h4, h5⟩
            · exact .inl h3
            · have hy : y ∈ l := (hmem y).2 ⟨(h3.inr hf).1, (h3.inr hf).2, h3⟩
              obtain ⟨j, hj, rfl⟩ := List.mem_iff_getElem.1 hy
              exact .inr ⟨j, hj, fun e => h4 (by subst e; rfl), h5⟩
          have e4 := l2_spec (N := 2000000) r2.r hf hl9 hll (by omega) hc.1 hc.2 hall1 false 2000000 0 (by omega) (by have := hf.row (conv dd.length i).toNat (by omega); omega)
          have e5 := l3_spec (N := 2000000) r2.r hf hl9 hll (by omega) hin hsort hall hc.1 hc.2 hfrom false 2000000 0 (by omega) (by omega)
          simp only [Int.ofNat_zero] at e2 e4 e5
          refine ⟨h2, ?_⟩
          have hne : ¬ ((dd.length : Int) = 0) := by omega
          have hn64 : ¬ ((64 : Int) < (dd.length : Int)) := by omega
          simp [f3, e1, hsl, hne, hn64, eqInt_dec, ltInt_dec, f11, e2, c1, c2, e3, e4, e5, h0]
        · simp only [Int.ofNat_zero] at e2
          refine ⟨h1, ?_⟩
          have hne : ¬ ((dd.length : Int) = 0) := by omega
          have hn64 : ¬ ((64 : Int) < (dd.length : Int)) := by omega
          simp [f3, e1, hsl, hne, hn64, eqInt_dec, ltInt_dec, f11, e2, h0]
      · refine ⟨h1, ?_⟩
        have hne : ¬ ((dd.length : Int) = 0) := by omega
        have hn64 : (64 : Int) < (dd.length : Int) := by omega
        simp [f3, e1, hsl, hne, hn64, eqInt_dec, ltInt_dec, f11, h0]
  · refine ⟨h1, ?_⟩
    simp [f3, e1, f11]

/-! the arguments -/
theorem undP3 : Try.prog.underlying 3 = some (.int .i64) := by kernel_rfl
theorem undP26 : Try.prog.underlying 26 = some (.slice 3) := by kernel_rfl
theorem undP22 : Try.prog.underlying 22 = some (.slice 26) := by kernel_rfl
theorem rows_of {H : Type} {h : Heap} {vs : List AV} {dd : DataW H} (hx : Rd Try.prog h 22 vs dd) : ∃ (s : SL) (ss : List SL) (d : List (List Int)), vs = [.slice s.a s.len s.cap s.sz] ∧ RowsB h.next h s ss d := by
  have hc3 : Try.prog.cellsOf 3 = 1 := by kernel_rfl
  have hc26 : Try.prog.cellsOf 26 = 1 := by kernel_rfl
  obtain ⟨s, ass, rfl, h1, h2, h3, h4, h5⟩ := Rd.sees undP22 (fun a d hd => by
    obtain ⟨s, l, rfl, _⟩ := Rd.ints undP26 undP3 hc3 hd
    exact hc26.symm) hx
  obtain ⟨bs, h6, h7⟩ := flat_of (fun x : { p : SL × List Int // Ints h p.1 p.2 } => SL.av x.1.1) ass fun i a ha => by
    obtain ⟨d, hd⟩ := h5 i a ha
    obtain ⟨s1, l1, rfl, k1, k2, k3, k4, _⟩ := Rd.ints undP26 undP3 hc3 hd
    exact ⟨⟨(s1, l1), by simp [k3], k1, k4⟩, rfl⟩
  refine ⟨s, bs.map (·.1.1), bs.map (·.1.2), rfl, ⟨⟨⟨by simp; omega, by rw [← hc26]; exact h3, by rw [List.map_map]; exact h6 ▸ h4⟩, by simp, fun i hi => ?_⟩, h4.under, fun i hi => ?_⟩⟩
  · have hi' : i < bs.length := by simpa using hi
    rw [getD_lt _ _ (by simpa using hi), getD_lt _ _ hi]
    simp only [List.getElem_map]
    exact bs[i].2
  · have hi' : i < bs.length := by simpa using hi
    rw [getD_lt _ _ (by simpa using hi)]
    simp only [List.getElem_map]
    exact bs[i].2.2.2.under
theorem below_true {H : Type} (h : Heap) (vs : List AV) (ds : List (DataW H)) (hr : RdArgs Try.prog h [22, 3] vs ds) : ∃ xs : vdens [.one .slice, .one (.int .i64)], ∃ h', VTy.tos _ xs = vs ∧ (fun (x : vdens [.one .slice, .one (.int .i64)]) h => f3 2000000 x.1 x.2.1 h) xs h = some (true, h') := by
  obtain ⟨c0, d0, _, _, rfl, rfl, r0, hr⟩ := hr.cons_inv
  obtain ⟨c1, d1, _, _, rfl, rfl, r1, hr⟩ := hr.cons_inv
  obtain ⟨rfl, rfl⟩ := hr.nil_inv
  obtain ⟨s, ss, d, rfl, hrow⟩ := rows_of r0
  obtain ⟨n1, rfl, _⟩ := Rd.int_inv undP3 r1
  obtain ⟨h', e⟩ := below_law hrow n1
  refine ⟨(s, n1, ()), h', ?_, e⟩
  simp [VTy.tos, VTy.to, CTy.to, argOf, undP3, undP22]
end Go.Proofs.Ythpplekbeecdfaa.Gb
