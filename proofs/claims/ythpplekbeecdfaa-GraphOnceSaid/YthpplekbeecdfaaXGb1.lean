import Derived.Test.YthpplekbeecdfaaAi2
import Derived.Test.YthpplekbeecdfaaProg
import Derived.Test.YthpplekbeecdfaaAi3
/- Functions of the program as plain functions, and what they come to; part 1. -/
set_option linter.unusedVariables false
set_option linter.unusedSimpArgs false
set_option maxRecDepth 100000
open Go Go.Proofs.Ythpplekbeecdfaa.Ai Go.Proofs
namespace Go.Proofs.Ythpplekbeecdfaa.Gb
noncomputable def E : Env := envOf Try.prog [] noNative
theorem envOK : EnvOK E Try.prog := envOf_ok (by kernel_rfl) (by kernel_rfl)
theorem hmix : Try.prog.follows .mixedOrders = true := by kernel_rfl
/- usufruct/usufructlaw11.fit -/
noncomputable def f10_l2_b (N : Nat) (go : SL → Bool → SL → Bool → SL → Int → SL → Int → Heap → Option (Out × (SL × Bool × SL × Bool × SL × Int × SL × Unit) × Heap)) (v0 : SL) (v1 : Bool) (v4 : SL) (v5 : Bool) (v6 : SL) (v7 : Int) (v8 : SL) (v9 : Int) (h : Heap) : Option (Out × (SL × Bool × SL × Bool × SL × Int × SL × Unit) × Heap) :=
  (ixK v0.a v0.len v7 1 fun q6 =>
  (bindV (.val (.one .slice)) (h.cell q6) fun (x7 : SL) =>
  let x8 : Bool := ltInt v9 (Int.ofNat x7.len)
  (bif x8 then
   (ixK v0.a v0.len v7 1 fun q9 =>
   (bindV (.val (.one .slice)) (h.cell q9) fun (x10 : SL) =>
   (ixK x10.a x10.len v9 1 fun q11 =>
   (bindV (.val (.one (.int .i64))) (h.cell q11) fun (x12 : Int) =>
   let x13 : Bool := !v1
   (bif x13 then
    let x14 : Int := wrapA .u64 x12
    let x15 : Int := (bif ltInt 70 (Int.ofNat v0.len) then 70 else (Int.ofNat v0.len))
    let x16 : Int := wrapA .u64 x15
    (bindV (.val (.one (.int .u64))) (binInt .rem .u64 x14 x16) fun (x17 : Int) =>
    let x18 : Int := wrapA .i64 x17
    let h19 : Heap := h.push (.row [(.int .i64 x18)] .own)
    (bindT (.val (.one .slice)) (appendA E 26 26 (.slice v8.a v8.len v8.cap v8.sz) (.slice (some (h.next, 0)) 1 1 1) h19) fun (x20 : SL) h21 =>
    let x22 : Int := wrapA .i64 (v9 + 1)
    go v0 v1 v4 v5 v6 v7 x20 x22 h21))
   else
    let h23 : Heap := h.push (.row [(.int .i64 x12)] .own)
    (bindT (.val (.one .slice)) (appendA E 26 26 (.slice v8.a v8.len v8.cap v8.sz) (.slice (some (h.next, 0)) 1 1 1) h23) fun (x24 : SL) h25 =>
    let x26 : Int := wrapA .i64 (v9 + 1)
    go v0 v1 v4 v5 v6 v7 x24 x26 h25))))))
  else
   some ((Out.exit 2), (v0, v1, v4, v5, v6, v7, v8, ()), h))))
noncomputable def f10_l2 (N M : Nat) (v0 : SL) (v1 : Bool) (v4 : SL) (v5 : Bool) (v6 : SL) (v7 : Int) (v8 : SL) (v9 : Int) (h : Heap) : Option (Out × (SL × Bool × SL × Bool × SL × Int × SL × Unit) × Heap) := iter (fun go s h => f10_l2_b N (fun v0 v1 v4 v5 v6 v7 v8 v9 h => go (v0, v1, v4, v5, v6, v7, v8, v9, ()) h) s.1 s.2.1 s.2.2.1 s.2.2.2.1 s.2.2.2.2.1 s.2.2.2.2.2.1 s.2.2.2.2.2.2.1 s.2.2.2.2.2.2.2.1 h) M (v0, v1, v4, v5, v6, v7, v8, v9, ()) h
theorem f10_l2_succ (N M : Nat) (v0 : SL) (v1 : Bool) (v4 : SL) (v5 : Bool) (v6 : SL) (v7 : Int) (v8 : SL) (v9 : Int) (h : Heap) : f10_l2 N (M + 1) v0 v1 v4 v5 v6 v7 v8 v9 h = f10_l2_b N (f10_l2 N M) v0 v1 v4 v5 v6 v7 v8 v9 h := rfl
theorem f10_l2_zero (N : Nat) (v0 : SL) (v1 : Bool) (v4 : SL) (v5 : Bool) (v6 : SL) (v7 : Int) (v8 : SL) (v9 : Int) (h : Heap) : f10_l2 N 0 v0 v1 v4 v5 v6 v7 v8 v9 h = none := rfl
noncomputable def f10_l1_b (N : Nat) (go : SL → Bool → SL → Bool → SL → Int → Heap → Option (Out × (SL × Bool × SL × Unit) × Heap)) (v0 : SL) (v1 : Bool) (v4 : SL) (v5 : Bool) (v6 : SL) (v7 : Int) (h : Heap) : Option (Out × (SL × Bool × SL × Unit) × Heap) :=
  let x1 : Bool := ltInt v7 (Int.ofNat v0.len)
  (bif x1 then
   let x2 : Bool := ltInt v7 70
   (bif x2 then
    (ixK v0.a v0.len v7 1 fun q3 =>
    (bindV (.val (.one .slice)) (h.cell q3) fun (x4 : SL) =>
    let x5 : Bool := ltInt 70 (Int.ofNat x4.len)
    (bif x5 then
     some (Out.ret, (⟨none, 0, 0, 0⟩, false, v6, ()), h)
    else
     (bind3 (f10_l2 N N v0 v1 v4 v5 v6 v7 ⟨none, 0, 0, 0⟩ 0 h) fun _ (j28 : (SL × Bool × SL × Bool × SL × Int × SL × Unit)) h29 =>
     let h30 : Heap := h29.push (.row [(.slice j28.2.2.2.2.2.2.1.a j28.2.2.2.2.2.2.1.len j28.2.2.2.2.2.2.1.cap j28.2.2.2.2.2.2.1.sz)] .own)
     (bindT (.val (.one .slice)) (appendA E 22 22 (.slice j28.2.2.2.2.1.a j28.2.2.2.2.1.len j28.2.2.2.2.1.cap j28.2.2.2.2.1.sz) (.slice (some (h29.next, 0)) 1 1 1) h30) fun (x31 : SL) h32 =>
     let x33 : Int := wrapA .i64 (j28.2.2.2.2.2.1 + 1)
     go j28.1 j28.2.1 j28.2.2.1 j28.2.2.2.1 x31 x33 h32)))))
   else
    some ((Out.exit 0), (v4, v5, v6, ()), h))
  else
   some ((Out.exit 0), (v4, v5, v6, ()), h))
noncomputable def f10_l1 (N M : Nat) (v0 : SL) (v1 : Bool) (v4 : SL) (v5 : Bool) (v6 : SL) (v7 : Int) (h : Heap) : Option (Out × (SL × Bool × SL × Unit) × Heap) := iter (fun go s h => f10_l1_b N (fun v0 v1 v4 v5 v6 v7 h => go (v0, v1, v4, v5, v6, v7, ()) h) s.1 s.2.1 s.2.2.1 s.2.2.2.1 s.2.2.2.2.1 s.2.2.2.2.2.1 h) M (v0, v1, v4, v5, v6, v7, ()) h
theorem f10_l1_succ (N M : Nat) (v0 : SL) (v1 : Bool) (v4 : SL) (v5 : Bool) (v6 : SL) (v7 : Int) (h : Heap) : f10_l1 N (M + 1) v0 v1 v4 v5 v6 v7 h = f10_l1_b N (f10_l1 N M) v0 v1 v4 v5 v6 v7 h := rfl
theorem f10_l1_zero (N : Nat) (v0 : SL) (v1 : Bool) (v4 : SL) (v5 : Bool) (v6 : SL) (v7 : Int) (h : Heap) : f10_l1 N 0 v0 v1 v4 v5 v6 v7 h = none := rfl
noncomputable def f10 (N : Nat) (a0 : SL) (a1 : Bool) (h : Heap) : Option ((SL × Bool × Unit) × Heap) :=
  (bind3 (f10_l1 N N a0 a1 ⟨none, 0, 0, 0⟩ false ⟨none, 0, 0, 0⟩ 0 h) fun o34 (j35 : (SL × Bool × SL × Unit)) h36 =>
  (bif eqOut o34 (.exit 0) then
   some ((j35.2.2.1, true, ()), h36)
  else
   some ((j35.1, j35.2.1, ()), h36)))
noncomputable def ann10 : Ann := (.two .n (.two .n (.two (.two .n (.two (.loop [(0, (.one .slice)), (1, (.one .bool)), (4, (.one .slice)), (5, (.one .bool)), (6, (.one .slice)), (7, (.one (.int .i64)))] [(.exit 0), .ret] [(4, (.one .slice)), (5, (.one .bool)), (6, (.one .slice))] (.two .n (.two (.two (.two .n (.two .n (.two (.two .n (.two (.loop [(0, (.one .slice)), (1, (.one .bool)), (4, (.one .slice)), (5, (.one .bool)), (6, (.one .slice)), (7, (.one (.int .i64))), (8, (.one .slice)), (9, (.one (.int .i64)))] [(.exit 2)] [(0, (.one .slice)), (1, (.one .bool)), (4, (.one .slice)), (5, (.one .bool)), (6, (.one .slice)), (7, (.one (.int .i64))), (8, (.one .slice))] .n) .n)) .n))) .n) .n))) .n)) .n)))
theorem f10_ok (N : Nat) : FnOK Try.prog 10 [(.one .slice), (.one .bool)] (.tup [(.one .slice), (.one .bool)]) (fun x h => f10 N x.1 x.2.1 h) :=
  runK_ok envOK hmix noCalls_ok (N := N) (x := ann10) (fn := Try.f10) (c := Try.f10.body.getD .skip) (by kernel_rfl) (by kernel_rfl) (by kernel_rfl) (by kernel_rfl) (fun _ _ => by kernel_rfl)

/- usufruct/usufructlaw11.told -/
noncomputable def f11 (N : Nat) (h : Heap) : Option (Bool × Heap) := some (true, h)
theorem f11_ok (N : Nat) : FnOK Try.prog 11 [] (.val (.one .bool)) (fun _ h => f11 N h) :=
  fnOK_told envOK (fn := Try.f11) (by kernel_rfl) (by kernel_rfl) (calls_true envOK hmix noNative_ok (fn := Try.f11) (by kernel_rfl) (by kernel_rfl) (args := []) VRs.nil (n := 1000) (by kernel_rfl))

/- usufruct/fault.New -/
noncomputable def f46 (N : Nat) (a0 : Int) (a1 : Int) (h : Heap) : Option (AV × Heap) :=
  let x1 : Bool := eqInt a0 0
  (bif x1 then
   some (AV.nilIface, h)
  else
   let h2 : Heap := h.push (.row [(.int .i64 a0), (.int .i64 a1), (AV.iface 71 (.int .i64 a0))] .own)
   some ((AV.iface 69 (.ptr (some (h.next, 0)))), h2))
noncomputable def ann46 : Ann := .n
theorem f46_ok (N : Nat) : FnOK Try.prog 46 [(.one (.int .i64)), (.one (.int .i64))] (.val (.one .any)) (fun x h => f46 N x.1 x.2.1 h) :=
  runK_ok envOK hmix noCalls_ok (N := N) (x := ann46) (fn := Try.f46) (c := Try.f46.body.getD .skip) (by kernel_rfl) (by kernel_rfl) (by kernel_rfl) (by kernel_rfl) (fun _ _ => by kernel_rfl)

/- usufruct/graph.may -/
noncomputable def f38_l3_b (N : Nat) (go : SL → AV → Int → SL → Int → Int → SL → Int → Int → Heap → Option (Out × (SL × AV × SL × Int × Int × Unit) × Heap)) (v0 : SL) (v2 : AV) (v5 : Int) (v26 : SL) (v27 : Int) (v28 : Int) (v33 : SL) (v34 : Int) (v35 : Int) (h : Heap) : Option (Out × (SL × AV × SL × Int × Int × Unit) × Heap) :=
  let x17 : Bool := ltInt v35 v34
  (bif x17 then
   (ixK v33.a v33.len v35 1 fun q18 =>
   (bindV (.val (.one (.int .i64))) (h.cell q18) fun (x19 : Int) =>
   let x20 : Bool := ltInt x19 0
   (bif x20 then
    (bind2 (f46 N 2 v5 h) fun (x21 : AV) h22 =>
    some (Out.ret, (v0, x21, v26, v27, v28, ()), h22))
   else
    let x23 : Bool := leInt (Int.ofNat v0.len) x19
    (bif x23 then
     (bind2 (f46 N 2 v5 h) fun (x24 : AV) h25 =>
     some (Out.ret, (v0, x24, v26, v27, v28, ()), h25))
    else
     let x26 : Int := wrapA .i64 (v35 + 1)
     go v0 v2 v5 v26 v27 v28 v33 v34 x26 h))))
  else
   some ((Out.exit 4), (v0, v2, v26, v27, v28, ()), h))
noncomputable def f38_l3 (N M : Nat) (v0 : SL) (v2 : AV) (v5 : Int) (v26 : SL) (v27 : Int) (v28 : Int) (v33 : SL) (v34 : Int) (v35 : Int) (h : Heap) : Option (Out × (SL × AV × SL × Int × Int × Unit) × Heap) := iter (fun go s h => f38_l3_b N (fun v0 v2 v5 v26 v27 v28 v33 v34 v35 h => go (v0, v2, v5, v26, v27, v28, v33, v34, v35, ()) h) s.1 s.2.1 s.2.2.1 s.2.2.2.1 s.2.2.2.2.1 s.2.2.2.2.2.1 s.2.2.2.2.2.2.1 s.2.2.2.2.2.2.2.1 s.2.2.2.2.2.2.2.2.1 h) M (v0, v2, v5, v26, v27, v28, v33, v34, v35, ()) h
theorem f38_l3_succ (N M : Nat) (v0 : SL) (v2 : AV) (v5 : Int) (v26 : SL) (v27 : Int) (v28 : Int) (v33 : SL) (v34 : Int) (v35 : Int) (h : Heap) : f38_l3 N (M + 1) v0 v2 v5 v26 v27 v28 v33 v34 v35 h = f38_l3_b N (f38_l3 N M) v0 v2 v5 v26 v27 v28 v33 v34 v35 h := rfl
theorem f38_l3_zero (N : Nat) (v0 : SL) (v2 : AV) (v5 : Int) (v26 : SL) (v27 : Int) (v28 : Int) (v33 : SL) (v34 : Int) (v35 : Int) (h : Heap) : f38_l3 N 0 v0 v2 v5 v26 v27 v28 v33 v34 v35 h = none := rfl
noncomputable def f38_l2_b (N : Nat) (go : SL → AV → SL → Int → Int → Heap → Option (Out × (AV × Unit) × Heap)) (v0 : SL) (v2 : AV) (v26 : SL) (v27 : Int) (v28 : Int) (h : Heap) : Option (Out × (AV × Unit) × Heap) :=
  let x14 : Bool := ltInt v28 v27
  (bif x14 then
   (ixK v26.a v26.len v28 1 fun q15 =>
   (bindV (.val (.one .slice)) (h.cell q15) fun (x16 : SL) =>
   (bind3 (f38_l3 N N v0 v2 v28 v26 v27 v28 x16 (Int.ofNat x16.len) 0 h) fun o27 (j28 : (SL × AV × SL × Int × Int × Unit)) h29 =>
   (bif eqOut o27 (.exit 4) then
    let x30 : Int := wrapA .i64 (j28.2.2.2.2.1 + 1)
    go j28.1 j28.2.1 j28.2.2.1 j28.2.2.2.1 x30 h29
   else
    some (Out.ret, (j28.2.1, ()), h29)))))
  else
   some ((Out.exit 2), (v2, ()), h))
noncomputable def f38_l2 (N M : Nat) (v0 : SL) (v2 : AV) (v26 : SL) (v27 : Int) (v28 : Int) (h : Heap) : Option (Out × (AV × Unit) × Heap) := iter (fun go s h => f38_l2_b N (fun v0 v2 v26 v27 v28 h => go (v0, v2, v26, v27, v28, ()) h) s.1 s.2.1 s.2.2.1 s.2.2.2.1 s.2.2.2.2.1 h) M (v0, v2, v26, v27, v28, ()) h
theorem f38_l2_succ (N M : Nat) (v0 : SL) (v2 : AV) (v26 : SL) (v27 : Int) (v28 : Int) (h : Heap) : f38_l2 N (M + 1) v0 v2 v26 v27 v28 h = f38_l2_b N (f38_l2 N M) v0 v2 v26 v27 v28 h := rfl
theorem f38_l2_zero (N : Nat) (v0 : SL) (v2 : AV) (v26 : SL) (v27 : Int) (v28 : Int) (h : Heap) : f38_l2 N 0 v0 v2 v26 v27 v28 h = none := rfl
noncomputable def f38_l1_b (N : Nat) (go : SL → AV → SL → Int → Int → Heap → Option (Out × (SL × AV × Unit) × Heap)) (v0 : SL) (v2 : AV) (v13 : SL) (v14 : Int) (v15 : Int) (h : Heap) : Option (Out × (SL × AV × Unit) × Heap) :=
  let x4 : Bool := ltInt v15 v14
  (bif x4 then
   (ixK v13.a v13.len v15 1 fun q5 =>
   (bindV (.val (.one .slice)) (h.cell q5) fun (x6 : SL) =>
   let x7 : Bool := ltInt 64 (Int.ofNat x6.len)
   (bif x7 then
    (bind2 (f46 N 5 v15 h) fun (x8 : AV) h9 =>
    some (Out.ret, (v0, x8, ()), h9))
   else
    let x10 : Int := wrapA .i64 (v15 + 1)
    go v0 v2 v13 v14 x10 h)))
  else
   some ((Out.exit 0), (v0, v2, ()), h))
noncomputable def f38_l1 (N M : Nat) (v0 : SL) (v2 : AV) (v13 : SL) (v14 : Int) (v15 : Int) (h : Heap) : Option (Out × (SL × AV × Unit) × Heap) := iter (fun go s h => f38_l1_b N (fun v0 v2 v13 v14 v15 h => go (v0, v2, v13, v14, v15, ()) h) s.1 s.2.1 s.2.2.1 s.2.2.2.1 s.2.2.2.2.1 h) M (v0, v2, v13, v14, v15, ()) h
theorem f38_l1_succ (N M : Nat) (v0 : SL) (v2 : AV) (v13 : SL) (v14 : Int) (v15 : Int) (h : Heap) : f38_l1 N (M + 1) v0 v2 v13 v14 v15 h = f38_l1_b N (f38_l1 N M) v0 v2 v13 v14 v15 h := rfl
theorem f38_l1_zero (N : Nat) (v0 : SL) (v2 : AV) (v13 : SL) (v14 : Int) (v15 : Int) (h : Heap) : f38_l1 N 0 v0 v2 v13 v14 v15 h = none := rfl
noncomputable def f38 (N : Nat) (a0 : SL) (h : Heap) : Option (AV × Heap) :=
  let x1 : Bool := ltInt 64 (Int.ofNat a0.len)
  (bif x1 then
   (bind2 (f46 N 5 0 h) fun (x2 : AV) h3 =>
   some (x2, h3))
  else
   (bind3 (f38_l1 N N a0 AV.nilIface a0 (Int.ofNat a0.len) 0 h) fun o11 (j12 : (SL × AV × Unit)) h13 =>
   (bif eqOut o11 (.exit 0) then
    (bind3 (f38_l2 N N j12.1 j12.2.1 j12.1 (Int.ofNat j12.1.len) 0 h13) fun o31 (j32 : (AV × Unit)) h33 =>
    (bif eqOut o31 (.exit 2) then
     some (AV.nilIface, h33)
    else
     some (j32.1, h33)))
   else
    some (j12.2.1, h13))))
noncomputable def ann38 : Ann := (.two .n (.two .n (.two (.two .n (.two (.loop [(0, (.one .slice)), (2, (.one .any)), (13, (.one .slice)), (14, (.one (.int .i64))), (15, (.one (.int .i64)))] [(.exit 0), .ret] [(0, (.one .slice)), (2, (.one .any))] .n) .n)) (.two (.two .n (.two (.loop [(0, (.one .slice)), (2, (.one .any)), (26, (.one .slice)), (27, (.one (.int .i64))), (28, (.one (.int .i64)))] [(.exit 2), .ret] [(2, (.one .any))] (.two .n (.two .n (.two (.two (.two .n (.two .n (.two (.loop [(0, (.one .slice)), (2, (.one .any)), (5, (.one (.int .i64))), (26, (.one .slice)), (27, (.one (.int .i64))), (28, (.one (.int .i64))), (33, (.one .slice)), (34, (.one (.int .i64))), (35, (.one (.int .i64)))] [(.exit 4), .ret] [(0, (.one .slice)), (2, (.one .any)), (26, (.one .slice)), (27, (.one (.int .i64))), (28, (.one (.int .i64)))] .n) .n))) .n) .n)))) .n)) .n))))
theorem f38_ok (N : Nat) : FnOK Try.prog 38 [(.one .slice)] (.val (.one .any)) (fun x h => f38 N x.1 h) :=
  runK_ok envOK hmix (addCall_ok (f46_ok N) noCalls_ok) (N := N) (x := ann38) (fn := Try.f38) (c := Try.f38.body.getD .skip) (by kernel_rfl) (by kernel_rfl) (by kernel_rfl) (by kernel_rfl) (fun _ _ => by kernel_rfl)

/- usufruct/graph.below -/
noncomputable def f39_l2_b (N : Nat) (go : SL → SL → SL → SL → Int → Int → Heap → Option (Out × (SL × SL × SL × Unit) × Heap)) (v0 : SL) (v5 : SL) (v6 : SL) (v32 : SL) (v33 : Int) (v34 : Int) (h : Heap) : Option (Out × (SL × SL × SL × Unit) × Heap) :=
  let x12 : Bool := ltInt v34 v33
  (bif x12 then
   (ixK v32.a v32.len v34 1 fun q13 =>
   (bindV (.val (.one (.int .i64))) (h.cell q13) fun (x14 : Int) =>
   (ixK v5.a v5.len x14 1 fun q15 =>
   (bindV (.val (.one .bool)) (h.cell q15) fun (x16 : Bool) =>
   let x17 : Bool := !x16
   (bif x17 then
    (ixK v5.a v5.len x14 1 fun q18 =>
    (need (h.store q18 [(.bool true)]) fun h19 =>
    let h20 : Heap := h19.push (.row [(.int .i64 x14)] .own)
    (bindT (.val (.one .slice)) (appendA E 26 26 (.slice v6.a v6.len v6.cap v6.sz) (.slice (some (h19.next, 0)) 1 1 1) h20) fun (x21 : SL) h22 =>
    let x23 : Int := wrapA .i64 (v34 + 1)
    go v0 v5 x21 v32 v33 x23 h22)))
   else
    let x24 : Int := wrapA .i64 (v34 + 1)
    go v0 v5 v6 v32 v33 x24 h)))))
  else
   some ((Out.exit 2), (v0, v5, v6, ()), h))
noncomputable def f39_l2 (N M : Nat) (v0 : SL) (v5 : SL) (v6 : SL) (v32 : SL) (v33 : Int) (v34 : Int) (h : Heap) : Option (Out × (SL × SL × SL × Unit) × Heap) := iter (fun go s h => f39_l2_b N (fun v0 v5 v6 v32 v33 v34 h => go (v0, v5, v6, v32, v33, v34, ()) h) s.1 s.2.1 s.2.2.1 s.2.2.2.1 s.2.2.2.2.1 s.2.2.2.2.2.1 h) M (v0, v5, v6, v32, v33, v34, ()) h
theorem f39_l2_succ (N M : Nat) (v0 : SL) (v5 : SL) (v6 : SL) (v32 : SL) (v33 : Int) (v34 : Int) (h : Heap) : f39_l2 N (M + 1) v0 v5 v6 v32 v33 v34 h = f39_l2_b N (f39_l2 N M) v0 v5 v6 v32 v33 v34 h := rfl
theorem f39_l2_zero (N : Nat) (v0 : SL) (v5 : SL) (v6 : SL) (v32 : SL) (v33 : Int) (v34 : Int) (h : Heap) : f39_l2 N 0 v0 v5 v6 v32 v33 v34 h = none := rfl
noncomputable def f39_l1_b (N : Nat) (go : SL → SL → SL → Heap → Option (Out × (SL × Unit) × Heap)) (v0 : SL) (v5 : SL) (v6 : SL) (h : Heap) : Option (Out × (SL × Unit) × Heap) :=
  let x4 : Bool := ltInt 0 (Int.ofNat v6.len)
  (bif x4 then
   let x5 : Int := wrapA .i64 ((Int.ofNat v6.len) - 1)
   (ixK v6.a v6.len x5 1 fun q6 =>
   (bindV (.val (.one (.int .i64))) (h.cell q6) fun (x7 : Int) =>
   let x8 : Int := wrapA .i64 ((Int.ofNat v6.len) - 1)
   (bindV (.val (.one .slice)) (sliceA E h 26 (.slice v6.a v6.len v6.cap v6.sz) none (some (.int .i64 x8))) fun (x9 : SL) =>
   (ixK v0.a v0.len x7 1 fun q10 =>
   (bindV (.val (.one .slice)) (h.cell q10) fun (x11 : SL) =>
   (bind3 (f39_l2 N N v0 v5 x9 x11 (Int.ofNat x11.len) 0 h) fun _ (j26 : (SL × SL × SL × Unit)) h27 =>
   go j26.1 j26.2.1 j26.2.2.1 h27))))))
  else
   some ((Out.exit 0), (v5, ()), h))
noncomputable def f39_l1 (N M : Nat) (v0 : SL) (v5 : SL) (v6 : SL) (h : Heap) : Option (Out × (SL × Unit) × Heap) := iter (fun go s h => f39_l1_b N (fun v0 v5 v6 h => go (v0, v5, v6, ()) h) s.1 s.2.1 s.2.2.1 h) M (v0, v5, v6, ()) h
theorem f39_l1_succ (N M : Nat) (v0 : SL) (v5 : SL) (v6 : SL) (h : Heap) : f39_l1 N (M + 1) v0 v5 v6 h = f39_l1_b N (f39_l1 N M) v0 v5 v6 h := rfl
theorem f39_l1_zero (N : Nat) (v0 : SL) (v5 : SL) (v6 : SL) (h : Heap) : f39_l1 N 0 v0 v5 v6 h = none := rfl
noncomputable def f39 (N : Nat) (a0 : SL) (a1 : Int) (h : Heap) : Option (SL × Heap) :=
  (bindT (.val (.one .slice)) (makeSliceA E 43 (.int .i64 (Int.ofNat a0.len)) (.int .i64 (Int.ofNat a0.len)) h) fun (x1 : SL) h2 =>
  let h3 : Heap := h2.push (.row [(.int .i64 a1)] .own)
  (bind3 (f39_l1 N N a0 x1 ⟨(some (h2.next, 0)), 1, 1, 1⟩ h3) fun _ (j29 : (SL × Unit)) h30 =>
  some (j29.1, h30)))
noncomputable def ann39 : Ann := (.two .n (.two .n (.two .n (.two (.two (.loop [(0, (.one .slice)), (5, (.one .slice)), (6, (.one .slice))] [(.exit 0)] [(5, (.one .slice))] (.two .n (.two (.two .n (.two .n (.two .n (.two (.loop [(0, (.one .slice)), (5, (.one .slice)), (6, (.one .slice)), (32, (.one .slice)), (33, (.one (.int .i64))), (34, (.one (.int .i64)))] [(.exit 2)] [(0, (.one .slice)), (5, (.one .slice)), (6, (.one .slice))] .n) .n)))) .n))) .n) .n))))
theorem f39_ok (N : Nat) : FnOK Try.prog 39 [(.one .slice), (.one (.int .i64))] (.val (.one .slice)) (fun x h => f39 N x.1 x.2.1 h) :=
  runK_ok envOK hmix noCalls_ok (N := N) (x := ann39) (fn := Try.f39) (c := Try.f39.body.getD .skip) (by kernel_rfl) (by kernel_rfl) (by kernel_rfl) (by kernel_rfl) (fun _ _ => by kernel_rfl)

/- usufruct/graph.Below -/
noncomputable def f12_l1_b (N : Nat) (go : SL → SL → Int → Int → Heap → Option (Out × (SL × Unit) × Heap)) (v5 : SL) (v23 : SL) (v24 : Int) (v25 : Int) (h : Heap) : Option (Out × (SL × Unit) × Heap) :=
  let x8 : Bool := ltInt v25 v24
  (bif x8 then
   (ixK v23.a v23.len v25 1 fun q9 =>
   (bindV (.val (.one .bool)) (h.cell q9) fun (x10 : Bool) =>
   (bif x10 then
    let h11 : Heap := h.push (.row [(.int .i64 v25)] .own)
    (bindT (.val (.one .slice)) (appendA E 26 26 (.slice v5.a v5.len v5.cap v5.sz) (.slice (some (h.next, 0)) 1 1 1) h11) fun (x12 : SL) h13 =>
    let x14 : Int := wrapA .i64 (v25 + 1)
    go x12 v23 v24 x14 h13)
   else
    let x15 : Int := wrapA .i64 (v25 + 1)
    go v5 v23 v24 x15 h)))
  else
   some ((Out.exit 0), (v5, ()), h))
noncomputable def f12_l1 (N M : Nat) (v5 : SL) (v23 : SL) (v24 : Int) (v25 : Int) (h : Heap) : Option (Out × (SL × Unit) × Heap) := iter (fun go s h => f12_l1_b N (fun v5 v23 v24 v25 h => go (v5, v23, v24, v25, ()) h) s.1 s.2.1 s.2.2.1 s.2.2.2.1 h) M (v5, v23, v24, v25, ()) h
theorem f12_l1_succ (N M : Nat) (v5 : SL) (v23 : SL) (v24 : Int) (v25 : Int) (h : Heap) : f12_l1 N (M + 1) v5 v23 v24 v25 h = f12_l1_b N (f12_l1 N M) v5 v23 v24 v25 h := rfl
theorem f12_l1_zero (N : Nat) (v5 : SL) (v23 : SL) (v24 : Int) (v25 : Int) (h : Heap) : f12_l1 N 0 v5 v23 v24 v25 h = none := rfl
noncomputable def f12 (N : Nat) (a0 : SL) (a1 : Int) (h : Heap) : Option (SL × Heap) :=
  (bind2 (f38 N a0 h) fun (x1 : AV) h2 =>
  (bindV (.val (.one .bool)) (binA E .neq 32 (.tmp 9) (.const .nilIface) x1 AV.nilIface) fun (x3 : Bool) =>
  (bif x3 then
   some (⟨none, 0, 0, 0⟩, h2)
  else
   let x4 : Bool := ltInt a1 0
   (bif x4 then
    some (⟨none, 0, 0, 0⟩, h2)
   else
    let x5 : Bool := leInt (Int.ofNat a0.len) a1
    (bif x5 then
     some (⟨none, 0, 0, 0⟩, h2)
    else
     (bind2 (f39 N a0 a1 h2) fun (x6 : SL) h7 =>
     (bind3 (f12_l1 N N ⟨none, 0, 0, 0⟩ x6 (Int.ofNat x6.len) 0 h7) fun _ (j17 : (SL × Unit)) h18 =>
     some (j17.1, h18))))))))
noncomputable def ann12 : Ann := (.two .n (.two .n (.two .n (.two (.two .n (.two (.loop [(5, (.one .slice)), (23, (.one .slice)), (24, (.one (.int .i64))), (25, (.one (.int .i64)))] [(.exit 0)] [(5, (.one .slice))] .n) .n)) .n))))
theorem f12_ok (N : Nat) : FnOK Try.prog 12 [(.one .slice), (.one (.int .i64))] (.val (.one .slice)) (fun x h => f12 N x.1 x.2.1 h) :=
  runK_ok envOK hmix (addCall_ok (f39_ok N) (addCall_ok (f38_ok N) noCalls_ok)) (N := N) (x := ann12) (fn := Try.f12) (c := Try.f12.body.getD .skip) (by kernel_rfl) (by kernel_rfl) (by kernel_rfl) (by kernel_rfl) (fun _ _ => by kernel_rfl)

/- usufruct/usufructlaw11.has -/
noncomputable def f13_l1_b (N : Nat) (go : SL → Int → Bool → Int → Heap → Option (Out × (Bool × Unit) × Heap)) (v0 : SL) (v1 : Int) (v4 : Bool) (v5 : Int) (h : Heap) : Option (Out × (Bool × Unit) × Heap) :=
  let x1 : Bool := ltInt v5 (Int.ofNat v0.len)
  (bif x1 then
   (ixK v0.a v0.len v5 1 fun q2 =>
   (bindV (.val (.one (.int .i64))) (h.cell q2) fun (x3 : Int) =>
   let x4 : Bool := eqInt x3 v1
   (bif x4 then
    some (Out.ret, (true, ()), h)
   else
    let x5 : Int := wrapA .i64 (v5 + 1)
    go v0 v1 v4 x5 h)))
  else
   some ((Out.exit 0), (v4, ()), h))
noncomputable def f13_l1 (N M : Nat) (v0 : SL) (v1 : Int) (v4 : Bool) (v5 : Int) (h : Heap) : Option (Out × (Bool × Unit) × Heap) := iter (fun go s h => f13_l1_b N (fun v0 v1 v4 v5 h => go (v0, v1, v4, v5, ()) h) s.1 s.2.1 s.2.2.1 s.2.2.2.1 h) M (v0, v1, v4, v5, ()) h
theorem f13_l1_succ (N M : Nat) (v0 : SL) (v1 : Int) (v4 : Bool) (v5 : Int) (h : Heap) : f13_l1 N (M + 1) v0 v1 v4 v5 h = f13_l1_b N (f13_l1 N M) v0 v1 v4 v5 h := rfl
theorem f13_l1_zero (N : Nat) (v0 : SL) (v1 : Int) (v4 : Bool) (v5 : Int) (h : Heap) : f13_l1 N 0 v0 v1 v4 v5 h = none := rfl
noncomputable def f13 (N : Nat) (a0 : SL) (a1 : Int) (h : Heap) : Option (Bool × Heap) :=
  (bind3 (f13_l1 N N a0 a1 false 0 h) fun o6 (j7 : (Bool × Unit)) h8 =>
  (bif eqOut o6 (.exit 0) then
   some (false, h8)
  else
   some (j7.1, h8)))
noncomputable def ann13 : Ann := (.two .n (.two (.two .n (.two (.loop [(0, (.one .slice)), (1, (.one (.int .i64))), (4, (.one .bool)), (5, (.one (.int .i64)))] [(.exit 0), .ret] [(4, (.one .bool))] .n) .n)) .n))
theorem f13_ok (N : Nat) : FnOK Try.prog 13 [(.one .slice), (.one (.int .i64))] (.val (.one .bool)) (fun x h => f13 N x.1 x.2.1 h) :=
  runK_ok envOK hmix noCalls_ok (N := N) (x := ann13) (fn := Try.f13) (c := Try.f13.body.getD .skip) (by kernel_rfl) (by kernel_rfl) (by kernel_rfl) (by kernel_rfl) (fun _ _ => by kernel_rfl)

/- usufruct/usufructlaw11.GraphBelow -/
noncomputable def f3_l7_b (N : Nat) (go : Bool → SL → Int → SL → Int → Bool → Int → Int → Heap → Option (Out × (Bool × SL × Int × SL × Int × Bool × Int × Unit) × Heap)) (v4 : Bool) (v5 : SL) (v8 : Int) (v9 : SL) (v11 : Int) (v12 : Bool) (v13 : Int) (v14 : Int) (h : Heap) : Option (Out × (Bool × SL × Int × SL × Int × Bool × Int × Unit) × Heap) :=
  (ixK v9.a v9.len v13 1 fun q114 =>
  (bindV (.val (.one (.int .i64))) (h.cell q114) fun (x115 : Int) =>
  (ixK v5.a v5.len x115 1 fun q116 =>
  (bindV (.val (.one .slice)) (h.cell q116) fun (x117 : SL) =>
  let x118 : Bool := ltInt v14 (Int.ofNat x117.len)
  (bif x118 then
   (ixK v9.a v9.len v13 1 fun q119 =>
   (bindV (.val (.one (.int .i64))) (h.cell q119) fun (x120 : Int) =>
   (ixK v5.a v5.len x120 1 fun q121 =>
   (bindV (.val (.one .slice)) (h.cell q121) fun (x122 : SL) =>
   (ixK x122.a x122.len v14 1 fun q123 =>
   (bindV (.val (.one (.int .i64))) (h.cell q123) fun (x124 : Int) =>
   (bind2 (f13 N v9 x124 h) fun (x125 : Bool) h126 =>
   let x127 : Bool := !x125
   (bif x127 then
    some (Out.ret, (false, v5, v8, v9, v11, v12, v13, ()), h126)
   else
    let x128 : Int := wrapA .i64 (v14 + 1)
    go v4 v5 v8 v9 v11 v12 v13 x128 h126))))))))
  else
   some ((Out.exit 8), (v4, v5, v8, v9, v11, v12, v13, ()), h))))))
noncomputable def f3_l7 (N M : Nat) (v4 : Bool) (v5 : SL) (v8 : Int) (v9 : SL) (v11 : Int) (v12 : Bool) (v13 : Int) (v14 : Int) (h : Heap) : Option (Out × (Bool × SL × Int × SL × Int × Bool × Int × Unit) × Heap) := iter (fun go s h => f3_l7_b N (fun v4 v5 v8 v9 v11 v12 v13 v14 h => go (v4, v5, v8, v9, v11, v12, v13, v14, ()) h) s.1 s.2.1 s.2.2.1 s.2.2.2.1 s.2.2.2.2.1 s.2.2.2.2.2.1 s.2.2.2.2.2.2.1 s.2.2.2.2.2.2.2.1 h) M (v4, v5, v8, v9, v11, v12, v13, v14, ()) h
theorem f3_l7_succ (N M : Nat) (v4 : Bool) (v5 : SL) (v8 : Int) (v9 : SL) (v11 : Int) (v12 : Bool) (v13 : Int) (v14 : Int) (h : Heap) : f3_l7 N (M + 1) v4 v5 v8 v9 v11 v12 v13 v14 h = f3_l7_b N (f3_l7 N M) v4 v5 v8 v9 v11 v12 v13 v14 h := rfl
theorem f3_l7_zero (N : Nat) (v4 : Bool) (v5 : SL) (v8 : Int) (v9 : SL) (v11 : Int) (v12 : Bool) (v13 : Int) (v14 : Int) (h : Heap) : f3_l7 N 0 v4 v5 v8 v9 v11 v12 v13 v14 h = none := rfl
noncomputable def f3_l6_b (N : Nat) (go : Bool → SL → Int → SL → Int → Bool → Int → Heap → Option (Out × (Bool × SL × Int × SL × Int × Bool × Unit) × Heap)) (v4 : Bool) (v5 : SL) (v8 : Int) (v9 : SL) (v11 : Int) (v12 : Bool) (v13 : Int) (h : Heap) : Option (Out × (Bool × SL × Int × SL × Int × Bool × Unit) × Heap) :=
  let x102 : Bool := ltInt v13 (Int.ofNat v9.len)
  (bif x102 then
   (bind2 (α := (Bool × SL × Int × SL × Int × Bool × Int × Unit)) (
    (bif v12 then
     some ((v4, v5, v8, v9, v11, true, v13, ()), h)
    else
     let x103 : Bool := !eqInt v13 v11
     (bif x103 then
      (ixK v9.a v9.len v13 1 fun q104 =>
      (bindV (.val (.one (.int .i64))) (h.cell q104) fun (x105 : Int) =>
      (ixK v5.a v5.len x105 1 fun q106 =>
      (bindV (.val (.one .slice)) (h.cell q106) fun (x107 : SL) =>
      (ixK v9.a v9.len v11 1 fun q108 =>
      (bindV (.val (.one (.int .i64))) (h.cell q108) fun (x109 : Int) =>
      (bind2 (f13 N x107 x109 h) fun (x110 : Bool) h111 =>
      some ((v4, v5, v8, v9, v11, x110, v13, ()), h111))))))))
     else
      some ((v4, v5, v8, v9, v11, false, v13, ()), h)))) fun (j112 : (Bool × SL × Int × SL × Int × Bool × Int × Unit)) h113 =>
   (bind3 (f3_l7 N N j112.1 j112.2.1 j112.2.2.1 j112.2.2.2.1 j112.2.2.2.2.1 j112.2.2.2.2.2.1 j112.2.2.2.2.2.2.1 0 h113) fun o129 (j130 : (Bool × SL × Int × SL × Int × Bool × Int × Unit)) h131 =>
   (bif eqOut o129 (.exit 8) then
    let x132 : Int := wrapA .i64 (j130.2.2.2.2.2.2.1 + 1)
    go j130.1 j130.2.1 j130.2.2.1 j130.2.2.2.1 j130.2.2.2.2.1 j130.2.2.2.2.2.1 x132 h131
   else
    some (Out.ret, (j130.1, j130.2.1, j130.2.2.1, j130.2.2.2.1, j130.2.2.2.2.1, j130.2.2.2.2.2.1, ()), h131))))
  else
   some ((Out.exit 6), (v4, v5, v8, v9, v11, v12, ()), h))
noncomputable def f3_l6 (N M : Nat) (v4 : Bool) (v5 : SL) (v8 : Int) (v9 : SL) (v11 : Int) (v12 : Bool) (v13 : Int) (h : Heap) : Option (Out × (Bool × SL × Int × SL × Int × Bool × Unit) × Heap) := iter (fun go s h => f3_l6_b N (fun v4 v5 v8 v9 v11 v12 v13 h => go (v4, v5, v8, v9, v11, v12, v13, ()) h) s.1 s.2.1 s.2.2.1 s.2.2.2.1 s.2.2.2.2.1 s.2.2.2.2.2.1 s.2.2.2.2.2.2.1 h) M (v4, v5, v8, v9, v11, v12, v13, ()) h
theorem f3_l6_succ (N M : Nat) (v4 : Bool) (v5 : SL) (v8 : Int) (v9 : SL) (v11 : Int) (v12 : Bool) (v13 : Int) (h : Heap) : f3_l6 N (M + 1) v4 v5 v8 v9 v11 v12 v13 h = f3_l6_b N (f3_l6 N M) v4 v5 v8 v9 v11 v12 v13 h := rfl
theorem f3_l6_zero (N : Nat) (v4 : Bool) (v5 : SL) (v8 : Int) (v9 : SL) (v11 : Int) (v12 : Bool) (v13 : Int) (h : Heap) : f3_l6 N 0 v4 v5 v8 v9 v11 v12 v13 h = none := rfl
noncomputable def f3_l5_b (N : Nat) (go : Bool → SL → Int → SL → Int → Bool → Int → Int → Heap → Option (Out × (Bool × SL × Int × SL × Int × Bool × Int × Unit) × Heap)) (v4 : Bool) (v5 : SL) (v8 : Int) (v9 : SL) (v11 : Int) (v12 : Bool) (v13 : Int) (v14 : Int) (h : Heap) : Option (Out × (Bool × SL × Int × SL × Int × Bool × Int × Unit) × Heap) :=
  (ixK v9.a v9.len v13 1 fun q72 =>
  (bindV (.val (.one (.int .i64))) (h.cell q72) fun (x73 : Int) =>
  (ixK v5.a v5.len x73 1 fun q74 =>
  (bindV (.val (.one .slice)) (h.cell q74) fun (x75 : SL) =>
  let x76 : Bool := ltInt v14 (Int.ofNat x75.len)
  (bif x76 then
   (ixK v9.a v9.len v13 1 fun q77 =>
   (bindV (.val (.one (.int .i64))) (h.cell q77) fun (x78 : Int) =>
   (ixK v5.a v5.len x78 1 fun q79 =>
   (bindV (.val (.one .slice)) (h.cell q79) fun (x80 : SL) =>
   (ixK x80.a x80.len v14 1 fun q81 =>
   (bindV (.val (.one (.int .i64))) (h.cell q81) fun (x82 : Int) =>
   (bind2 (f13 N v9 x82 h) fun (x83 : Bool) h84 =>
   let x85 : Bool := !x83
   (bif x85 then
    some (Out.ret, (false, v5, v8, v9, v11, v12, v13, ()), h84)
   else
    let x86 : Int := wrapA .i64 (v14 + 1)
    go v4 v5 v8 v9 v11 v12 v13 x86 h84))))))))
  else
   some ((Out.exit 8), (v4, v5, v8, v9, v11, v12, v13, ()), h))))))
noncomputable def f3_l5 (N M : Nat) (v4 : Bool) (v5 : SL) (v8 : Int) (v9 : SL) (v11 : Int) (v12 : Bool) (v13 : Int) (v14 : Int) (h : Heap) : Option (Out × (Bool × SL × Int × SL × Int × Bool × Int × Unit) × Heap) := iter (fun go s h => f3_l5_b N (fun v4 v5 v8 v9 v11 v12 v13 v14 h => go (v4, v5, v8, v9, v11, v12, v13, v14, ()) h) s.1 s.2.1 s.2.2.1 s.2.2.2.1 s.2.2.2.2.1 s.2.2.2.2.2.1 s.2.2.2.2.2.2.1 s.2.2.2.2.2.2.2.1 h) M (v4, v5, v8, v9, v11, v12, v13, v14, ()) h
theorem f3_l5_succ (N M : Nat) (v4 : Bool) (v5 : SL) (v8 : Int) (v9 : SL) (v11 : Int) (v12 : Bool) (v13 : Int) (v14 : Int) (h : Heap) : f3_l5 N (M + 1) v4 v5 v8 v9 v11 v12 v13 v14 h = f3_l5_b N (f3_l5 N M) v4 v5 v8 v9 v11 v12 v13 v14 h := rfl
theorem f3_l5_zero (N : Nat) (v4 : Bool) (v5 : SL) (v8 : Int) (v9 : SL) (v11 : Int) (v12 : Bool) (v13 : Int) (v14 : Int) (h : Heap) : f3_l5 N 0 v4 v5 v8 v9 v11 v12 v13 v14 h = none := rfl
noncomputable def f3_l4_b (N : Nat) (go : Bool → SL → Int → SL → Int → Bool → Int → Heap → Option (Out × (Bool × SL × Int × SL × Int × Bool × Unit) × Heap)) (v4 : Bool) (v5 : SL) (v8 : Int) (v9 : SL) (v11 : Int) (v12 : Bool) (v13 : Int) (h : Heap) : Option (Out × (Bool × SL × Int × SL × Int × Bool × Unit) × Heap) :=
  let x60 : Bool := ltInt v13 (Int.ofNat v9.len)
  (bif x60 then
   (bind2 (α := (Bool × SL × Int × SL × Int × Bool × Int × Unit)) (
    (bif v12 then
     some ((v4, v5, v8, v9, v11, true, v13, ()), h)
    else
     let x61 : Bool := !eqInt v13 v11
     (bif x61 then
      (ixK v9.a v9.len v13 1 fun q62 =>
      (bindV (.val (.one (.int .i64))) (h.cell q62) fun (x63 : Int) =>
      (ixK v5.a v5.len x63 1 fun q64 =>
      (bindV (.val (.one .slice)) (h.cell q64) fun (x65 : SL) =>
      (ixK v9.a v9.len v11 1 fun q66 =>
      (bindV (.val (.one (.int .i64))) (h.cell q66) fun (x67 : Int) =>
      (bind2 (f13 N x65 x67 h) fun (x68 : Bool) h69 =>
      some ((v4, v5, v8, v9, v11, x68, v13, ()), h69))))))))
     else
      some ((v4, v5, v8, v9, v11, false, v13, ()), h)))) fun (j70 : (Bool × SL × Int × SL × Int × Bool × Int × Unit)) h71 =>
   (bind3 (f3_l5 N N j70.1 j70.2.1 j70.2.2.1 j70.2.2.2.1 j70.2.2.2.2.1 j70.2.2.2.2.2.1 j70.2.2.2.2.2.2.1 0 h71) fun o87 (j88 : (Bool × SL × Int × SL × Int × Bool × Int × Unit)) h89 =>
   (bif eqOut o87 (.exit 8) then
    let x90 : Int := wrapA .i64 (j88.2.2.2.2.2.2.1 + 1)
    go j88.1 j88.2.1 j88.2.2.1 j88.2.2.2.1 j88.2.2.2.2.1 j88.2.2.2.2.2.1 x90 h89
   else
    some (Out.ret, (j88.1, j88.2.1, j88.2.2.1, j88.2.2.2.1, j88.2.2.2.2.1, j88.2.2.2.2.2.1, ()), h89))))
  else
   some ((Out.exit 6), (v4, v5, v8, v9, v11, v12, ()), h))
noncomputable def f3_l4 (N M : Nat) (v4 : Bool) (v5 : SL) (v8 : Int) (v9 : SL) (v11 : Int) (v12 : Bool) (v13 : Int) (h : Heap) : Option (Out × (Bool × SL × Int × SL × Int × Bool × Unit) × Heap) := iter (fun go s h => f3_l4_b N (fun v4 v5 v8 v9 v11 v12 v13 h => go (v4, v5, v8, v9, v11, v12, v13, ()) h) s.1 s.2.1 s.2.2.1 s.2.2.2.1 s.2.2.2.2.1 s.2.2.2.2.2.1 s.2.2.2.2.2.2.1 h) M (v4, v5, v8, v9, v11, v12, v13, ()) h
theorem f3_l4_succ (N M : Nat) (v4 : Bool) (v5 : SL) (v8 : Int) (v9 : SL) (v11 : Int) (v12 : Bool) (v13 : Int) (h : Heap) : f3_l4 N (M + 1) v4 v5 v8 v9 v11 v12 v13 h = f3_l4_b N (f3_l4 N M) v4 v5 v8 v9 v11 v12 v13 h := rfl
theorem f3_l4_zero (N : Nat) (v4 : Bool) (v5 : SL) (v8 : Int) (v9 : SL) (v11 : Int) (v12 : Bool) (v13 : Int) (h : Heap) : f3_l4 N 0 v4 v5 v8 v9 v11 v12 v13 h = none := rfl
noncomputable def f3_l3_b (N : Nat) (go : Bool → SL → Int → SL → Int → Heap → Option (Out × (Bool × Unit) × Heap)) (v4 : Bool) (v5 : SL) (v8 : Int) (v9 : SL) (v11 : Int) (h : Heap) : Option (Out × (Bool × Unit) × Heap) :=
  let x40 : Bool := ltInt v11 (Int.ofNat v9.len)
  (bif x40 then
   (ixK v9.a v9.len v11 1 fun q41 =>
   (bindV (.val (.one (.int .i64))) (h.cell q41) fun (x42 : Int) =>
   let x43 : Bool := ltInt x42 0
   (bif x43 then
    some (Out.ret, (false, ()), h)
   else
    (ixK v9.a v9.len v11 1 fun q44 =>
    (bindV (.val (.one (.int .i64))) (h.cell q44) fun (x45 : Int) =>
    let x46 : Bool := leInt (Int.ofNat v5.len) x45
    (bif x46 then
     some (Out.ret, (false, ()), h)
    else
     let x47 : Bool := ltInt 0 v11
     (bif x47 then
      let x48 : Int := wrapA .i64 (v11 - 1)
      (ixK v9.a v9.len x48 1 fun q49 =>
      (bindV (.val (.one (.int .i64))) (h.cell q49) fun (x50 : Int) =>
      (ixK v9.a v9.len v11 1 fun q51 =>
      (bindV (.val (.one (.int .i64))) (h.cell q51) fun (x52 : Int) =>
      let x53 : Bool := leInt x52 x50
      (bif x53 then
       some (Out.ret, (false, ()), h)
      else
       (ixK v5.a v5.len v8 1 fun q54 =>
       (bindV (.val (.one .slice)) (h.cell q54) fun (x55 : SL) =>
       (ixK v9.a v9.len v11 1 fun q56 =>
       (bindV (.val (.one (.int .i64))) (h.cell q56) fun (x57 : Int) =>
       (bind2 (f13 N x55 x57 h) fun (x58 : Bool) h59 =>
       (bind3 (f3_l4 N N v4 v5 v8 v9 v11 x58 0 h59) fun o91 (j92 : (Bool × SL × Int × SL × Int × Bool × Unit)) h93 =>
       (bif eqOut o91 (.exit 6) then
        let x94 : Bool := !j92.2.2.2.2.2.1
        (bif x94 then
         some (Out.ret, (false, ()), h93)
        else
         let x95 : Int := wrapA .i64 (j92.2.2.2.2.1 + 1)
         go j92.1 j92.2.1 j92.2.2.1 j92.2.2.2.1 x95 h93)
       else
        some (Out.ret, (j92.1, ()), h93)))))))))))))
     else
      (ixK v5.a v5.len v8 1 fun q96 =>
      (bindV (.val (.one .slice)) (h.cell q96) fun (x97 : SL) =>
      (ixK v9.a v9.len v11 1 fun q98 =>
      (bindV (.val (.one (.int .i64))) (h.cell q98) fun (x99 : Int) =>
      (bind2 (f13 N x97 x99 h) fun (x100 : Bool) h101 =>
      (bind3 (f3_l6 N N v4 v5 v8 v9 v11 x100 0 h101) fun o133 (j134 : (Bool × SL × Int × SL × Int × Bool × Unit)) h135 =>
      (bif eqOut o133 (.exit 6) then
       let x136 : Bool := !j134.2.2.2.2.2.1
       (bif x136 then
        some (Out.ret, (false, ()), h135)
       else
        let x137 : Int := wrapA .i64 (j134.2.2.2.2.1 + 1)
        go j134.1 j134.2.1 j134.2.2.1 j134.2.2.2.1 x137 h135)
      else
       some (Out.ret, (j134.1, ()), h135)))))))))))))))
  else
   some ((Out.exit 4), (v4, ()), h))
noncomputable def f3_l3 (N M : Nat) (v4 : Bool) (v5 : SL) (v8 : Int) (v9 : SL) (v11 : Int) (h : Heap) : Option (Out × (Bool × Unit) × Heap) := iter (fun go s h => f3_l3_b N (fun v4 v5 v8 v9 v11 h => go (v4, v5, v8, v9, v11, ()) h) s.1 s.2.1 s.2.2.1 s.2.2.2.1 s.2.2.2.2.1 h) M (v4, v5, v8, v9, v11, ()) h
theorem f3_l3_succ (N M : Nat) (v4 : Bool) (v5 : SL) (v8 : Int) (v9 : SL) (v11 : Int) (h : Heap) : f3_l3 N (M + 1) v4 v5 v8 v9 v11 h = f3_l3_b N (f3_l3 N M) v4 v5 v8 v9 v11 h := rfl
theorem f3_l3_zero (N : Nat) (v4 : Bool) (v5 : SL) (v8 : Int) (v9 : SL) (v11 : Int) (h : Heap) : f3_l3 N 0 v4 v5 v8 v9 v11 h = none := rfl
noncomputable def f3_l2_b (N : Nat) (go : Bool → SL → Int → SL → Int → Heap → Option (Out × (Bool × SL × Int × SL × Unit) × Heap)) (v4 : Bool) (v5 : SL) (v8 : Int) (v9 : SL) (v10 : Int) (h : Heap) : Option (Out × (Bool × SL × Int × SL × Unit) × Heap) :=
  (ixK v5.a v5.len v8 1 fun q26 =>
  (bindV (.val (.one .slice)) (h.cell q26) fun (x27 : SL) =>
  let x28 : Bool := ltInt v10 (Int.ofNat x27.len)
  (bif x28 then
   (ixK v5.a v5.len v8 1 fun q29 =>
   (bindV (.val (.one .slice)) (h.cell q29) fun (x30 : SL) =>
   (ixK x30.a x30.len v10 1 fun q31 =>
   (bindV (.val (.one (.int .i64))) (h.cell q31) fun (x32 : Int) =>
   (bind2 (f13 N v9 x32 h) fun (x33 : Bool) h34 =>
   let x35 : Bool := !x33
   (bif x35 then
    some (Out.ret, (false, v5, v8, v9, ()), h34)
   else
    let x36 : Int := wrapA .i64 (v10 + 1)
    go v4 v5 v8 v9 x36 h34))))))
  else
   some ((Out.exit 2), (v4, v5, v8, v9, ()), h))))
noncomputable def f3_l2 (N M : Nat) (v4 : Bool) (v5 : SL) (v8 : Int) (v9 : SL) (v10 : Int) (h : Heap) : Option (Out × (Bool × SL × Int × SL × Unit) × Heap) := iter (fun go s h => f3_l2_b N (fun v4 v5 v8 v9 v10 h => go (v4, v5, v8, v9, v10, ()) h) s.1 s.2.1 s.2.2.1 s.2.2.2.1 s.2.2.2.2.1 h) M (v4, v5, v8, v9, v10, ()) h
theorem f3_l2_succ (N M : Nat) (v4 : Bool) (v5 : SL) (v8 : Int) (v9 : SL) (v10 : Int) (h : Heap) : f3_l2 N (M + 1) v4 v5 v8 v9 v10 h = f3_l2_b N (f3_l2 N M) v4 v5 v8 v9 v10 h := rfl
theorem f3_l2_zero (N : Nat) (v4 : Bool) (v5 : SL) (v8 : Int) (v9 : SL) (v10 : Int) (h : Heap) : f3_l2 N 0 v4 v5 v8 v9 v10 h = none := rfl
noncomputable def f3_l1_b (N : Nat) (go : Int → Bool → SL → Int → Heap → Option (Out × (Int × Bool × SL × Unit) × Heap)) (v1 : Int) (v4 : Bool) (v5 : SL) (v7 : Int) (h : Heap) : Option (Out × (Int × Bool × SL × Unit) × Heap) :=
  let x10 : Bool := ltInt v7 (Int.ofNat v5.len)
  (bif x10 then
   (ixK v5.a v5.len v7 1 fun q11 =>
   (bindV (.val (.one .slice)) (h.cell q11) fun (x12 : SL) =>
   let x13 : Bool := ltInt 64 (Int.ofNat x12.len)
   (bif x13 then
    (bind2 (f11 N  h) fun (x14 : Bool) h15 =>
    some (Out.ret, (v1, x14, v5, ()), h15))
   else
    let x16 : Int := wrapA .i64 (v7 + 1)
    go v1 v4 v5 x16 h)))
  else
   some ((Out.exit 0), (v1, v4, v5, ()), h))
noncomputable def f3_l1 (N M : Nat) (v1 : Int) (v4 : Bool) (v5 : SL) (v7 : Int) (h : Heap) : Option (Out × (Int × Bool × SL × Unit) × Heap) := iter (fun go s h => f3_l1_b N (fun v1 v4 v5 v7 h => go (v1, v4, v5, v7, ()) h) s.1 s.2.1 s.2.2.1 s.2.2.2.1 h) M (v1, v4, v5, v7, ()) h
theorem f3_l1_succ (N M : Nat) (v1 : Int) (v4 : Bool) (v5 : SL) (v7 : Int) (h : Heap) : f3_l1 N (M + 1) v1 v4 v5 v7 h = f3_l1_b N (f3_l1 N M) v1 v4 v5 v7 h := rfl
theorem f3_l1_zero (N : Nat) (v1 : Int) (v4 : Bool) (v5 : SL) (v7 : Int) (h : Heap) : f3_l1 N 0 v1 v4 v5 v7 h = none := rfl
noncomputable def f3 (N : Nat) (a0 : SL) (a1 : Int) (h : Heap) : Option (Bool × Heap) :=
  (bind2 (f10 N a0 false h) fun (x1 : (SL × Bool × Unit)) h2 =>
  (bind2 (α := (Int × Bool × SL × Bool × Unit)) (
   let x3 : Bool := !x1.2.1
   (bif x3 then
    some ((a1, false, x1.1, true, ()), h2)
   else
    let x4 : Bool := eqInt (Int.ofNat x1.1.len) 0
    (bif x4 then
     some ((a1, false, x1.1, true, ()), h2)
    else
     let x5 : Bool := ltInt 64 (Int.ofNat x1.1.len)
     some ((a1, false, x1.1, x5, ()), h2)))) fun (j6 : (Int × Bool × SL × Bool × Unit)) h7 =>
  (bif j6.2.2.2.1 then
   (bind2 (f11 N  h7) fun (x8 : Bool) h9 =>
   some (x8, h9))
  else
   (bind3 (f3_l1 N N j6.1 j6.2.1 j6.2.2.1 0 h7) fun o17 (j18 : (Int × Bool × SL × Unit)) h19 =>
   (bif eqOut o17 (.exit 0) then
    let x20 : Int := wrapA .u64 j18.1
    let x21 : Int := wrapA .u64 (Int.ofNat j18.2.2.1.len)
    (bindV (.val (.one (.int .u64))) (binInt .rem .u64 x20 x21) fun (x22 : Int) =>
    let x23 : Int := wrapA .i64 x22
    (bind2 (f12 N j18.2.2.1 x23 h19) fun (x24 : SL) h25 =>
    (bind3 (f3_l2 N N j18.2.1 j18.2.2.1 x23 x24 0 h25) fun o37 (j38 : (Bool × SL × Int × SL × Unit)) h39 =>
    (bif eqOut o37 (.exit 2) then
     (bind3 (f3_l3 N N j38.1 j38.2.1 j38.2.2.1 j38.2.2.2.1 0 h39) fun o138 (j139 : (Bool × Unit)) h140 =>
     (bif eqOut o138 (.exit 4) then
      (bind2 (f11 N  h140) fun (x141 : Bool) h142 =>
      some (x141, h142))
     else
      some (j139.1, h140)))
    else
     some (j38.1, h39)))))
   else
    some (j18.2.1, h19))))))
noncomputable def ann3 : Ann := (.two .n (.two .n (.two (.two (.join [(1, (.one (.int .i64))), (4, (.one .bool)), (5, (.one .slice)), (31, (.one .bool))] .n) .n) (.two (.two .n (.two (.loop [(1, (.one (.int .i64))), (4, (.one .bool)), (5, (.one .slice)), (7, (.one (.int .i64)))] [(.exit 0), .ret] [(1, (.one (.int .i64))), (4, (.one .bool)), (5, (.one .slice))] .n) .n)) (.two .n (.two .n (.two (.two .n (.two (.loop [(4, (.one .bool)), (5, (.one .slice)), (8, (.one (.int .i64))), (9, (.one .slice)), (10, (.one (.int .i64)))] [(.exit 2), .ret] [(4, (.one .bool)), (5, (.one .slice)), (8, (.one (.int .i64))), (9, (.one .slice))] .n) .n)) (.two (.two .n (.two (.loop [(4, (.one .bool)), (5, (.one .slice)), (8, (.one (.int .i64))), (9, (.one .slice)), (11, (.one (.int .i64)))] [(.exit 4), .ret] [(4, (.one .bool))] (.two .n (.two (.two (.two .n (.two .n (.two (.two .n (.two (.loop [(4, (.one .bool)), (5, (.one .slice)), (8, (.one (.int .i64))), (9, (.one .slice)), (11, (.one (.int .i64))), (12, (.one .bool)), (13, (.one (.int .i64)))] [(.exit 6), .ret] [(4, (.one .bool)), (5, (.one .slice)), (8, (.one (.int .i64))), (9, (.one .slice)), (11, (.one (.int .i64))), (12, (.one .bool))] (.two .n (.two (.two (.two (.join [(4, (.one .bool)), (5, (.one .slice)), (8, (.one (.int .i64))), (9, (.one .slice)), (11, (.one (.int .i64))), (12, (.one .bool)), (13, (.one (.int .i64)))] .n) (.two .n (.two (.loop [(4, (.one .bool)), (5, (.one .slice)), (8, (.one (.int .i64))), (9, (.one .slice)), (11, (.one (.int .i64))), (12, (.one .bool)), (13, (.one (.int .i64))), (14, (.one (.int .i64)))] [(.exit 8), .ret] [(4, (.one .bool)), (5, (.one .slice)), (8, (.one (.int .i64))), (9, (.one .slice)), (11, (.one (.int .i64))), (12, (.one .bool)), (13, (.one (.int .i64)))] .n) .n))) .n) .n))) .n)) .n))) .n) .n))) .n)) .n))))))))
theorem f3_ok (N : Nat) : FnOK Try.prog 3 [(.one .slice), (.one (.int .i64))] (.val (.one .bool)) (fun x h => f3 N x.1 x.2.1 h) :=
  runK_ok envOK hmix (addCall_ok (f13_ok N) (addCall_ok (f12_ok N) (addCall_ok (f11_ok N) (addCall_ok (f10_ok N) noCalls_ok)))) (N := N) (x := ann3) (fn := Try.f3) (c := Try.f3.body.getD .skip) (by kernel_rfl) (by kernel_rfl) (by kernel_rfl) (by kernel_rfl) (fun _ _ => by kernel_rfl)

/- usufruct/graph.ringed -/
noncomputable def f43_l1_b (N : Nat) (go : SL → Int → Int → Int → Heap → Option (Out × (Int × Unit) × Heap)) (v0 : SL) (v2 : Int) (v5 : Int) (v6 : Int) (h : Heap) : Option (Out × (Int × Unit) × Heap) :=
  let x1 : Bool := ltInt v6 v5
  (bif x1 then
   (bind2 (f39 N v0 v6 h) fun (x2 : SL) h3 =>
   (ixK x2.a x2.len v6 1 fun q4 =>
   (bindV (.val (.one .bool)) (h3.cell q4) fun (x5 : Bool) =>
   (bif x5 then
    some (Out.ret, (v6, ()), h3)
   else
    let x6 : Int := wrapA .i64 (v6 + 1)
    go v0 v2 v5 x6 h3))))
  else
   some ((Out.exit 0), (v2, ()), h))
noncomputable def f43_l1 (N M : Nat) (v0 : SL) (v2 : Int) (v5 : Int) (v6 : Int) (h : Heap) : Option (Out × (Int × Unit) × Heap) := iter (fun go s h => f43_l1_b N (fun v0 v2 v5 v6 h => go (v0, v2, v5, v6, ()) h) s.1 s.2.1 s.2.2.1 s.2.2.2.1 h) M (v0, v2, v5, v6, ()) h
theorem f43_l1_succ (N M : Nat) (v0 : SL) (v2 : Int) (v5 : Int) (v6 : Int) (h : Heap) : f43_l1 N (M + 1) v0 v2 v5 v6 h = f43_l1_b N (f43_l1 N M) v0 v2 v5 v6 h := rfl
theorem f43_l1_zero (N : Nat) (v0 : SL) (v2 : Int) (v5 : Int) (v6 : Int) (h : Heap) : f43_l1 N 0 v0 v2 v5 v6 h = none := rfl
noncomputable def f43 (N : Nat) (a0 : SL) (h : Heap) : Option (Int × Heap) :=
  (bind3 (f43_l1 N N a0 0 (Int.ofNat a0.len) 0 h) fun o7 (j8 : (Int × Unit)) h9 =>
  (bif eqOut o7 (.exit 0) then
   some ((-1), h9)
  else
   some (j8.1, h9)))
noncomputable def ann43 : Ann := (.two .n (.two (.two .n (.two (.loop [(0, (.one .slice)), (2, (.one (.int .i64))), (5, (.one (.int .i64))), (6, (.one (.int .i64)))] [(.exit 0), .ret] [(2, (.one (.int .i64)))] .n) .n)) .n))
theorem f43_ok (N : Nat) : FnOK Try.prog 43 [(.one .slice)] (.val (.one (.int .i64))) (fun x h => f43 N x.1 h) :=
  runK_ok envOK hmix (addCall_ok (f39_ok N) noCalls_ok) (N := N) (x := ann43) (fn := Try.f43) (c := Try.f43.body.getD .skip) (by kernel_rfl) (by kernel_rfl) (by kernel_rfl) (by kernel_rfl) (fun _ _ => by kernel_rfl)

/- usufruct/graph.check -/
noncomputable def f40 (N : Nat) (a0 : SL) (h : Heap) : Option (AV × Heap) :=
  (bind2 (f38 N a0 h) fun (x1 : AV) h2 =>
  (bindV (.val (.one .bool)) (binA E .neq 32 (.tmp 7) (.const .nilIface) x1 AV.nilIface) fun (x3 : Bool) =>
  (bif x3 then
   some (x1, h2)
  else
   (bind2 (f43 N a0 h2) fun (x4 : Int) h5 =>
   let x6 : Bool := leInt 0 x4
   (bif x6 then
    (bind2 (f46 N 42 x4 h5) fun (x7 : AV) h8 =>
    some (x7, h8))
   else
    some (AV.nilIface, h5))))))
noncomputable def ann40 : Ann := .n
theorem f40_ok (N : Nat) : FnOK Try.prog 40 [(.one .slice)] (.val (.one .any)) (fun x h => f40 N x.1 h) :=
  runK_ok envOK hmix (addCall_ok (f46_ok N) (addCall_ok (f43_ok N) (addCall_ok (f38_ok N) noCalls_ok))) (N := N) (x := ann40) (fn := Try.f40) (c := Try.f40.body.getD .skip) (by kernel_rfl) (by kernel_rfl) (by kernel_rfl) (by kernel_rfl) (fun _ _ => by kernel_rfl)

/- usufruct/graph.Order -/
noncomputable def f14_l3_b (N : Nat) (go : SL → SL → SL → Int → Int → SL → Int → Int → SL → Int → Int → Heap → Option (Out × (SL × SL × SL × Int × Int × SL × Int × Int × Unit) × Heap)) (v0 : SL) (v5 : SL) (v6 : SL) (v7 : Int) (v9 : Int) (v26 : SL) (v27 : Int) (v28 : Int) (v33 : SL) (v34 : Int) (v35 : Int) (h : Heap) : Option (Out × (SL × SL × SL × Int × Int × SL × Int × Int × Unit) × Heap) :=
  let x10 : Bool := ltInt v35 v34
  (bif x10 then
   (ixK v33.a v33.len v35 1 fun q11 =>
   (bindV (.val (.one (.int .i64))) (h.cell q11) fun (x12 : Int) =>
   (ixK v5.a v5.len x12 1 fun q13 =>
   (bindV (.val (.one (.int .i64))) (h.cell q13) fun (x14 : Int) =>
   let x15 : Bool := !eqInt x14 2
   (bif x15 then
    let x16 : Int := wrapA .i64 (v35 + 1)
    go v0 v5 v6 v7 0 v26 v27 v28 v33 v34 x16 h
   else
    let x17 : Int := wrapA .i64 (v35 + 1)
    go v0 v5 v6 v7 v9 v26 v27 v28 v33 v34 x17 h)))))
  else
   some ((Out.exit 4), (v0, v5, v6, v7, v9, v26, v27, v28, ()), h))
noncomputable def f14_l3 (N M : Nat) (v0 : SL) (v5 : SL) (v6 : SL) (v7 : Int) (v9 : Int) (v26 : SL) (v27 : Int) (v28 : Int) (v33 : SL) (v34 : Int) (v35 : Int) (h : Heap) : Option (Out × (SL × SL × SL × Int × Int × SL × Int × Int × Unit) × Heap) := iter (fun go s h => f14_l3_b N (fun v0 v5 v6 v7 v9 v26 v27 v28 v33 v34 v35 h => go (v0, v5, v6, v7, v9, v26, v27, v28, v33, v34, v35, ()) h) s.1 s.2.1 s.2.2.1 s.2.2.2.1 s.2.2.2.2.1 s.2.2.2.2.2.1 s.2.2.2.2.2.2.1 s.2.2.2.2.2.2.2.1 s.2.2.2.2.2.2.2.2.1 s.2.2.2.2.2.2.2.2.2.1 s.2.2.2.2.2.2.2.2.2.2.1 h) M (v0, v5, v6, v7, v9, v26, v27, v28, v33, v34, v35, ()) h
theorem f14_l3_succ (N M : Nat) (v0 : SL) (v5 : SL) (v6 : SL) (v7 : Int) (v9 : Int) (v26 : SL) (v27 : Int) (v28 : Int) (v33 : SL) (v34 : Int) (v35 : Int) (h : Heap) : f14_l3 N (M + 1) v0 v5 v6 v7 v9 v26 v27 v28 v33 v34 v35 h = f14_l3_b N (f14_l3 N M) v0 v5 v6 v7 v9 v26 v27 v28 v33 v34 v35 h := rfl
theorem f14_l3_zero (N : Nat) (v0 : SL) (v5 : SL) (v6 : SL) (v7 : Int) (v9 : Int) (v26 : SL) (v27 : Int) (v28 : Int) (v33 : SL) (v34 : Int) (v35 : Int) (h : Heap) : f14_l3 N 0 v0 v5 v6 v7 v9 v26 v27 v28 v33 v34 v35 h = none := rfl
noncomputable def f14_l2_b (N : Nat) (go : SL → SL → SL → SL → Int → Int → Heap → Option (Out × (SL × SL × SL × Unit) × Heap)) (v0 : SL) (v5 : SL) (v6 : SL) (v26 : SL) (v27 : Int) (v28 : Int) (h : Heap) : Option (Out × (SL × SL × SL × Unit) × Heap) :=
  let x7 : Bool := ltInt v28 v27
  (bif x7 then
   (ixK v26.a v26.len v28 1 fun q8 =>
   (bindV (.val (.one .slice)) (h.cell q8) fun (x9 : SL) =>
   (bind3 (f14_l3 N N v0 v5 v6 v28 1 v26 v27 v28 x9 (Int.ofNat x9.len) 0 h) fun _ (j19 : (SL × SL × SL × Int × Int × SL × Int × Int × Unit)) h20 =>
   (ixK j19.2.1.a j19.2.1.len j19.2.2.2.1 1 fun q21 =>
   (bindV (.val (.one (.int .i64))) (h20.cell q21) fun (x22 : Int) =>
   let x23 : Bool := eqInt x22 2
   (bif x23 then
    let x24 : Int := wrapA .i64 (j19.2.2.2.2.2.2.2.1 + 1)
    go j19.1 j19.2.1 j19.2.2.1 j19.2.2.2.2.2.1 j19.2.2.2.2.2.2.1 x24 h20
   else
    let x25 : Bool := eqInt j19.2.2.2.2.1 1
    (bif x25 then
     let h26 : Heap := h20.push (.row [(.int .i64 j19.2.2.2.1)] .own)
     (bindT (.val (.one .slice)) (appendA E 26 26 (.slice j19.2.2.1.a j19.2.2.1.len j19.2.2.1.cap j19.2.2.1.sz) (.slice (some (h20.next, 0)) 1 1 1) h26) fun (x27 : SL) h28 =>
     (ixK j19.2.1.a j19.2.1.len j19.2.2.2.1 1 fun q29 =>
     (need (h28.store q29 [(.int .i64 2)]) fun h30 =>
     some ((Out.exit 2), (j19.1, j19.2.1, x27, ()), h30))))
    else
     let x31 : Int := wrapA .i64 (j19.2.2.2.2.2.2.2.1 + 1)
     go j19.1 j19.2.1 j19.2.2.1 j19.2.2.2.2.2.1 j19.2.2.2.2.2.2.1 x31 h20)))))))
  else
   some ((Out.exit 2), (v0, v5, v6, ()), h))
noncomputable def f14_l2 (N M : Nat) (v0 : SL) (v5 : SL) (v6 : SL) (v26 : SL) (v27 : Int) (v28 : Int) (h : Heap) : Option (Out × (SL × SL × SL × Unit) × Heap) := iter (fun go s h => f14_l2_b N (fun v0 v5 v6 v26 v27 v28 h => go (v0, v5, v6, v26, v27, v28, ()) h) s.1 s.2.1 s.2.2.1 s.2.2.2.1 s.2.2.2.2.1 s.2.2.2.2.2.1 h) M (v0, v5, v6, v26, v27, v28, ()) h
theorem f14_l2_succ (N M : Nat) (v0 : SL) (v5 : SL) (v6 : SL) (v26 : SL) (v27 : Int) (v28 : Int) (h : Heap) : f14_l2 N (M + 1) v0 v5 v6 v26 v27 v28 h = f14_l2_b N (f14_l2 N M) v0 v5 v6 v26 v27 v28 h := rfl
theorem f14_l2_zero (N : Nat) (v0 : SL) (v5 : SL) (v6 : SL) (v26 : SL) (v27 : Int) (v28 : Int) (h : Heap) : f14_l2 N 0 v0 v5 v6 v26 v27 v28 h = none := rfl
noncomputable def f14_l1_b (N : Nat) (go : SL → SL → SL → Heap → Option (Out × (SL × Unit) × Heap)) (v0 : SL) (v5 : SL) (v6 : SL) (h : Heap) : Option (Out × (SL × Unit) × Heap) :=
  let x6 : Bool := ltInt (Int.ofNat v6.len) (Int.ofNat v0.len)
  (bif x6 then
   (bind3 (f14_l2 N N v0 v5 v6 v0 (Int.ofNat v0.len) 0 h) fun _ (j33 : (SL × SL × SL × Unit)) h34 =>
   go j33.1 j33.2.1 j33.2.2.1 h34)
  else
   some ((Out.exit 0), (v6, ()), h))
noncomputable def f14_l1 (N M : Nat) (v0 : SL) (v5 : SL) (v6 : SL) (h : Heap) : Option (Out × (SL × Unit) × Heap) := iter (fun go s h => f14_l1_b N (fun v0 v5 v6 h => go (v0, v5, v6, ()) h) s.1 s.2.1 s.2.2.1 h) M (v0, v5, v6, ()) h
theorem f14_l1_succ (N M : Nat) (v0 : SL) (v5 : SL) (v6 : SL) (h : Heap) : f14_l1 N (M + 1) v0 v5 v6 h = f14_l1_b N (f14_l1 N M) v0 v5 v6 h := rfl
theorem f14_l1_zero (N : Nat) (v0 : SL) (v5 : SL) (v6 : SL) (h : Heap) : f14_l1 N 0 v0 v5 v6 h = none := rfl
noncomputable def f14 (N : Nat) (a0 : SL) (h : Heap) : Option ((SL × AV × Unit) × Heap) :=
  (bind2 (f40 N a0 h) fun (x1 : AV) h2 =>
  (bindV (.val (.one .bool)) (binA E .neq 32 (.tmp 15) (.const .nilIface) x1 AV.nilIface) fun (x3 : Bool) =>
  (bif x3 then
   some ((⟨none, 0, 0, 0⟩, x1, ()), h2)
  else
   (bindT (.val (.one .slice)) (makeSliceA E 26 (.int .i64 (Int.ofNat a0.len)) (.int .i64 (Int.ofNat a0.len)) h2) fun (x4 : SL) h5 =>
   (bind3 (f14_l1 N N a0 x4 ⟨none, 0, 0, 0⟩ h5) fun _ (j36 : (SL × Unit)) h37 =>
   some ((j36.1, AV.nilIface, ()), h37))))))
noncomputable def ann14 : Ann := (.two .n (.two .n (.two .n (.two .n (.two (.two (.loop [(0, (.one .slice)), (5, (.one .slice)), (6, (.one .slice))] [(.exit 0)] [(6, (.one .slice))] (.two .n (.two (.two .n (.two (.loop [(0, (.one .slice)), (5, (.one .slice)), (6, (.one .slice)), (26, (.one .slice)), (27, (.one (.int .i64))), (28, (.one (.int .i64)))] [(.exit 2)] [(0, (.one .slice)), (5, (.one .slice)), (6, (.one .slice))] (.two .n (.two .n (.two (.two (.two .n (.two .n (.two (.two .n (.two (.loop [(0, (.one .slice)), (5, (.one .slice)), (6, (.one .slice)), (7, (.one (.int .i64))), (9, (.one (.int .i64))), (26, (.one .slice)), (27, (.one (.int .i64))), (28, (.one (.int .i64))), (33, (.one .slice)), (34, (.one (.int .i64))), (35, (.one (.int .i64)))] [(.exit 4)] [(0, (.one .slice)), (5, (.one .slice)), (6, (.one .slice)), (7, (.one (.int .i64))), (9, (.one (.int .i64))), (26, (.one .slice)), (27, (.one (.int .i64))), (28, (.one (.int .i64)))] .n) .n)) .n))) .n) .n)))) .n)) .n))) .n) .n)))))
theorem f14_ok (N : Nat) : FnOK Try.prog 14 [(.one .slice)] (.tup [(.one .slice), (.one .any)]) (fun x h => f14 N x.1 h) :=
  runK_ok envOK hmix (addCall_ok (f40_ok N) noCalls_ok) (N := N) (x := ann14) (fn := Try.f14) (c := Try.f14.body.getD .skip) (by kernel_rfl) (by kernel_rfl) (by kernel_rfl) (by kernel_rfl) (fun _ _ => by kernel_rfl)

/- usufruct/graph.Levels -/
noncomputable def f16_l2_b (N : Nat) (go : SL → SL → Int → SL → Int → Int → SL → Int → Int → Heap → Option (Out × (SL × SL × SL × Int × Int × Unit) × Heap)) (v0 : SL) (v6 : SL) (v8 : Int) (v22 : SL) (v23 : Int) (v24 : Int) (v31 : SL) (v32 : Int) (v33 : Int) (h : Heap) : Option (Out × (SL × SL × SL × Int × Int × Unit) × Heap) :=
  let x11 : Bool := ltInt v33 v32
  (bif x11 then
   (ixK v31.a v31.len v33 1 fun q12 =>
   (bindV (.val (.one (.int .i64))) (h.cell q12) fun (x13 : Int) =>
   (ixK v6.a v6.len v8 1 fun q14 =>
   (bindV (.val (.one (.int .i64))) (h.cell q14) fun (x15 : Int) =>
   (ixK v6.a v6.len x13 1 fun q16 =>
   (bindV (.val (.one (.int .i64))) (h.cell q16) fun (x17 : Int) =>
   let x18 : Int := wrapA .i64 (x17 + 1)
   let x19 : Int := (bif ltInt x15 x18 then x18 else x15)
   (ixK v6.a v6.len v8 1 fun q20 =>
   (need (h.store q20 [(.int .i64 x19)]) fun h21 =>
   let x22 : Int := wrapA .i64 (v33 + 1)
   go v0 v6 v8 v22 v23 v24 v31 v32 x22 h21))))))))
  else
   some ((Out.exit 2), (v0, v6, v22, v23, v24, ()), h))
noncomputable def f16_l2 (N M : Nat) (v0 : SL) (v6 : SL) (v8 : Int) (v22 : SL) (v23 : Int) (v24 : Int) (v31 : SL) (v32 : Int) (v33 : Int) (h : Heap) : Option (Out × (SL × SL × SL × Int × Int × Unit) × Heap) := iter (fun go s h => f16_l2_b N (fun v0 v6 v8 v22 v23 v24 v31 v32 v33 h => go (v0, v6, v8, v22, v23, v24, v31, v32, v33, ()) h) s.1 s.2.1 s.2.2.1 s.2.2.2.1 s.2.2.2.2.1 s.2.2.2.2.2.1 s.2.2.2.2.2.2.1 s.2.2.2.2.2.2.2.1 s.2.2.2.2.2.2.2.2.1 h) M (v0, v6, v8, v22, v23, v24, v31, v32, v33, ()) h
theorem f16_l2_succ (N M : Nat) (v0 : SL) (v6 : SL) (v8 : Int) (v22 : SL) (v23 : Int) (v24 : Int) (v31 : SL) (v32 : Int) (v33 : Int) (h : Heap) : f16_l2 N (M + 1) v0 v6 v8 v22 v23 v24 v31 v32 v33 h = f16_l2_b N (f16_l2 N M) v0 v6 v8 v22 v23 v24 v31 v32 v33 h := rfl
theorem f16_l2_zero (N : Nat) (v0 : SL) (v6 : SL) (v8 : Int) (v22 : SL) (v23 : Int) (v24 : Int) (v31 : SL) (v32 : Int) (v33 : Int) (h : Heap) : f16_l2 N 0 v0 v6 v8 v22 v23 v24 v31 v32 v33 h = none := rfl
noncomputable def f16_l1_b (N : Nat) (go : SL → SL → SL → Int → Int → Heap → Option (Out × (SL × Unit) × Heap)) (v0 : SL) (v6 : SL) (v22 : SL) (v23 : Int) (v24 : Int) (h : Heap) : Option (Out × (SL × Unit) × Heap) :=
  let x6 : Bool := ltInt v24 v23
  (bif x6 then
   (ixK v22.a v22.len v24 1 fun q7 =>
   (bindV (.val (.one (.int .i64))) (h.cell q7) fun (x8 : Int) =>
   (ixK v0.a v0.len x8 1 fun q9 =>
   (bindV (.val (.one .slice)) (h.cell q9) fun (x10 : SL) =>
   (bind3 (f16_l2 N N v0 v6 x8 v22 v23 v24 x10 (Int.ofNat x10.len) 0 h) fun _ (j24 : (SL × SL × SL × Int × Int × Unit)) h25 =>
   let x26 : Int := wrapA .i64 (j24.2.2.2.2.1 + 1)
   go j24.1 j24.2.1 j24.2.2.1 j24.2.2.2.1 x26 h25)))))
  else
   some ((Out.exit 0), (v6, ()), h))
noncomputable def f16_l1 (N M : Nat) (v0 : SL) (v6 : SL) (v22 : SL) (v23 : Int) (v24 : Int) (h : Heap) : Option (Out × (SL × Unit) × Heap) := iter (fun go s h => f16_l1_b N (fun v0 v6 v22 v23 v24 h => go (v0, v6, v22, v23, v24, ()) h) s.1 s.2.1 s.2.2.1 s.2.2.2.1 s.2.2.2.2.1 h) M (v0, v6, v22, v23, v24, ()) h
theorem f16_l1_succ (N M : Nat) (v0 : SL) (v6 : SL) (v22 : SL) (v23 : Int) (v24 : Int) (h : Heap) : f16_l1 N (M + 1) v0 v6 v22 v23 v24 h = f16_l1_b N (f16_l1 N M) v0 v6 v22 v23 v24 h := rfl
theorem f16_l1_zero (N : Nat) (v0 : SL) (v6 : SL) (v22 : SL) (v23 : Int) (v24 : Int) (h : Heap) : f16_l1 N 0 v0 v6 v22 v23 v24 h = none := rfl
noncomputable def f16 (N : Nat) (a0 : SL) (h : Heap) : Option ((SL × AV × Unit) × Heap) :=
  (bind2 (f14 N a0 h) fun (x1 : (SL × AV × Unit)) h2 =>
  (bindV (.val (.one .bool)) (binA E .neq 32 (.tmp 16) (.const .nilIface) x1.2.1 AV.nilIface) fun (x3 : Bool) =>
  (bif x3 then
   some ((⟨none, 0, 0, 0⟩, x1.2.1, ()), h2)
  else
   (bindT (.val (.one .slice)) (makeSliceA E 26 (.int .i64 (Int.ofNat a0.len)) (.int .i64 (Int.ofNat a0.len)) h2) fun (x4 : SL) h5 =>
   (bind3 (f16_l1 N N a0 x4 x1.1 (Int.ofNat x1.1.len) 0 h5) fun _ (j28 : (SL × Unit)) h29 =>
   some ((j28.1, AV.nilIface, ()), h29))))))
noncomputable def ann16 : Ann := (.two .n (.two .n (.two .n (.two .n (.two (.two .n (.two (.loop [(0, (.one .slice)), (6, (.one .slice)), (22, (.one .slice)), (23, (.one (.int .i64))), (24, (.one (.int .i64)))] [(.exit 0)] [(6, (.one .slice))] (.two .n (.two .n (.two (.two (.two .n (.two .n (.two (.loop [(0, (.one .slice)), (6, (.one .slice)), (8, (.one (.int .i64))), (22, (.one .slice)), (23, (.one (.int .i64))), (24, (.one (.int .i64))), (31, (.one .slice)), (32, (.one (.int .i64))), (33, (.one (.int .i64)))] [(.exit 2)] [(0, (.one .slice)), (6, (.one .slice)), (22, (.one .slice)), (23, (.one (.int .i64))), (24, (.one (.int .i64)))] .n) .n))) .n) .n)))) .n)) .n)))))
theorem f16_ok (N : Nat) : FnOK Try.prog 16 [(.one .slice)] (.tup [(.one .slice), (.one .any)]) (fun x h => f16 N x.1 h) :=
  runK_ok envOK hmix (addCall_ok (f14_ok N) noCalls_ok) (N := N) (x := ann16) (fn := Try.f16) (c := Try.f16.body.getD .skip) (by kernel_rfl) (by kernel_rfl) (by kernel_rfl) (by kernel_rfl) (fun _ _ => by kernel_rfl)

/- usufruct/usufructlaw1.Told -/
noncomputable def f23_l1_b (N : Nat) (go : Option (Nat × Nat) → Int → Int → Int → Heap → Option (Out × (Int × Int × Unit) × Heap)) (v4 : Option (Nat × Nat)) (v6 : Int) (v7 : Int) (v8 : Int) (h : Heap) : Option (Out × (Int × Int × Unit) × Heap) :=
  let x8 : Bool := ltInt v8 200
  (bif x8 then
   (need v4 fun q9 =>
   (bindV (.val (.one .any)) (h.cell (q9.1, q9.2 + 2)) fun (x10 : AV) =>
   (bindV (.tup [(.one .ptr), (.one .bool)]) (assertA E x10 69 true) fun (x11 : (Option (Nat × Nat) × Bool × Unit)) =>
   let x12 : Bool := !x11.2.1
   (bif x12 then
    some ((Out.exit 0), (v6, v7, ()), h)
   else
    (bif x11.1.isNone then
     some ((Out.exit 0), (v6, v7, ()), h)
    else
     (need x11.1 fun q13 =>
     (bindV (.val (.one (.int .i64))) (h.cell (q13.1, q13.2 + 1)) fun (x14 : Int) =>
     let x15 : Int := wrapA .i64 (v8 + 1)
     go x11.1 v6 x14 x15 h)))))))
  else
   some ((Out.exit 0), (v6, v7, ()), h))
noncomputable def f23_l1 (N M : Nat) (v4 : Option (Nat × Nat)) (v6 : Int) (v7 : Int) (v8 : Int) (h : Heap) : Option (Out × (Int × Int × Unit) × Heap) := iter (fun go s h => f23_l1_b N (fun v4 v6 v7 v8 h => go (v4, v6, v7, v8, ()) h) s.1 s.2.1 s.2.2.1 s.2.2.2.1 h) M (v4, v6, v7, v8, ()) h
theorem f23_l1_succ (N M : Nat) (v4 : Option (Nat × Nat)) (v6 : Int) (v7 : Int) (v8 : Int) (h : Heap) : f23_l1 N (M + 1) v4 v6 v7 v8 h = f23_l1_b N (f23_l1 N M) v4 v6 v7 v8 h := rfl
theorem f23_l1_zero (N : Nat) (v4 : Option (Nat × Nat)) (v6 : Int) (v7 : Int) (v8 : Int) (h : Heap) : f23_l1 N 0 v4 v6 v7 v8 h = none := rfl
noncomputable def f23 (N : Nat) (a0 : AV) (h : Heap) : Option ((Int × Int × Unit) × Heap) :=
  (bindV (.val (.one .bool)) (binA E .eql 32 (.tmp 11) (.const .nilIface) a0 AV.nilIface) fun (x1 : Bool) =>
  (bif x1 then
   some ((0, 0, ()), h)
  else
   (bindV (.tup [(.one .ptr), (.one .bool)]) (assertA E a0 69 true) fun (x2 : (Option (Nat × Nat) × Bool × Unit)) =>
   let x3 : Bool := !x2.2.1
   (bif x3 then
    some (((-1), 0, ()), h)
   else
    (bif x2.1.isNone then
     some (((-1), 0, ()), h)
    else
     (need x2.1 fun q4 =>
     (bindV (.val (.one (.int .i64))) (h.cell (q4.1, q4.2 + 0)) fun (x5 : Int) =>
     (need x2.1 fun q6 =>
     (bindV (.val (.one (.int .i64))) (h.cell (q6.1, q6.2 + 1)) fun (x7 : Int) =>
     (bind3 (f23_l1 N N x2.1 x5 x7 0 h) fun _ (j17 : (Int × Int × Unit)) h18 =>
     some ((j17.1, j17.2.1, ()), h18)))))))))))
noncomputable def ann23 : Ann := (.two .n (.two .n (.two .n (.two .n (.two .n (.two (.two .n (.two (.loop [(4, (.one .ptr)), (6, (.one (.int .i64))), (7, (.one (.int .i64))), (8, (.one (.int .i64)))] [(.exit 0)] [(6, (.one (.int .i64))), (7, (.one (.int .i64)))] .n) .n)) .n))))))
theorem f23_ok (N : Nat) : FnOK Try.prog 23 [(.one .any)] (.tup [(.one (.int .i64)), (.one (.int .i64))]) (fun x h => f23 N x.1 h) :=
  runK_ok envOK hmix noCalls_ok (N := N) (x := ann23) (fn := Try.f23) (c := Try.f23.body.getD .skip) (by kernel_rfl) (by kernel_rfl) (by kernel_rfl) (by kernel_rfl) (fun _ _ => by kernel_rfl)

/- usufruct/usufructlaw11.GraphRenamed -/
noncomputable def f6_l4_b (N : Nat) (go : Bool → Int → SL → SL → Int → Heap → Option (Out × (Bool × SL × SL × Unit) × Heap)) (v4 : Bool) (v7 : Int) (v21 : SL) (v22 : SL) (v23 : Int) (h : Heap) : Option (Out × (Bool × SL × SL × Unit) × Heap) :=
  let x80 : Bool := ltInt v23 (Int.ofNat v21.len)
  (bif x80 then
   let x81 : Bool := !eqInt (Int.ofNat v22.len) (Int.ofNat v21.len)
   (bif x81 then
    some (Out.ret, (false, v21, v22, ()), h)
   else
    let x82 : Int := wrapA .i64 ((Int.ofNat v22.len) - 1)
    let x83 : Int := wrapA .i64 (x82 - v23)
    (ixK v22.a v22.len x83 1 fun q84 =>
    (bindV (.val (.one (.int .i64))) (h.cell q84) fun (x85 : Int) =>
    let x86 : Int := wrapA .i64 (v7 - 1)
    (ixK v21.a v21.len v23 1 fun q87 =>
    (bindV (.val (.one (.int .i64))) (h.cell q87) fun (x88 : Int) =>
    let x89 : Int := wrapA .i64 (x86 - x88)
    let x90 : Bool := !eqInt x85 x89
    (bif x90 then
     some (Out.ret, (false, v21, v22, ()), h)
    else
     let x91 : Int := wrapA .i64 (v23 + 1)
     go v4 v7 v21 v22 x91 h))))))
  else
   some ((Out.exit 6), (v4, v21, v22, ()), h))
noncomputable def f6_l4 (N M : Nat) (v4 : Bool) (v7 : Int) (v21 : SL) (v22 : SL) (v23 : Int) (h : Heap) : Option (Out × (Bool × SL × SL × Unit) × Heap) := iter (fun go s h => f6_l4_b N (fun v4 v7 v21 v22 v23 h => go (v4, v7, v21, v22, v23, ()) h) s.1 s.2.1 s.2.2.1 s.2.2.2.1 s.2.2.2.2.1 h) M (v4, v7, v21, v22, v23, ()) h
theorem f6_l4_succ (N M : Nat) (v4 : Bool) (v7 : Int) (v21 : SL) (v22 : SL) (v23 : Int) (h : Heap) : f6_l4 N (M + 1) v4 v7 v21 v22 v23 h = f6_l4_b N (f6_l4 N M) v4 v7 v21 v22 v23 h := rfl
theorem f6_l4_zero (N : Nat) (v4 : Bool) (v7 : Int) (v21 : SL) (v22 : SL) (v23 : Int) (h : Heap) : f6_l4 N 0 v4 v7 v21 v22 v23 h = none := rfl
noncomputable def f6_l3_b (N : Nat) (go : Int → Bool → SL → Int → SL → SL → SL → Int → Heap → Option (Out × (Int × Bool × SL × Int × SL × Unit) × Heap)) (v1 : Int) (v4 : Bool) (v5 : SL) (v7 : Int) (v8 : SL) (v11 : SL) (v13 : SL) (v19 : Int) (h : Heap) : Option (Out × (Int × Bool × SL × Int × SL × Unit) × Heap) :=
  let x58 : Bool := ltInt v19 (Int.ofNat v11.len)
  (bif x58 then
   (ixK v11.a v11.len v19 1 fun q59 =>
   (bindV (.val (.one (.int .i64))) (h.cell q59) fun (x60 : Int) =>
   let x61 : Int := wrapA .i64 (v7 - 1)
   let x62 : Int := wrapA .i64 (x61 - v19)
   (ixK v13.a v13.len x62 1 fun q63 =>
   (bindV (.val (.one (.int .i64))) (h.cell q63) fun (x64 : Int) =>
   let x65 : Bool := !eqInt x60 x64
   (bif x65 then
    some (Out.ret, (v1, false, v5, v7, v8, ()), h)
   else
    let x66 : Int := wrapA .i64 (v19 + 1)
    go v1 v4 v5 v7 v8 v11 v13 x66 h)))))
  else
   some ((Out.exit 4), (v1, v4, v5, v7, v8, ()), h))
noncomputable def f6_l3 (N M : Nat) (v1 : Int) (v4 : Bool) (v5 : SL) (v7 : Int) (v8 : SL) (v11 : SL) (v13 : SL) (v19 : Int) (h : Heap) : Option (Out × (Int × Bool × SL × Int × SL × Unit) × Heap) := iter (fun go s h => f6_l3_b N (fun v1 v4 v5 v7 v8 v11 v13 v19 h => go (v1, v4, v5, v7, v8, v11, v13, v19, ()) h) s.1 s.2.1 s.2.2.1 s.2.2.2.1 s.2.2.2.2.1 s.2.2.2.2.2.1 s.2.2.2.2.2.2.1 s.2.2.2.2.2.2.2.1 h) M (v1, v4, v5, v7, v8, v11, v13, v19, ()) h
theorem f6_l3_succ (N M : Nat) (v1 : Int) (v4 : Bool) (v5 : SL) (v7 : Int) (v8 : SL) (v11 : SL) (v13 : SL) (v19 : Int) (h : Heap) : f6_l3 N (M + 1) v1 v4 v5 v7 v8 v11 v13 v19 h = f6_l3_b N (f6_l3 N M) v1 v4 v5 v7 v8 v11 v13 v19 h := rfl
theorem f6_l3_zero (N : Nat) (v1 : Int) (v4 : Bool) (v5 : SL) (v7 : Int) (v8 : SL) (v11 : SL) (v13 : SL) (v19 : Int) (h : Heap) : f6_l3 N 0 v1 v4 v5 v7 v8 v11 v13 v19 h = none := rfl
noncomputable def f6_l2_b (N : Nat) (go : Int → Bool → SL → Int → SL → Int → Int → Heap → Option (Out × (Int × Bool × SL × Int × SL × Int × Unit) × Heap)) (v1 : Int) (v4 : Bool) (v5 : SL) (v7 : Int) (v8 : SL) (v9 : Int) (v10 : Int) (h : Heap) : Option (Out × (Int × Bool × SL × Int × SL × Int × Unit) × Heap) :=
  (ixK v5.a v5.len v9 1 fun q20 =>
  (bindV (.val (.one .slice)) (h.cell q20) fun (x21 : SL) =>
  let x22 : Bool := ltInt v10 (Int.ofNat x21.len)
  (bif x22 then
   let x23 : Int := wrapA .i64 (v7 - 1)
   let x24 : Int := wrapA .i64 (x23 - v9)
   let x25 : Int := wrapA .i64 (v7 - 1)
   let x26 : Int := wrapA .i64 (x25 - v9)
   (ixK v8.a v8.len x26 1 fun q27 =>
   (bindV (.val (.one .slice)) (h.cell q27) fun (x28 : SL) =>
   let x29 : Int := wrapA .i64 (v7 - 1)
   (ixK v5.a v5.len v9 1 fun q30 =>
   (bindV (.val (.one .slice)) (h.cell q30) fun (x31 : SL) =>
   (ixK x31.a x31.len v10 1 fun q32 =>
   (bindV (.val (.one (.int .i64))) (h.cell q32) fun (x33 : Int) =>
   let x34 : Int := wrapA .i64 (x29 - x33)
   let h35 : Heap := h.push (.row [(.int .i64 x34)] .own)
   (bindT (.val (.one .slice)) (appendA E 26 26 (.slice x28.a x28.len x28.cap x28.sz) (.slice (some (h.next, 0)) 1 1 1) h35) fun (x36 : SL) h37 =>
   (ixK v8.a v8.len x24 1 fun q38 =>
   (need (h37.store q38 [(.slice x36.a x36.len x36.cap x36.sz)]) fun h39 =>
   (guardB (bif (sameO (h.cell q32) (.int .i64 x33)) then (bif (sameO (h.cell q30) (.slice x31.a x31.len x31.cap x31.sz)) then (bif (sameO (h35.cell q27) (.slice x28.a x28.len x28.cap x28.sz)) then (bif (sameO (h.cell q27) (.slice x28.a x28.len x28.cap x28.sz)) then true else false) else false) else false) else false) (
   let x40 : Int := wrapA .i64 (v10 + 1)
   go v1 v4 v5 v7 v8 v9 x40 h39)))))))))))
  else
   some ((Out.exit 2), (v1, v4, v5, v7, v8, v9, ()), h))))
noncomputable def f6_l2 (N M : Nat) (v1 : Int) (v4 : Bool) (v5 : SL) (v7 : Int) (v8 : SL) (v9 : Int) (v10 : Int) (h : Heap) : Option (Out × (Int × Bool × SL × Int × SL × Int × Unit) × Heap) := iter (fun go s h => f6_l2_b N (fun v1 v4 v5 v7 v8 v9 v10 h => go (v1, v4, v5, v7, v8, v9, v10, ()) h) s.1 s.2.1 s.2.2.1 s.2.2.2.1 s.2.2.2.2.1 s.2.2.2.2.2.1 s.2.2.2.2.2.2.1 h) M (v1, v4, v5, v7, v8, v9, v10, ()) h
theorem f6_l2_succ (N M : Nat) (v1 : Int) (v4 : Bool) (v5 : SL) (v7 : Int) (v8 : SL) (v9 : Int) (v10 : Int) (h : Heap) : f6_l2 N (M + 1) v1 v4 v5 v7 v8 v9 v10 h = f6_l2_b N (f6_l2 N M) v1 v4 v5 v7 v8 v9 v10 h := rfl
theorem f6_l2_zero (N : Nat) (v1 : Int) (v4 : Bool) (v5 : SL) (v7 : Int) (v8 : SL) (v9 : Int) (v10 : Int) (h : Heap) : f6_l2 N 0 v1 v4 v5 v7 v8 v9 v10 h = none := rfl
noncomputable def f6_l1_b (N : Nat) (go : Int → Bool → SL → Int → SL → Int → Heap → Option (Out × (Int × Bool × SL × Int × SL × Unit) × Heap)) (v1 : Int) (v4 : Bool) (v5 : SL) (v7 : Int) (v8 : SL) (v9 : Int) (h : Heap) : Option (Out × (Int × Bool × SL × Int × SL × Unit) × Heap) :=
  let x14 : Bool := ltInt v9 v7
  (bif x14 then
   (ixK v5.a v5.len v9 1 fun q15 =>
   (bindV (.val (.one .slice)) (h.cell q15) fun (x16 : SL) =>
   let x17 : Bool := ltInt 64 (Int.ofNat x16.len)
   (bif x17 then
    (bind2 (f11 N  h) fun (x18 : Bool) h19 =>
    some (Out.ret, (v1, x18, v5, v7, v8, ()), h19))
   else
    (bind3 (f6_l2 N N v1 v4 v5 v7 v8 v9 0 h) fun _ (j42 : (Int × Bool × SL × Int × SL × Int × Unit)) h43 =>
    let x44 : Int := wrapA .i64 (j42.2.2.2.2.2.1 + 1)
    go j42.1 j42.2.1 j42.2.2.1 j42.2.2.2.1 j42.2.2.2.2.1 x44 h43))))
  else
   some ((Out.exit 0), (v1, v4, v5, v7, v8, ()), h))
noncomputable def f6_l1 (N M : Nat) (v1 : Int) (v4 : Bool) (v5 : SL) (v7 : Int) (v8 : SL) (v9 : Int) (h : Heap) : Option (Out × (Int × Bool × SL × Int × SL × Unit) × Heap) := iter (fun go s h => f6_l1_b N (fun v1 v4 v5 v7 v8 v9 h => go (v1, v4, v5, v7, v8, v9, ()) h) s.1 s.2.1 s.2.2.1 s.2.2.2.1 s.2.2.2.2.1 s.2.2.2.2.2.1 h) M (v1, v4, v5, v7, v8, v9, ()) h
theorem f6_l1_succ (N M : Nat) (v1 : Int) (v4 : Bool) (v5 : SL) (v7 : Int) (v8 : SL) (v9 : Int) (h : Heap) : f6_l1 N (M + 1) v1 v4 v5 v7 v8 v9 h = f6_l1_b N (f6_l1 N M) v1 v4 v5 v7 v8 v9 h := rfl
theorem f6_l1_zero (N : Nat) (v1 : Int) (v4 : Bool) (v5 : SL) (v7 : Int) (v8 : SL) (v9 : Int) (h : Heap) : f6_l1 N 0 v1 v4 v5 v7 v8 v9 h = none := rfl
noncomputable def f6 (N : Nat) (a0 : SL) (a1 : Int) (h : Heap) : Option (Bool × Heap) :=
  (bind2 (f10 N a0 false h) fun (x1 : (SL × Bool × Unit)) h2 =>
  let x3 : Bool := !x1.2.1
  (bif x3 then
   (bind2 (f11 N  h2) fun (x4 : Bool) h5 =>
   some (x4, h5))
  else
   let x6 : Bool := eqInt (Int.ofNat x1.1.len) 0
   (bif x6 then
    (bind2 (f11 N  h2) fun (x7 : Bool) h8 =>
    some (x7, h8))
   else
    let x9 : Bool := ltInt 64 (Int.ofNat x1.1.len)
    (bif x9 then
     (bind2 (f11 N  h2) fun (x10 : Bool) h11 =>
     some (x10, h11))
    else
     (bindT (.val (.one .slice)) (makeSliceA E 22 (.int .i64 (Int.ofNat x1.1.len)) (.int .i64 (Int.ofNat x1.1.len)) h2) fun (x12 : SL) h13 =>
     (bind3 (f6_l1 N N a1 false x1.1 (Int.ofNat x1.1.len) x12 0 h13) fun o45 (j46 : (Int × Bool × SL × Int × SL × Unit)) h47 =>
     (bif eqOut o45 (.exit 0) then
      (bind2 (f16 N j46.2.2.1 h47) fun (x48 : (SL × AV × Unit)) h49 =>
      (bind2 (f16 N j46.2.2.2.2.1 h49) fun (x50 : (SL × AV × Unit)) h51 =>
      (bind2 (f23 N x48.2.1 h51) fun (x52 : (Int × Int × Unit)) h53 =>
      (bind2 (f23 N x50.2.1 h53) fun (x54 : (Int × Int × Unit)) h55 =>
      let x56 : Bool := !eqInt x52.1 x54.1
      (bif x56 then
       some (false, h55)
      else
       let x57 : Bool := !eqInt (Int.ofNat x48.1.len) (Int.ofNat x50.1.len)
       (bif x57 then
        some (false, h55)
       else
        (bind3 (f6_l3 N N j46.1 j46.2.1 j46.2.2.1 j46.2.2.2.1 j46.2.2.2.2.1 x48.1 x50.1 0 h55) fun o67 (j68 : (Int × Bool × SL × Int × SL × Unit)) h69 =>
        (bif eqOut o67 (.exit 4) then
         let x70 : Int := wrapA .u64 j68.1
         let x71 : Int := wrapA .u64 j68.2.2.2.1
         (bindV (.val (.one (.int .u64))) (binInt .rem .u64 x70 x71) fun (x72 : Int) =>
         let x73 : Int := wrapA .i64 x72
         (bind2 (f12 N j68.2.2.1 x73 h69) fun (x74 : SL) h75 =>
         let x76 : Int := wrapA .i64 (j68.2.2.2.1 - 1)
         let x77 : Int := wrapA .i64 (x76 - x73)
         (bind2 (f12 N j68.2.2.2.2.1 x77 h75) fun (x78 : SL) h79 =>
         (bind3 (f6_l4 N N j68.2.1 j68.2.2.2.1 x74 x78 0 h79) fun o92 (j93 : (Bool × SL × SL × Unit)) h94 =>
         (bif eqOut o92 (.exit 6) then
          (bind2 (f11 N  h94) fun (x95 : Bool) h96 =>
          (bif x95 then
           let x97 : Bool := eqInt (Int.ofNat j93.2.1.len) (Int.ofNat j93.2.2.1.len)
           some (x97, h96)
          else
           some (false, h96)))
         else
          some (j93.1, h94))))))
        else
         some (j68.2.1, h69)))))))))
     else
      some (j46.2.1, h47))))))))
noncomputable def ann6 : Ann := (.two .n (.two .n (.two .n (.two .n (.two .n (.two (.two .n (.two (.loop [(1, (.one (.int .i64))), (4, (.one .bool)), (5, (.one .slice)), (7, (.one (.int .i64))), (8, (.one .slice)), (9, (.one (.int .i64)))] [(.exit 0), .ret] [(1, (.one (.int .i64))), (4, (.one .bool)), (5, (.one .slice)), (7, (.one (.int .i64))), (8, (.one .slice))] (.two .n (.two (.two (.two .n (.two .n (.two (.loop [(1, (.one (.int .i64))), (4, (.one .bool)), (5, (.one .slice)), (7, (.one (.int .i64))), (8, (.one .slice)), (9, (.one (.int .i64))), (10, (.one (.int .i64)))] [(.exit 2)] [(1, (.one (.int .i64))), (4, (.one .bool)), (5, (.one .slice)), (7, (.one (.int .i64))), (8, (.one .slice)), (9, (.one (.int .i64)))] .n) .n))) .n) .n))) .n)) (.two .n (.two .n (.two .n (.two .n (.two .n (.two (.two .n (.two (.loop [(1, (.one (.int .i64))), (4, (.one .bool)), (5, (.one .slice)), (7, (.one (.int .i64))), (8, (.one .slice)), (11, (.one .slice)), (13, (.one .slice)), (19, (.one (.int .i64)))] [(.exit 4), .ret] [(1, (.one (.int .i64))), (4, (.one .bool)), (5, (.one .slice)), (7, (.one (.int .i64))), (8, (.one .slice))] .n) .n)) (.two .n (.two .n (.two (.two .n (.two (.loop [(4, (.one .bool)), (7, (.one (.int .i64))), (21, (.one .slice)), (22, (.one .slice)), (23, (.one (.int .i64)))] [(.exit 6), .ret] [(4, (.one .bool)), (21, (.one .slice)), (22, (.one .slice))] .n) .n)) .n)))))))))))))))
theorem f6_ok (N : Nat) : FnOK Try.prog 6 [(.one .slice), (.one (.int .i64))] (.val (.one .bool)) (fun x h => f6 N x.1 x.2.1 h) :=
  runK_ok envOK hmix (addCall_ok (f23_ok N) (addCall_ok (f16_ok N) (addCall_ok (f12_ok N) (addCall_ok (f11_ok N) (addCall_ok (f10_ok N) noCalls_ok))))) (N := N) (x := ann6) (fn := Try.f6) (c := Try.f6.body.getD .skip) (by kernel_rfl) (by kernel_rfl) (by kernel_rfl) (by kernel_rfl) (fun _ _ => by kernel_rfl)

/- usufruct/graph.back -/
noncomputable def f44_l4_b (N : Nat) (go : SL → SL → Int → Int → SL → Int → Int → SL → Int → Int → Heap → Option (Out × (SL × SL × Int × SL × Int × Int × Unit) × Heap)) (v0 : SL) (v5 : SL) (v7 : Int) (v8 : Int) (v33 : SL) (v34 : Int) (v35 : Int) (v40 : SL) (v41 : Int) (v42 : Int) (h : Heap) : Option (Out × (SL × SL × Int × SL × Int × Int × Unit) × Heap) :=
  let x16 : Bool := ltInt v42 v41
  (bif x16 then
   (ixK v40.a v40.len v42 1 fun q17 =>
   (bindV (.val (.one (.int .i64))) (h.cell q17) fun (x18 : Int) =>
   (ixK v5.a v5.len v8 1 fun q19 =>
   (bindV (.val (.one (.int .i64))) (h.cell q19) fun (x20 : Int) =>
   let x21 : Bool := ltInt x20 0
   (bif x21 then
    (ixK v5.a v5.len x18 1 fun q22 =>
    (bindV (.val (.one (.int .i64))) (h.cell q22) fun (x23 : Int) =>
    let x24 : Bool := eqInt x23 v7
    (bif x24 then
     let x25 : Int := wrapA .i64 (v7 + 1)
     (ixK v5.a v5.len v8 1 fun q26 =>
     (need (h.store q26 [(.int .i64 x25)]) fun h27 =>
     let x28 : Int := wrapA .i64 (v42 + 1)
     go v0 v5 v7 v8 v33 v34 v35 v40 v41 x28 h27))
    else
     let x29 : Int := wrapA .i64 (v42 + 1)
     go v0 v5 v7 v8 v33 v34 v35 v40 v41 x29 h)))
   else
    let x30 : Int := wrapA .i64 (v42 + 1)
    go v0 v5 v7 v8 v33 v34 v35 v40 v41 x30 h)))))
  else
   some ((Out.exit 6), (v0, v5, v7, v33, v34, v35, ()), h))
noncomputable def f44_l4 (N M : Nat) (v0 : SL) (v5 : SL) (v7 : Int) (v8 : Int) (v33 : SL) (v34 : Int) (v35 : Int) (v40 : SL) (v41 : Int) (v42 : Int) (h : Heap) : Option (Out × (SL × SL × Int × SL × Int × Int × Unit) × Heap) := iter (fun go s h => f44_l4_b N (fun v0 v5 v7 v8 v33 v34 v35 v40 v41 v42 h => go (v0, v5, v7, v8, v33, v34, v35, v40, v41, v42, ()) h) s.1 s.2.1 s.2.2.1 s.2.2.2.1 s.2.2.2.2.1 s.2.2.2.2.2.1 s.2.2.2.2.2.2.1 s.2.2.2.2.2.2.2.1 s.2.2.2.2.2.2.2.2.1 s.2.2.2.2.2.2.2.2.2.1 h) M (v0, v5, v7, v8, v33, v34, v35, v40, v41, v42, ()) h
theorem f44_l4_succ (N M : Nat) (v0 : SL) (v5 : SL) (v7 : Int) (v8 : Int) (v33 : SL) (v34 : Int) (v35 : Int) (v40 : SL) (v41 : Int) (v42 : Int) (h : Heap) : f44_l4 N (M + 1) v0 v5 v7 v8 v33 v34 v35 v40 v41 v42 h = f44_l4_b N (f44_l4 N M) v0 v5 v7 v8 v33 v34 v35 v40 v41 v42 h := rfl
theorem f44_l4_zero (N : Nat) (v0 : SL) (v5 : SL) (v7 : Int) (v8 : Int) (v33 : SL) (v34 : Int) (v35 : Int) (v40 : SL) (v41 : Int) (v42 : Int) (h : Heap) : f44_l4 N 0 v0 v5 v7 v8 v33 v34 v35 v40 v41 v42 h = none := rfl
noncomputable def f44_l3_b (N : Nat) (go : SL → SL → Int → SL → Int → Int → Heap → Option (Out × (SL × SL × Int × Unit) × Heap)) (v0 : SL) (v5 : SL) (v7 : Int) (v33 : SL) (v34 : Int) (v35 : Int) (h : Heap) : Option (Out × (SL × SL × Int × Unit) × Heap) :=
  let x13 : Bool := ltInt v35 v34
  (bif x13 then
   (ixK v33.a v33.len v35 1 fun q14 =>
   (bindV (.val (.one .slice)) (h.cell q14) fun (x15 : SL) =>
   (bind3 (f44_l4 N N v0 v5 v7 v35 v33 v34 v35 x15 (Int.ofNat x15.len) 0 h) fun _ (j32 : (SL × SL × Int × SL × Int × Int × Unit)) h33 =>
   let x34 : Int := wrapA .i64 (j32.2.2.2.2.2.1 + 1)
   go j32.1 j32.2.1 j32.2.2.1 j32.2.2.2.1 j32.2.2.2.2.1 x34 h33)))
  else
   some ((Out.exit 4), (v0, v5, v7, ()), h))
noncomputable def f44_l3 (N M : Nat) (v0 : SL) (v5 : SL) (v7 : Int) (v33 : SL) (v34 : Int) (v35 : Int) (h : Heap) : Option (Out × (SL × SL × Int × Unit) × Heap) := iter (fun go s h => f44_l3_b N (fun v0 v5 v7 v33 v34 v35 h => go (v0, v5, v7, v33, v34, v35, ()) h) s.1 s.2.1 s.2.2.1 s.2.2.2.1 s.2.2.2.2.1 s.2.2.2.2.2.1 h) M (v0, v5, v7, v33, v34, v35, ()) h
theorem f44_l3_succ (N M : Nat) (v0 : SL) (v5 : SL) (v7 : Int) (v33 : SL) (v34 : Int) (v35 : Int) (h : Heap) : f44_l3 N (M + 1) v0 v5 v7 v33 v34 v35 h = f44_l3_b N (f44_l3 N M) v0 v5 v7 v33 v34 v35 h := rfl
theorem f44_l3_zero (N : Nat) (v0 : SL) (v5 : SL) (v7 : Int) (v33 : SL) (v34 : Int) (v35 : Int) (h : Heap) : f44_l3 N 0 v0 v5 v7 v33 v34 v35 h = none := rfl
noncomputable def f44_l2_b (N : Nat) (go : SL → SL → Int → Heap → Option (Out × (SL × Unit) × Heap)) (v0 : SL) (v5 : SL) (v7 : Int) (h : Heap) : Option (Out × (SL × Unit) × Heap) :=
  let x12 : Bool := ltInt v7 (Int.ofNat v0.len)
  (bif x12 then
   (bind3 (f44_l3 N N v0 v5 v7 v0 (Int.ofNat v0.len) 0 h) fun _ (j36 : (SL × SL × Int × Unit)) h37 =>
   let x38 : Int := wrapA .i64 (j36.2.2.1 + 1)
   go j36.1 j36.2.1 x38 h37)
  else
   some ((Out.exit 2), (v5, ()), h))
noncomputable def f44_l2 (N M : Nat) (v0 : SL) (v5 : SL) (v7 : Int) (h : Heap) : Option (Out × (SL × Unit) × Heap) := iter (fun go s h => f44_l2_b N (fun v0 v5 v7 h => go (v0, v5, v7, ()) h) s.1 s.2.1 s.2.2.1 h) M (v0, v5, v7, ()) h
theorem f44_l2_succ (N M : Nat) (v0 : SL) (v5 : SL) (v7 : Int) (h : Heap) : f44_l2 N (M + 1) v0 v5 v7 h = f44_l2_b N (f44_l2 N M) v0 v5 v7 h := rfl
theorem f44_l2_zero (N : Nat) (v0 : SL) (v5 : SL) (v7 : Int) (h : Heap) : f44_l2 N 0 v0 v5 v7 h = none := rfl
noncomputable def f44_l1_b (N : Nat) (go : SL → Int → SL → Int → Int → Heap → Option (Out × (SL × Int × SL × Unit) × Heap)) (v0 : SL) (v1 : Int) (v5 : SL) (v16 : Int) (v17 : Int) (h : Heap) : Option (Out × (SL × Int × SL × Unit) × Heap) :=
  let x3 : Bool := ltInt v17 v16
  (bif x3 then
   (ixK v5.a v5.len v17 1 fun q4 =>
   (need (h.store q4 [(.int .i64 (-1))]) fun h5 =>
   let x6 : Int := wrapA .i64 (v17 + 1)
   go v0 v1 v5 v16 x6 h5))
  else
   some ((Out.exit 0), (v0, v1, v5, ()), h))
noncomputable def f44_l1 (N M : Nat) (v0 : SL) (v1 : Int) (v5 : SL) (v16 : Int) (v17 : Int) (h : Heap) : Option (Out × (SL × Int × SL × Unit) × Heap) := iter (fun go s h => f44_l1_b N (fun v0 v1 v5 v16 v17 h => go (v0, v1, v5, v16, v17, ()) h) s.1 s.2.1 s.2.2.1 s.2.2.2.1 s.2.2.2.2.1 h) M (v0, v1, v5, v16, v17, ()) h
theorem f44_l1_succ (N M : Nat) (v0 : SL) (v1 : Int) (v5 : SL) (v16 : Int) (v17 : Int) (h : Heap) : f44_l1 N (M + 1) v0 v1 v5 v16 v17 h = f44_l1_b N (f44_l1 N M) v0 v1 v5 v16 v17 h := rfl
theorem f44_l1_zero (N : Nat) (v0 : SL) (v1 : Int) (v5 : SL) (v16 : Int) (v17 : Int) (h : Heap) : f44_l1 N 0 v0 v1 v5 v16 v17 h = none := rfl
noncomputable def f44 (N : Nat) (a0 : SL) (a1 : Int) (h : Heap) : Option (SL × Heap) :=
  (bindT (.val (.one .slice)) (makeSliceA E 26 (.int .i64 (Int.ofNat a0.len)) (.int .i64 (Int.ofNat a0.len)) h) fun (x1 : SL) h2 =>
  (bind3 (f44_l1 N N a0 a1 x1 (Int.ofNat x1.len) 0 h2) fun _ (j8 : (SL × Int × SL × Unit)) h9 =>
  (ixK j8.2.2.1.a j8.2.2.1.len j8.2.1 1 fun q10 =>
  (need (h9.store q10 [(.int .i64 0)]) fun h11 =>
  (bind3 (f44_l2 N N j8.1 j8.2.2.1 0 h11) fun _ (j40 : (SL × Unit)) h41 =>
  some (j40.1, h41))))))
noncomputable def ann44 : Ann := (.two .n (.two .n (.two (.two .n (.two (.loop [(0, (.one .slice)), (1, (.one (.int .i64))), (5, (.one .slice)), (16, (.one (.int .i64))), (17, (.one (.int .i64)))] [(.exit 0)] [(0, (.one .slice)), (1, (.one (.int .i64))), (5, (.one .slice))] .n) .n)) (.two .n (.two (.two .n (.two (.loop [(0, (.one .slice)), (5, (.one .slice)), (7, (.one (.int .i64)))] [(.exit 2)] [(5, (.one .slice))] (.two .n (.two (.two (.two .n (.two (.loop [(0, (.one .slice)), (5, (.one .slice)), (7, (.one (.int .i64))), (33, (.one .slice)), (34, (.one (.int .i64))), (35, (.one (.int .i64)))] [(.exit 4)] [(0, (.one .slice)), (5, (.one .slice)), (7, (.one (.int .i64)))] (.two .n (.two .n (.two (.two (.two .n (.two .n (.two (.loop [(0, (.one .slice)), (5, (.one .slice)), (7, (.one (.int .i64))), (8, (.one (.int .i64))), (33, (.one .slice)), (34, (.one (.int .i64))), (35, (.one (.int .i64))), (40, (.one .slice)), (41, (.one (.int .i64))), (42, (.one (.int .i64)))] [(.exit 6)] [(0, (.one .slice)), (5, (.one .slice)), (7, (.one (.int .i64))), (33, (.one .slice)), (34, (.one (.int .i64))), (35, (.one (.int .i64)))] .n) .n))) .n) .n)))) .n)) .n) .n))) .n)) .n)))))
theorem f44_ok (N : Nat) : FnOK Try.prog 44 [(.one .slice), (.one (.int .i64))] (.val (.one .slice)) (fun x h => f44 N x.1 x.2.1 h) :=
  runK_ok envOK hmix noCalls_ok (N := N) (x := ann44) (fn := Try.f44) (c := Try.f44.body.getD .skip) (by kernel_rfl) (by kernel_rfl) (by kernel_rfl) (by kernel_rfl) (fun _ _ => by kernel_rfl)

/- usufruct/graph.Ring -/
noncomputable def f20_l2_b (N : Nat) (go : SL → SL → Int → SL → SL → Int → SL → Int → Int → Heap → Option (Out × (SL × SL × Int × SL × SL × Int × Unit) × Heap)) (v0 : SL) (v2 : SL) (v3 : Int) (v4 : SL) (v5 : SL) (v7 : Int) (v26 : SL) (v27 : Int) (v28 : Int) (h : Heap) : Option (Out × (SL × SL × Int × SL × SL × Int × Unit) × Heap) :=
  let x12 : Bool := ltInt v28 v27
  (bif x12 then
   (ixK v26.a v26.len v28 1 fun q13 =>
   (bindV (.val (.one (.int .i64))) (h.cell q13) fun (x14 : Int) =>
   (ixK v4.a v4.len x14 1 fun q15 =>
   (bindV (.val (.one (.int .i64))) (h.cell q15) fun (x16 : Int) =>
   let x17 : Bool := leInt 0 x16
   (bif x17 then
    let x18 : Bool := ltInt v7 0
    (bif x18 then
     let x19 : Int := wrapA .i64 (v28 + 1)
     go v0 v2 v3 v4 v5 x14 v26 v27 x19 h
    else
     (ixK v4.a v4.len x14 1 fun q20 =>
     (bindV (.val (.one (.int .i64))) (h.cell q20) fun (x21 : Int) =>
     (ixK v4.a v4.len v7 1 fun q22 =>
     (bindV (.val (.one (.int .i64))) (h.cell q22) fun (x23 : Int) =>
     let x24 : Bool := ltInt x21 x23
     (bif x24 then
      let x25 : Int := wrapA .i64 (v28 + 1)
      go v0 v2 v3 v4 v5 x14 v26 v27 x25 h
     else
      (ixK v4.a v4.len x14 1 fun q26 =>
      (bindV (.val (.one (.int .i64))) (h.cell q26) fun (x27 : Int) =>
      (ixK v4.a v4.len v7 1 fun q28 =>
      (bindV (.val (.one (.int .i64))) (h.cell q28) fun (x29 : Int) =>
      let x30 : Bool := eqInt x27 x29
      (bif x30 then
       let x31 : Bool := ltInt x14 v7
       (bif x31 then
        let x32 : Int := wrapA .i64 (v28 + 1)
        go v0 v2 v3 v4 v5 x14 v26 v27 x32 h
       else
        let x33 : Int := wrapA .i64 (v28 + 1)
        go v0 v2 v3 v4 v5 v7 v26 v27 x33 h)
      else
       let x34 : Int := wrapA .i64 (v28 + 1)
       go v0 v2 v3 v4 v5 v7 v26 v27 x34 h)))))))))))
   else
    let x35 : Int := wrapA .i64 (v28 + 1)
    go v0 v2 v3 v4 v5 v7 v26 v27 x35 h)))))
  else
   some ((Out.exit 2), (v0, v2, v3, v4, v5, v7, ()), h))
noncomputable def f20_l2 (N M : Nat) (v0 : SL) (v2 : SL) (v3 : Int) (v4 : SL) (v5 : SL) (v7 : Int) (v26 : SL) (v27 : Int) (v28 : Int) (h : Heap) : Option (Out × (SL × SL × Int × SL × SL × Int × Unit) × Heap) := iter (fun go s h => f20_l2_b N (fun v0 v2 v3 v4 v5 v7 v26 v27 v28 h => go (v0, v2, v3, v4, v5, v7, v26, v27, v28, ()) h) s.1 s.2.1 s.2.2.1 s.2.2.2.1 s.2.2.2.2.1 s.2.2.2.2.2.1 s.2.2.2.2.2.2.1 s.2.2.2.2.2.2.2.1 s.2.2.2.2.2.2.2.2.1 h) M (v0, v2, v3, v4, v5, v7, v26, v27, v28, ()) h
theorem f20_l2_succ (N M : Nat) (v0 : SL) (v2 : SL) (v3 : Int) (v4 : SL) (v5 : SL) (v7 : Int) (v26 : SL) (v27 : Int) (v28 : Int) (h : Heap) : f20_l2 N (M + 1) v0 v2 v3 v4 v5 v7 v26 v27 v28 h = f20_l2_b N (f20_l2 N M) v0 v2 v3 v4 v5 v7 v26 v27 v28 h := rfl
theorem f20_l2_zero (N : Nat) (v0 : SL) (v2 : SL) (v3 : Int) (v4 : SL) (v5 : SL) (v7 : Int) (v26 : SL) (v27 : Int) (v28 : Int) (h : Heap) : f20_l2 N 0 v0 v2 v3 v4 v5 v7 v26 v27 v28 h = none := rfl
noncomputable def f20_l1_b (N : Nat) (go : SL → SL → Int → SL → SL → Int → Heap → Option (Out × (SL × Unit) × Heap)) (v0 : SL) (v2 : SL) (v3 : Int) (v4 : SL) (v5 : SL) (v6 : Int) (h : Heap) : Option (Out × (SL × Unit) × Heap) :=
  (ixK v0.a v0.len v6 1 fun q10 =>
  (bindV (.val (.one .slice)) (h.cell q10) fun (x11 : SL) =>
  (bind3 (f20_l2 N N v0 v2 v3 v4 v5 (-1) x11 (Int.ofNat x11.len) 0 h) fun _ (j37 : (SL × SL × Int × SL × SL × Int × Unit)) h38 =>
  let x39 : Bool := eqInt j37.2.2.2.2.2.1 j37.2.2.1
  (bif x39 then
   some (Out.ret, (j37.2.2.2.2.1, ()), h38)
  else
   let x40 : Bool := ltInt j37.2.2.2.2.2.1 0
   (bif x40 then
    some (Out.ret, (j37.2.2.2.2.1, ()), h38)
   else
    let h41 : Heap := h38.push (.row [(.int .i64 j37.2.2.2.2.2.1)] .own)
    (bindT (.val (.one .slice)) (appendA E 26 26 (.slice j37.2.2.2.2.1.a j37.2.2.2.2.1.len j37.2.2.2.2.1.cap j37.2.2.2.2.1.sz) (.slice (some (h38.next, 0)) 1 1 1) h41) fun (x42 : SL) h43 =>
    go j37.1 j37.2.1 j37.2.2.1 j37.2.2.2.1 x42 j37.2.2.2.2.2.1 h43))))))
noncomputable def f20_l1 (N M : Nat) (v0 : SL) (v2 : SL) (v3 : Int) (v4 : SL) (v5 : SL) (v6 : Int) (h : Heap) : Option (Out × (SL × Unit) × Heap) := iter (fun go s h => f20_l1_b N (fun v0 v2 v3 v4 v5 v6 h => go (v0, v2, v3, v4, v5, v6, ()) h) s.1 s.2.1 s.2.2.1 s.2.2.2.1 s.2.2.2.2.1 s.2.2.2.2.2.1 h) M (v0, v2, v3, v4, v5, v6, ()) h
theorem f20_l1_succ (N M : Nat) (v0 : SL) (v2 : SL) (v3 : Int) (v4 : SL) (v5 : SL) (v6 : Int) (h : Heap) : f20_l1 N (M + 1) v0 v2 v3 v4 v5 v6 h = f20_l1_b N (f20_l1 N M) v0 v2 v3 v4 v5 v6 h := rfl
theorem f20_l1_zero (N : Nat) (v0 : SL) (v2 : SL) (v3 : Int) (v4 : SL) (v5 : SL) (v6 : Int) (h : Heap) : f20_l1 N 0 v0 v2 v3 v4 v5 v6 h = none := rfl
noncomputable def f20 (N : Nat) (a0 : SL) (h : Heap) : Option (SL × Heap) :=
  (bind2 (f38 N a0 h) fun (x1 : AV) h2 =>
  (bindV (.val (.one .bool)) (binA E .neq 32 (.tmp 11) (.const .nilIface) x1 AV.nilIface) fun (x3 : Bool) =>
  (bif x3 then
   some (⟨none, 0, 0, 0⟩, h2)
  else
   (bind2 (f43 N a0 h2) fun (x4 : Int) h5 =>
   let x6 : Bool := ltInt x4 0
   (bif x6 then
    some (⟨none, 0, 0, 0⟩, h5)
   else
    (bind2 (f44 N a0 x4 h5) fun (x7 : SL) h8 =>
    let h9 : Heap := h8.push (.row [(.int .i64 x4)] .own)
    (bind3 (f20_l1 N N a0 ⟨none, 0, 0, 0⟩ x4 x7 ⟨(some (h8.next, 0)), 1, 1, 1⟩ x4 h9) fun _ (j45 : (SL × Unit)) h46 =>
    some (j45.1, h46))))))))
noncomputable def ann20 : Ann := (.two .n (.two .n (.two .n (.two .n (.two .n (.two .n (.two .n (.two (.loop [(0, (.one .slice)), (2, (.one .slice)), (3, (.one (.int .i64))), (4, (.one .slice)), (5, (.one .slice)), (6, (.one (.int .i64)))] [.ret] [(2, (.one .slice))] (.two (.two .n (.two (.two .n (.two (.loop [(0, (.one .slice)), (2, (.one .slice)), (3, (.one (.int .i64))), (4, (.one .slice)), (5, (.one .slice)), (7, (.one (.int .i64))), (26, (.one .slice)), (27, (.one (.int .i64))), (28, (.one (.int .i64)))] [(.exit 2)] [(0, (.one .slice)), (2, (.one .slice)), (3, (.one (.int .i64))), (4, (.one .slice)), (5, (.one .slice)), (7, (.one (.int .i64)))] .n) .n)) .n)) .n)) .n))))))))
theorem f20_ok (N : Nat) : FnOK Try.prog 20 [(.one .slice)] (.val (.one .slice)) (fun x h => f20 N x.1 h) :=
  runK_ok envOK hmix (addCall_ok (f44_ok N) (addCall_ok (f43_ok N) (addCall_ok (f38_ok N) noCalls_ok))) (N := N) (x := ann20) (fn := Try.f20) (c := Try.f20.body.getD .skip) (by kernel_rfl) (by kernel_rfl) (by kernel_rfl) (by kernel_rfl) (fun _ _ => by kernel_rfl)

/- usufruct/usufructlaw11.GraphOnce -/
noncomputable def f5_l4_b (N : Nat) (go : Bool → SL → SL → SL → SL → Int → Int → Heap → Option (Out × (Bool × SL × SL × SL × SL × Int × Unit) × Heap)) (v2 : Bool) (v3 : SL) (v6 : SL) (v13 : SL) (v15 : SL) (v16 : Int) (v17 : Int) (h : Heap) : Option (Out × (Bool × SL × SL × SL × SL × Int × Unit) × Heap) :=
  (ixK v6.a v6.len v16 1 fun q88 =>
  (bindV (.val (.one (.int .i64))) (h.cell q88) fun (x89 : Int) =>
  (ixK v3.a v3.len x89 1 fun q90 =>
  (bindV (.val (.one .slice)) (h.cell q90) fun (x91 : SL) =>
  let x92 : Bool := ltInt v17 (Int.ofNat x91.len)
  (bif x92 then
   (ixK v6.a v6.len v16 1 fun q93 =>
   (bindV (.val (.one (.int .i64))) (h.cell q93) fun (x94 : Int) =>
   (ixK v3.a v3.len x94 1 fun q95 =>
   (bindV (.val (.one .slice)) (h.cell q95) fun (x96 : SL) =>
   (ixK x96.a x96.len v17 1 fun q97 =>
   (bindV (.val (.one (.int .i64))) (h.cell q97) fun (x98 : Int) =>
   (ixK v15.a v15.len x98 1 fun q99 =>
   (bindV (.val (.one .bool)) (h.cell q99) fun (x100 : Bool) =>
   let x101 : Bool := !x100
   (bif x101 then
    some (Out.ret, (false, v3, v6, v13, v15, v16, ()), h)
   else
    (ixK v6.a v6.len v16 1 fun q102 =>
    (bindV (.val (.one (.int .i64))) (h.cell q102) fun (x103 : Int) =>
    (ixK v3.a v3.len x103 1 fun q104 =>
    (bindV (.val (.one .slice)) (h.cell q104) fun (x105 : SL) =>
    (ixK x105.a x105.len v17 1 fun q106 =>
    (bindV (.val (.one (.int .i64))) (h.cell q106) fun (x107 : Int) =>
    (ixK v13.a v13.len x107 1 fun q108 =>
    (bindV (.val (.one (.int .i64))) (h.cell q108) fun (x109 : Int) =>
    (ixK v6.a v6.len v16 1 fun q110 =>
    (bindV (.val (.one (.int .i64))) (h.cell q110) fun (x111 : Int) =>
    (ixK v13.a v13.len x111 1 fun q112 =>
    (bindV (.val (.one (.int .i64))) (h.cell q112) fun (x113 : Int) =>
    let x114 : Bool := leInt x113 x109
    (bif x114 then
     some (Out.ret, (false, v3, v6, v13, v15, v16, ()), h)
    else
     let x115 : Int := wrapA .i64 (v17 + 1)
     go v2 v3 v6 v13 v15 v16 x115 h))))))))))))))))))))))
  else
   some ((Out.exit 6), (v2, v3, v6, v13, v15, v16, ()), h))))))
noncomputable def f5_l4 (N M : Nat) (v2 : Bool) (v3 : SL) (v6 : SL) (v13 : SL) (v15 : SL) (v16 : Int) (v17 : Int) (h : Heap) : Option (Out × (Bool × SL × SL × SL × SL × Int × Unit) × Heap) := iter (fun go s h => f5_l4_b N (fun v2 v3 v6 v13 v15 v16 v17 h => go (v2, v3, v6, v13, v15, v16, v17, ()) h) s.1 s.2.1 s.2.2.1 s.2.2.2.1 s.2.2.2.2.1 s.2.2.2.2.2.1 s.2.2.2.2.2.2.1 h) M (v2, v3, v6, v13, v15, v16, v17, ()) h
theorem f5_l4_succ (N M : Nat) (v2 : Bool) (v3 : SL) (v6 : SL) (v13 : SL) (v15 : SL) (v16 : Int) (v17 : Int) (h : Heap) : f5_l4 N (M + 1) v2 v3 v6 v13 v15 v16 v17 h = f5_l4_b N (f5_l4 N M) v2 v3 v6 v13 v15 v16 v17 h := rfl
theorem f5_l4_zero (N : Nat) (v2 : Bool) (v3 : SL) (v6 : SL) (v13 : SL) (v15 : SL) (v16 : Int) (v17 : Int) (h : Heap) : f5_l4 N 0 v2 v3 v6 v13 v15 v16 v17 h = none := rfl
noncomputable def f5_l3_b (N : Nat) (go : Bool → SL → SL → SL → SL → Int → Heap → Option (Out × (Bool × Unit) × Heap)) (v2 : Bool) (v3 : SL) (v6 : SL) (v13 : SL) (v15 : SL) (v16 : Int) (h : Heap) : Option (Out × (Bool × Unit) × Heap) :=
  let x77 : Bool := ltInt v16 (Int.ofNat v6.len)
  (bif x77 then
   (ixK v6.a v6.len v16 1 fun q78 =>
   (bindV (.val (.one (.int .i64))) (h.cell q78) fun (x79 : Int) =>
   let x80 : Bool := ltInt x79 0
   (bif x80 then
    some (Out.ret, (false, ()), h)
   else
    (ixK v6.a v6.len v16 1 fun q81 =>
    (bindV (.val (.one (.int .i64))) (h.cell q81) fun (x82 : Int) =>
    let x83 : Bool := leInt (Int.ofNat v3.len) x82
    (bif x83 then
     some (Out.ret, (false, ()), h)
    else
     (ixK v6.a v6.len v16 1 fun q84 =>
     (bindV (.val (.one (.int .i64))) (h.cell q84) fun (x85 : Int) =>
     (ixK v15.a v15.len x85 1 fun q86 =>
     (bindV (.val (.one .bool)) (h.cell q86) fun (x87 : Bool) =>
     (bif x87 then
      some (Out.ret, (false, ()), h)
     else
      (bind3 (f5_l4 N N v2 v3 v6 v13 v15 v16 0 h) fun o116 (j117 : (Bool × SL × SL × SL × SL × Int × Unit)) h118 =>
      (bif eqOut o116 (.exit 6) then
       (ixK j117.2.2.1.a j117.2.2.1.len j117.2.2.2.2.2.1 1 fun q119 =>
       (bindV (.val (.one (.int .i64))) (h118.cell q119) fun (x120 : Int) =>
       (ixK j117.2.2.2.2.1.a j117.2.2.2.2.1.len x120 1 fun q121 =>
       (need (h118.store q121 [(.bool true)]) fun h122 =>
       let x123 : Int := wrapA .i64 (j117.2.2.2.2.2.1 + 1)
       go j117.1 j117.2.1 j117.2.2.1 j117.2.2.2.1 j117.2.2.2.2.1 x123 h122))))
      else
       some (Out.ret, (j117.1, ()), h118))))))))))))))
  else
   some ((Out.exit 4), (v2, ()), h))
noncomputable def f5_l3 (N M : Nat) (v2 : Bool) (v3 : SL) (v6 : SL) (v13 : SL) (v15 : SL) (v16 : Int) (h : Heap) : Option (Out × (Bool × Unit) × Heap) := iter (fun go s h => f5_l3_b N (fun v2 v3 v6 v13 v15 v16 h => go (v2, v3, v6, v13, v15, v16, ()) h) s.1 s.2.1 s.2.2.1 s.2.2.2.1 s.2.2.2.2.1 s.2.2.2.2.2.1 h) M (v2, v3, v6, v13, v15, v16, ()) h
theorem f5_l3_succ (N M : Nat) (v2 : Bool) (v3 : SL) (v6 : SL) (v13 : SL) (v15 : SL) (v16 : Int) (h : Heap) : f5_l3 N (M + 1) v2 v3 v6 v13 v15 v16 h = f5_l3_b N (f5_l3 N M) v2 v3 v6 v13 v15 v16 h := rfl
theorem f5_l3_zero (N : Nat) (v2 : Bool) (v3 : SL) (v6 : SL) (v13 : SL) (v15 : SL) (v16 : Int) (h : Heap) : f5_l3 N 0 v2 v3 v6 v13 v15 v16 h = none := rfl
noncomputable def f5_l2_b (N : Nat) (go : Bool → SL → SL → Int → Int → Heap → Option (Out × (Bool × Unit) × Heap)) (v2 : Bool) (v3 : SL) (v8 : SL) (v10 : Int) (v11 : Int) (h : Heap) : Option (Out × (Bool × Unit) × Heap) :=
  let x33 : Bool := ltInt v11 (Int.ofNat v8.len)
  (bif x33 then
   let x34 : Int := wrapA .i64 (v11 + 1)
   (bindV (.val (.one (.int .i64))) (binInt .rem .i64 x34 (Int.ofNat v8.len)) fun (x35 : Int) =>
   (ixK v8.a v8.len x35 1 fun q36 =>
   (bindV (.val (.one (.int .i64))) (h.cell q36) fun (x37 : Int) =>
   (ixK v8.a v8.len v11 1 fun q38 =>
   (bindV (.val (.one (.int .i64))) (h.cell q38) fun (x39 : Int) =>
   let x40 : Bool := ltInt x39 0
   (bif x40 then
    (guardB (bif (sameO (h.cell q38) (.int .i64 x39)) then true else false) (
    some (Out.ret, (false, ()), h)))
   else
    (ixK v8.a v8.len v11 1 fun q41 =>
    (bindV (.val (.one (.int .i64))) (h.cell q41) fun (x42 : Int) =>
    let x43 : Bool := leInt (Int.ofNat v3.len) x42
    (bif x43 then
     (guardB (bif (sameO (h.cell q41) (.int .i64 x42)) then (bif (sameO (h.cell q38) (.int .i64 x39)) then true else false) else false) (
     some (Out.ret, (false, ()), h)))
    else
     (ixK v8.a v8.len v11 1 fun q44 =>
     (bindV (.val (.one (.int .i64))) (h.cell q44) fun (x45 : Int) =>
     (ixK v3.a v3.len x45 1 fun q46 =>
     (bindV (.val (.one .slice)) (h.cell q46) fun (x47 : SL) =>
     (bind2 (f13 N x47 x37 h) fun (x48 : Bool) h49 =>
     let x50 : Bool := !x48
     (bif x50 then
      (guardB (bif (sameO (h.cell q46) (.slice x47.a x47.len x47.cap x47.sz)) then (bif (sameO (h.cell q44) (.int .i64 x45)) then (bif (sameO (h.cell q41) (.int .i64 x42)) then (bif (sameO (h.cell q38) (.int .i64 x39)) then true else false) else false) else false) else false) (
      some (Out.ret, (false, ()), h49)))
     else
      (ixK v8.a v8.len v11 1 fun q51 =>
      (bindV (.val (.one (.int .i64))) (h49.cell q51) fun (x52 : Int) =>
      let x53 : Bool := ltInt x52 v10
      (bif x53 then
       (guardB (bif (sameO (h49.cell q51) (.int .i64 x52)) then (bif (sameO (h.cell q46) (.slice x47.a x47.len x47.cap x47.sz)) then (bif (sameO (h.cell q44) (.int .i64 x45)) then (bif (sameO (h.cell q41) (.int .i64 x42)) then (bif (sameO (h.cell q38) (.int .i64 x39)) then true else false) else false) else false) else false) else false) (
       some (Out.ret, (false, ()), h49)))
      else
       (ixK v8.a v8.len v11 1 fun q54 =>
       (bindV (.val (.one (.int .i64))) (h49.cell q54) fun (x55 : Int) =>
       (bind2 (f12 N v3 x55 h49) fun (x56 : SL) h57 =>
       (ixK v8.a v8.len v11 1 fun q58 =>
       (bindV (.val (.one (.int .i64))) (h57.cell q58) fun (x59 : Int) =>
       (bind2 (f13 N x56 x59 h57) fun (x60 : Bool) h61 =>
       let x62 : Bool := !x60
       (guardB (bif (sameO (h57.cell q58) (.int .i64 x59)) then (bif (sameO (h49.cell q58) (.int .i64 x59)) then (bif (sameO (h49.cell q54) (.int .i64 x55)) then (bif (sameO (h49.cell q51) (.int .i64 x52)) then (bif (sameO (h.cell q46) (.slice x47.a x47.len x47.cap x47.sz)) then (bif (sameO (h.cell q44) (.int .i64 x45)) then (bif (sameO (h.cell q41) (.int .i64 x42)) then (bif (sameO (h.cell q38) (.int .i64 x39)) then true else false) else false) else false) else false) else false) else false) else false) else false) (
       (bif x62 then
        some (Out.ret, (false, ()), h61)
       else
        let x63 : Int := wrapA .i64 (v11 + 1)
        go v2 v3 v8 v10 x63 h61)))))))))))))))))))))))))))
  else
   some ((Out.exit 2), (v2, ()), h))
noncomputable def f5_l2 (N M : Nat) (v2 : Bool) (v3 : SL) (v8 : SL) (v10 : Int) (v11 : Int) (h : Heap) : Option (Out × (Bool × Unit) × Heap) := iter (fun go s h => f5_l2_b N (fun v2 v3 v8 v10 v11 h => go (v2, v3, v8, v10, v11, ()) h) s.1 s.2.1 s.2.2.1 s.2.2.2.1 s.2.2.2.2.1 h) M (v2, v3, v8, v10, v11, ()) h
theorem f5_l2_succ (N M : Nat) (v2 : Bool) (v3 : SL) (v8 : SL) (v10 : Int) (v11 : Int) (h : Heap) : f5_l2 N (M + 1) v2 v3 v8 v10 v11 h = f5_l2_b N (f5_l2 N M) v2 v3 v8 v10 v11 h := rfl
theorem f5_l2_zero (N : Nat) (v2 : Bool) (v3 : SL) (v8 : SL) (v10 : Int) (v11 : Int) (h : Heap) : f5_l2 N 0 v2 v3 v8 v10 v11 h = none := rfl
noncomputable def f5_l1_b (N : Nat) (go : Bool → SL → Int → Heap → Option (Out × (Bool × SL × Unit) × Heap)) (v2 : Bool) (v3 : SL) (v5 : Int) (h : Heap) : Option (Out × (Bool × SL × Unit) × Heap) :=
  let x9 : Bool := ltInt v5 (Int.ofNat v3.len)
  (bif x9 then
   (ixK v3.a v3.len v5 1 fun q10 =>
   (bindV (.val (.one .slice)) (h.cell q10) fun (x11 : SL) =>
   let x12 : Bool := ltInt 64 (Int.ofNat x11.len)
   (bif x12 then
    (bind2 (f11 N  h) fun (x13 : Bool) h14 =>
    some (Out.ret, (x13, v3, ()), h14))
   else
    let x15 : Int := wrapA .i64 (v5 + 1)
    go v2 v3 x15 h)))
  else
   some ((Out.exit 0), (v2, v3, ()), h))
noncomputable def f5_l1 (N M : Nat) (v2 : Bool) (v3 : SL) (v5 : Int) (h : Heap) : Option (Out × (Bool × SL × Unit) × Heap) := iter (fun go s h => f5_l1_b N (fun v2 v3 v5 h => go (v2, v3, v5, ()) h) s.1 s.2.1 s.2.2.1 h) M (v2, v3, v5, ()) h
theorem f5_l1_succ (N M : Nat) (v2 : Bool) (v3 : SL) (v5 : Int) (h : Heap) : f5_l1 N (M + 1) v2 v3 v5 h = f5_l1_b N (f5_l1 N M) v2 v3 v5 h := rfl
theorem f5_l1_zero (N : Nat) (v2 : Bool) (v3 : SL) (v5 : Int) (h : Heap) : f5_l1 N 0 v2 v3 v5 h = none := rfl
noncomputable def f5 (N : Nat) (a0 : SL) (h : Heap) : Option (Bool × Heap) :=
  (bind2 (f10 N a0 false h) fun (x1 : (SL × Bool × Unit)) h2 =>
  let x3 : Bool := !x1.2.1
  (bif x3 then
   (bind2 (f11 N  h2) fun (x4 : Bool) h5 =>
   some (x4, h5))
  else
   let x6 : Bool := ltInt 64 (Int.ofNat x1.1.len)
   (bif x6 then
    (bind2 (f11 N  h2) fun (x7 : Bool) h8 =>
    some (x7, h8))
   else
    (bind3 (f5_l1 N N false x1.1 0 h2) fun o16 (j17 : (Bool × SL × Unit)) h18 =>
    (bif eqOut o16 (.exit 0) then
     (bind2 (f14 N j17.2.1 h18) fun (x19 : (SL × AV × Unit)) h20 =>
     (bind2 (f20 N j17.2.1 h20) fun (x21 : SL) h22 =>
     (bindV (.val (.one .bool)) (binA E .neq 32 (.tmp 51) (.const .nilIface) x19.2.1 AV.nilIface) fun (x23 : Bool) =>
     (bif x23 then
      (bind2 (f23 N x19.2.1 h22) fun (x24 : (Int × Int × Unit)) h25 =>
      let x26 : Bool := !eqInt x24.1 42
      (bif x26 then
       some (false, h25)
      else
       let x27 : Bool := !eqInt (Int.ofNat x19.1.len) 0
       (bif x27 then
        some (false, h25)
       else
        let x28 : Bool := eqInt (Int.ofNat x21.len) 0
        (bif x28 then
         some (false, h25)
        else
         let x29 : Bool := ltInt (Int.ofNat j17.2.1.len) (Int.ofNat x21.len)
         (bif x29 then
          some (false, h25)
         else
          (ixK x21.a x21.len 0 1 fun q30 =>
          (bindV (.val (.one (.int .i64))) (h25.cell q30) fun (x31 : Int) =>
          let x32 : Bool := !eqInt x31 x24.2.1
          (bif x32 then
           some (false, h25)
          else
           (bind3 (f5_l2 N N j17.1 j17.2.1 x21 x24.2.1 0 h25) fun o64 (j65 : (Bool × Unit)) h66 =>
           (bif eqOut o64 (.exit 2) then
            (bind2 (f11 N  h66) fun (x67 : Bool) h68 =>
            some (x67, h68))
           else
            some (j65.1, h66)))))))))))
     else
      let x69 : Bool := !eqInt (Int.ofNat x19.1.len) (Int.ofNat j17.2.1.len)
      (bif x69 then
       some (false, h22)
      else
       let x70 : Bool := !eqInt (Int.ofNat x21.len) 0
       (bif x70 then
        some (false, h22)
       else
        (bind2 (f16 N j17.2.1 h22) fun (x71 : (SL × AV × Unit)) h72 =>
        (bindV (.val (.one .bool)) (binA E .neq 32 (.tmp 162) (.const .nilIface) x71.2.1 AV.nilIface) fun (x73 : Bool) =>
        (bif x73 then
         some (false, h72)
        else
         let x74 : Bool := !eqInt (Int.ofNat x71.1.len) (Int.ofNat j17.2.1.len)
         (bif x74 then
          some (false, h72)
         else
          (bindT (.val (.one .slice)) (makeSliceA E 43 (.int .i64 (Int.ofNat j17.2.1.len)) (.int .i64 (Int.ofNat j17.2.1.len)) h72) fun (x75 : SL) h76 =>
          (bind3 (f5_l3 N N j17.1 j17.2.1 x19.1 x71.1 x75 0 h76) fun o124 (j125 : (Bool × Unit)) h126 =>
          (bif eqOut o124 (.exit 4) then
           (bind2 (f11 N  h126) fun (x127 : Bool) h128 =>
           some (x127, h128))
          else
           some (j125.1, h126))))))))))))))
    else
     some (j17.1, h18))))))
noncomputable def ann5 : Ann := (.two .n (.two .n (.two .n (.two (.two .n (.two (.loop [(2, (.one .bool)), (3, (.one .slice)), (5, (.one (.int .i64)))] [(.exit 0), .ret] [(2, (.one .bool)), (3, (.one .slice))] .n) .n)) (.two .n (.two .n (.two (.two .n (.two (.two .n (.two .n (.two (.two .n (.two (.loop [(2, (.one .bool)), (3, (.one .slice)), (8, (.one .slice)), (10, (.one (.int .i64))), (11, (.one (.int .i64)))] [(.exit 2), .ret] [(2, (.one .bool))] .n) .n)) .n))) .n)) (.two .n (.two .n (.two .n (.two .n (.two (.two .n (.two (.loop [(2, (.one .bool)), (3, (.one .slice)), (6, (.one .slice)), (13, (.one .slice)), (15, (.one .slice)), (16, (.one (.int .i64)))] [(.exit 4), .ret] [(2, (.one .bool))] (.two .n (.two (.two (.two .n (.two (.two .n (.two (.loop [(2, (.one .bool)), (3, (.one .slice)), (6, (.one .slice)), (13, (.one .slice)), (15, (.one .slice)), (16, (.one (.int .i64))), (17, (.one (.int .i64)))] [(.exit 6), .ret] [(2, (.one .bool)), (3, (.one .slice)), (6, (.one .slice)), (13, (.one .slice)), (15, (.one .slice)), (16, (.one (.int .i64)))] .n) .n)) .n)) .n) .n))) .n)) .n))))))))))))
theorem f5_ok (N : Nat) : FnOK Try.prog 5 [(.one .slice)] (.val (.one .bool)) (fun x h => f5 N x.1 h) :=
  runK_ok envOK hmix (addCall_ok (f23_ok N) (addCall_ok (f20_ok N) (addCall_ok (f16_ok N) (addCall_ok (f14_ok N) (addCall_ok (f13_ok N) (addCall_ok (f12_ok N) (addCall_ok (f11_ok N) (addCall_ok (f10_ok N) noCalls_ok)))))))) (N := N) (x := ann5) (fn := Try.f5) (c := Try.f5.body.getD .skip) (by kernel_rfl) (by kernel_rfl) (by kernel_rfl) (by kernel_rfl) (fun _ _ => by kernel_rfl)
end Go.Proofs.Ythpplekbeecdfaa.Gb

open Go Go.Proofs.Ythpplekbeecdfaa.Ai Go.Proofs
namespace Go.Proofs.Ythpplekbeecdfaa.Gb
abbrev nilS : SL := ⟨none, 0, 0, 0⟩
abbrev Ints (h : Heap) (s : SL) (l : List Int) : Prop := One h s (l.map (AV.int .i64))
structure Rows (h : Heap) (s : SL) (ss : List SL) (ll : List (List Int)) : Prop where
  top : One h s (ss.map SL.av)
  len : ss.length = ll.length
  row : ∀ i, i < ll.length → Ints h (ss.getD i nilS) (ll.getD i [])
theorem Ints.len {h : Heap} {s : SL} {l : List Int} (hs : Ints h s l) : s.len = l.length := by have := hs.1; simpa using this
theorem Rows.slen {h : Heap} {s : SL} {ss : List SL} {ll : List (List Int)} (hs : Rows h s ss ll) : s.len = ll.length := by have := hs.top.1; rw [List.length_map, hs.len] at this; exact this
variable {N : Nat} {h : Heap} {s : SL} {l : List Int} {ss : List SL} {ll : List (List Int)}
theorem has_loop (hs : Ints h s l) (hl : l.length ≤ 1000000) (x : Int) (b : Bool) : ∀ (M i : Nat), i ≤ l.length → l.length - i < M → f13_l1 N M s x b i h = if x ∈ l.drop i then some (.ret, (true, ()), h) else some (.exit 0, (b, ()), h) := by
  intro M
  induction M with
  | zero => intro i h1 h2; omega
  | succ M ih =>
    intro i h1 h2
    have hlen := Ints.len hs
    rw [f13_l1_succ]
    unfold f13_l1_b
    by_cases hi : i < l.length
    · have ew : wrapA .i64 ((i : Int) + 1) = ((i + 1 : Nat) : Int) := wrapA_small (by omega) (by omega)
      have hd : l.drop i = l[i] :: l.drop (i + 1) := List.drop_eq_getElem_cons hi
      have hg : l.getD i 0 = l[i] := by simp [hi]
      rw [hs.int (x := (i : Int)) (by omega) (by omega)]
      simp only [ltInt_dec, hlen, Int.ofNat_eq_natCast, Int.ofNat_lt, hi, decide_true, cond_true, Int.toNat_natCast, hg, eqInt_dec, ew, ih (i + 1) (by omega) (by omega), hd, List.mem_cons]
      by_cases he : l[i] = x
      · simp [he]
      · have he' : ¬ x = l[i] := fun e => he e.symm
        simp [he, he']
    · have : i = l.length := by omega
      subst this
      simp [ltInt_dec, hlen]
theorem has_spec (hs : Ints h s l) (hN : 1000001 ≤ N) (hl : l.length ≤ 1000000) (x : Int) : f13 N s x h = some (decide (x ∈ l), h) := by
  unfold f13
  have := has_loop (N := N) hs hl x false N 0 (by omega) (by omega)
  simp only [List.drop_zero] at this
  rw [show (0 : Int) = ((0 : Nat) : Int) from rfl, this]
  by_cases hx : x ∈ l <;> simp [hx]
/-- needs that may be -/
structure Fine (ll : List (List Int)) : Prop where
  len : ll.length ≤ 64
  row : ∀ i, i < ll.length → (ll.getD i []).length ≤ 64
  inr : ∀ i, i < ll.length → ∀ x ∈ ll.getD i [], 0 ≤ x ∧ x < ll.length
theorem may1 (hr : Rows h s ss ll) (hf : Fine ll) (v : AV) : ∀ (M i : Nat), i ≤ ll.length → ll.length - i < M → f38_l1 N M s v s (ll.length : Int) i h = some (.exit 0, (s, v, ()), h) := by
  intro M
  induction M with
  | zero => intro i h1 h2; omega
  | succ M ih =>
    intro i h1 h2
    rw [f38_l1_succ]
    unfold f38_l1_b
    by_cases hi : i < ll.length
    · have ew : wrapA .i64 ((i : Int) + 1) = ((i + 1 : Nat) : Int) := wrapA_small (by omega) (by have := hf.len; omega)
      have hl := hf.row i hi
      have hrl := Ints.len (hr.row i hi)
      rw [hr.top.sl (x := (i : Int)) (by omega) (by rw [hr.len]; omega)]
      simp only [ltInt_dec, Int.ofNat_lt, hi, decide_true, cond_true, Int.toNat_natCast, hrl, Int.ofNat_eq_natCast, show ¬ ((64 : Int) < (ll.getD i []).length) by omega, decide_false, cond_false, ew, ih (i + 1) (by omega) (by omega)]
    · have : i = ll.length := by omega
      subst this
      simp [ltInt_dec]
theorem may3 (hs : Ints h s l) {s0 : SL} {n : Nat} (hn : s0.len = n) (hl : l.length ≤ 1000) (hin : ∀ x ∈ l, 0 ≤ x ∧ x < n) (v : AV) (a b c : Int) (t : SL) : ∀ (M i : Nat), i ≤ l.length → l.length - i < M → f38_l3 N M s0 v a t b c s (l.length : Int) i h = some (.exit 4, (s0, v, t, b, c, ()), h) := by
  intro M
  induction M with
  | zero => intro i h1 h2; omega
  | succ M ih =>
    intro i h1 h2
    rw [f38_l3_succ]
    unfold f38_l3_b
    by_cases hi : i < l.length
    · have ew : wrapA .i64 ((i : Int) + 1) = ((i + 1 : Nat) : Int) := wrapA_small (by omega) (by omega)
      have hg : l.getD i 0 = l[i] := by simp [hi]
      have hx := hin l[i] (List.getElem_mem hi)
      rw [hs.int (x := (i : Int)) (by omega) (by omega)]
      simp only [ltInt_dec, leInt_dec, Int.ofNat_lt, hi, decide_true, cond_true, Int.toNat_natCast, hg, hn, Int.ofNat_eq_natCast, show ¬ (l[i] < 0) by omega, show ¬ ((n : Int) ≤ l[i]) by omega, decide_false, cond_false, ew, ih (i + 1) (by omega) (by omega)]
    · have : i = l.length := by omega
      subst this
      simp [ltInt_dec]
theorem may2 (hr : Rows h s ss ll) (hf : Fine ll) (hN : 100 ≤ N) (v : AV) : ∀ (M i : Nat), i ≤ ll.length → ll.length - i < M → f38_l2 N M s v s (ll.length : Int) i h = some (.exit 2, (v, ()), h) := by
  intro M
  induction M with
  | zero => intro i h1 h2; omega
  | succ M ih =>
    intro i h1 h2
    rw [f38_l2_succ]
    unfold f38_l2_b
    by_cases hi : i < ll.length
    · have ew : wrapA .i64 ((i : Int) + 1) = ((i + 1 : Nat) : Int) := wrapA_small (by omega) (by have := hf.len; omega)
      have hl := hf.row i hi
      have hrow := hr.row i hi
      have h3 := may3 (N := N) hrow hr.slen (by omega) (hf.inr i hi) v (i : Int) (ll.length : Int) (i : Int) s N 0 (by omega) (by omega)
      rw [hr.top.sl (x := (i : Int)) (by omega) (by rw [hr.len]; omega)]
      simp only [Int.ofNat_zero] at h3
      simp only [ltInt_dec, Int.ofNat_lt, hi, decide_true, cond_true, Int.toNat_natCast, Ints.len hrow, Int.ofNat_eq_natCast, h3, bind3_some, eqOut_exit, ew, ih (i + 1) (by omega) (by omega)]
    · have : i = ll.length := by omega
      subst this
      simp [ltInt_dec]
theorem may_spec (hr : Rows h s ss ll) (hf : Fine ll) (hN : 100 ≤ N) : f38 N s h = some (AV.nilIface, h) := by
  unfold f38
  have hl := hf.len
  have h1 := may1 (N := N) hr hf AV.nilIface N 0 (by omega) (by omega)
  have h2 := may2 (N := N) hr hf hN AV.nilIface N 0 (by omega) (by omega)
  simp only [Int.ofNat_zero] at h1 h2
  simp only [ltInt_dec, hr.slen, Int.ofNat_eq_natCast, show ¬ ((64 : Int) < ll.length) by omega, decide_false, cond_false, h1, h2, bind3_some, eqOut_exit, decide_true, cond_true]
end Go.Proofs.Ythpplekbeecdfaa.Gb

open Go Go.Proofs.Ythpplekbeecdfaa.Ai Go.Proofs
namespace Go.Proofs.Ythpplekbeecdfaa.Gb
/-! plain: what is needed by one step or more -/
inductive Reach (ll : List (List Int)) (i : Int) : Int → Prop
  | one {k : Int} : k ∈ ll.getD i.toNat [] → Reach ll i k
  | step {y k : Int} : Reach ll i y → k ∈ ll.getD y.toNat [] → Reach ll i k
def bstep (p : List Bool × List Int) (k : Int) : List Bool × List Int := if p.1.getD k.toNat false then p else (p.1.set k.toNat true, p.2 ++ [k])
theorem getD_set_b (seen : List Bool) (a k : Nat) (ha : a < seen.length) : (seen.set a true).getD k false = true ↔ seen.getD k false = true ∨ k = a := by
  simp only [List.getD_eq_getElem?_getD, List.getElem?_set]
  by_cases h : a = k
  · subst h; simp [ha]
  · have h' : ¬ k = a := fun e => h e.symm
    simp [h, h']
theorem count_set_b (seen : List Bool) (a : Nat) (ha : a < seen.length) (hf : seen.getD a false = false) : (seen.set a true).count true = seen.count true + 1 := by
  rw [List.count_set ha]
  have : seen[a] = false := by simpa [List.getD_eq_getElem?_getD, ha] using hf
  simp [this]
structure Folded (n : Nat) (r : List Int) (seen : List Bool) (work : List Int) (p : List Bool × List Int) : Prop where
  len : p.1.length = n
  sn : ∀ k, p.1.getD k false = true ↔ seen.getD k false = true ∨ (k : Int) ∈ r
  keep : ∀ x ∈ work, x ∈ p.2
  from' : ∀ x ∈ p.2, x ∈ work ∨ x ∈ r
  new : ∀ x ∈ r, seen.getD x.toNat false = true ∨ x ∈ p.2
  meas : p.2.length + (n - p.1.count true) = work.length + (n - seen.count true)
theorem fold_spec {n : Nat} : ∀ (r : List Int) (seen : List Bool) (work : List Int), seen.length = n → (∀ x ∈ r, 0 ≤ x ∧ x < n) → Folded n r seen work (r.foldl bstep (seen, work))
  | [], seen, work, hl, _ => ⟨hl, by simp, fun _ h => h, fun _ h => .inl h, by simp, rfl⟩
  | k :: r, seen, work, hl, hr => by
    have hk := hr k (by simp)
    have hk' : k.toNat < seen.length := by omega
    have hkk : ((k.toNat : Nat) : Int) = k := by omega
    simp only [List.foldl_cons]
    cases hs : seen.getD k.toNat false with
    | true =>
      have hb : bstep (seen, work) k = (seen, work) := by simp only [bstep, hs, if_true]
      rw [hb]
      have ih := fold_spec r seen work hl (fun x hx => hr x (by simp [hx]))
      refine ⟨ih.len, fun j => ?_, ih.keep, fun x hx => (ih.from' x hx).imp id (by simp; exact .inr), fun x hx => ?_, ih.meas⟩
      · rw [ih.sn]
        constructor
        · rintro (h | h)
          · exact .inl h
          · exact .inr (by simp [h])
        · rintro (h | h)
          · exact .inl h
          · rcases List.mem_cons.1 h with h | h
            · left; rw [← h] at hs; simpa using hs
            · exact .inr h
      · rcases List.mem_cons.1 hx with rfl | h
        · exact .inl hs
        · exact ih.new x h
    | false =>
      have hb : bstep (seen, work) k = (seen.set k.toNat true, work ++ [k]) := by simp only [bstep, hs]; rfl
      rw [hb]
      have ih := fold_spec r (seen.set k.toNat true) (work ++ [k]) (by simpa using hl) (fun x hx => hr x (by simp [hx]))
      have hcount : seen.count true < n := by
        rcases Nat.lt_or_ge (seen.count true) n with h | h
        · exact h
        · have h1 := List.count_le_length (a := true) (l := seen)
          have h2 : seen.count true = seen.length := by omega
          have h3 := List.count_eq_length.1 h2
          have h4 : seen[k.toNat] = false := by simpa [List.getD_eq_getElem?_getD, hk'] using hs
          have := h3 seen[k.toNat] (List.getElem_mem hk')
          rw [h4] at this; cases this
      refine ⟨ih.len, fun j => ?_, fun x hx => ih.keep x (by simp [hx]), fun x hx => ?_, fun x hx => ?_, ?_⟩
      · rw [ih.sn, getD_set_b _ _ _ hk']
        constructor
        · rintro ((h | h) | h)
          · exact .inl h
          · right; subst h; simp [hkk]
          · exact .inr (by simp [h])
        · rintro (h | h)
          · exact .inl (.inl h)
          · rcases List.mem_cons.1 h with h | h
            · left; right; omega
            · exact .inr h
      · rcases ih.from' x hx with h | h
        · rcases List.mem_append.1 h with h | h
          · exact .inl h
          · right; simp at h; simp [h]
        · exact .inr (by simp [h])
      · rcases List.mem_cons.1 hx with rfl | h
        · right; exact ih.keep _ (by simp)
        · rcases ih.new x h with h1 | h1
          · rw [getD_set_b _ _ _ hk'] at h1
            rcases h1 with h1 | h1
            · exact .inl h1
            · right
              have hx2 := hr x (by simp [h])
              have : x = k := by omega
              subst this; exact ih.keep _ (by simp)
          · exact .inr h1
      · rw [ih.meas, count_set_b _ _ hk' hs]
        simp; omega
/-! the program's -/
theorem app26 : App1 E 26 3 := .of (by kernel_rfl) (by kernel_rfl) (by kernel_rfl)
theorem app43 : App1 E 43 4 := .of (by kernel_rfl) (by kernel_rfl) (by kernel_rfl)
variable {N : Nat} {s : SL} {l : List Int} {ss : List SL} {ll : List (List Int)} {B : Nat} {h0 : Heap}
/-- the state of the search -/
structure Bst (B : Nat) (h0 h : Heap) (sv wv : SL) (seen : List Bool) (work : List Int) : Prop where
  k : Keep B h0 h
  b0 : B ≤ h0.next
  s : Own1 B h sv (seen.map AV.bool)
  w : Own1 B h wv (work.map (AV.int .i64))
  ne : ∀ A, sv.blk = some A → wv.blk ≠ some A
theorem inner (hs : Ints h0 s l) (hu : s.under B) (hl : l.length ≤ 1000) (v0 : SL) {sv : SL} {n : Nat} (hn : n ≤ 1000) (hin : ∀ x ∈ l, 0 ≤ x ∧ x < n) : ∀ (M i : Nat) (h : Heap) (wv : SL) (seen : List Bool) (work : List Int), i ≤ l.length → l.length - i < M → Bst B h0 h sv wv seen work → seen.length = n → work.length + (l.length - i) ≤ 90000 →
    ∃ wv' h', f39_l2 N M v0 sv wv s (l.length : Int) i h = some (.exit 2, (v0, sv, wv', ()), h') ∧ Bst B h0 h' sv wv' ((l.drop i).foldl bstep (seen, work)).1 ((l.drop i).foldl bstep (seen, work)).2 := by
  intro M
  induction M with
  | zero => intro i h wv seen work h1 h2; omega
  | succ M ih =>
    intro i h wv seen work h1 h2 hb hsl hwl
    rw [f39_l2_succ]
    unfold f39_l2_b
    by_cases hi : i < l.length
    · have ew : wrapA .i64 ((i : Int) + 1) = ((i + 1 : Nat) : Int) := wrapA_small (by omega) (by omega)
      have hd : l.drop i = l[i] :: l.drop (i + 1) := List.drop_eq_getElem_cons hi
      have hg : l.getD i 0 = l[i] := by simp [hi]
      have hx := hin l[i] (List.getElem_mem hi)
      have hs' : Ints h s l := One.keep hb.k hu hs
      have hso := hb.s.one
      have hwo := hb.w
      rw [hs'.int (x := (i : Int)) (by omega) (by omega), hd]
      simp only [Int.toNat_natCast, hg, List.foldl_cons]
      rw [hso.bool (x := l[i]) (by omega) (by omega)]
      simp only [ltInt_dec, Int.ofNat_lt, hi, decide_true, cond_true, ew]
      cases hsn : seen.getD l[i].toNat false with
      | true =>
        have hbs : bstep (seen, work) l[i] = (seen, work) := by simp only [bstep, hsn, if_true]
        simp only [Bool.not_true, cond_false, hbs]
        exact ih (i + 1) h wv seen work (by omega) (by omega) hb hsl (by omega)
      | false =>
        have hbs : bstep (seen, work) l[i] = (seen.set l[i].toNat true, work ++ [l[i]]) := by simp only [bstep, hsn]; rfl
        simp only [Bool.not_false, cond_true, hbs]
        obtain ⟨h1', e1, o1, b1, n1⟩ := store_own1 hb.s (i := l[i].toNat) (by simp; omega) (AV.bool true)
        have ow : Own1 B h1' wv (work.map (AV.int .i64)) := hb.w.but b1 (fun A hA e => hb.ne A e hA)
        have k1 : Keep B h h1' := b1.keep (Nat.le_trans hb.b0 hb.k.next) (fun A hA => (hb.s.ge A hA).1)
        obtain ⟨wv', h2', e2, o2, b2, c2⟩ := append_own1 app26 (v := AV.int .i64 l[i]) rfl ow (by have := hb.b0; have := hb.k.next; omega) (by simp; omega)
        have k2 : Keep B h1' h2' := b2.keep (by have := hb.b0; have := hb.k.next; omega) (fun A hA => (ow.ge A hA).1)
        have os : Own1 B h2' sv ((seen.set l[i].toNat true).map AV.bool) := by
          rw [List.map_set]
          exact o1.but b2 (fun A hA => hb.ne A hA)
        rw [hso.ixz (x := l[i]) (by omega) (by simp; omega), e1]
        simp only [need_some]
        rw [e2]
        simp only [bindT_some, cast_slice]
        refine ih (i + 1) h2' wv' _ _ (by omega) (by omega) ⟨hb.k.trans (k1.trans k2), hb.b0, os, by rw [List.map_append]; exact o2, ?_⟩ (by simpa using hsl) (by simp; omega)
        intro A hA e
        rcases c2 with c2 | ⟨A', c2, c3⟩
        · exact hb.ne A hA (c2 ▸ e)
        · rw [c2] at e; cases e
          have := (o1.ge A hA).2; omega
    · have : i = l.length := by omega
      subst this
      simp only [ltInt_dec, List.drop_length, List.foldl_nil]
      exact ⟨wv, h, by simp, hb⟩
structure Inv (ll : List (List Int)) (i : Int) (seen : List Bool) (work : List Int) : Prop where
  len : seen.length = ll.length
  a : ∀ k, seen.getD k false = true → Reach ll i (k : Int)
  b : ∀ x ∈ work, 0 ≤ x ∧ x < ll.length ∧ (x = i ∨ seen.getD x.toNat false = true)
  c : ∀ y, 0 ≤ y → (y = i ∨ seen.getD y.toNat false = true) → y ∈ work ∨ ∀ x ∈ ll.getD y.toNat [], seen.getD x.toNat false = true
theorem Inv.done {i : Int} {seen : List Bool} (hi : 0 ≤ i) (hf : Fine ll) (hv : Inv ll i seen []) : ∀ k, Reach ll i k → 0 ≤ k ∧ seen.getD k.toNat false = true := by
  have inr : ∀ y : Int, ∀ x ∈ ll.getD y.toNat [], 0 ≤ x := by
    intro y x hx
    rcases Nat.lt_or_ge y.toNat ll.length with h | h
    · exact (hf.inr _ h x hx).1
    · rw [List.getD_eq_getElem?_getD, List.getElem?_eq_none h] at hx; simp at hx
  intro k hk
  induction hk with
  | one h => exact ⟨inr _ _ h, by rcases hv.c i hi (.inl rfl) with h1 | h1
                                  · simp at h1
                                  · exact h1 _ h⟩
  | step _ h ih => exact ⟨inr _ _ h, by rcases hv.c _ ih.1 (.inr ih.2) with h1 | h1
                                        · simp at h1
                                        · exact h1 _ h⟩
theorem Inv.next {i : Int} {seen : List Bool} {work : List Int} {x : Int} (hf : Fine ll) (hv : Inv ll i seen (work ++ [x])) :
    Inv ll i ((ll.getD x.toNat []).foldl bstep (seen, work)).1 ((ll.getD x.toNat []).foldl bstep (seen, work)).2 := by
  have hx := hv.b x (by simp)
  have hxl : x.toNat < ll.length := by omega
  have hin := hf.inr x.toNat hxl
  have fo := fold_spec (n := ll.length) (ll.getD x.toNat []) seen work hv.len hin
  have hreach : ∀ k ∈ ll.getD x.toNat [], Reach ll i k := by
    intro k hk
    rcases hx.2.2 with h | h
    · subst h; exact .one hk
    · have := hv.a x.toNat h
      rw [show ((x.toNat : Nat) : Int) = x by omega] at this
      exact .step this hk
  refine ⟨fo.len, fun k hk => ?_, fun y hy => ?_, fun y hy0 hy => ?_⟩
  · rcases (fo.sn k).1 hk with h | h
    · exact hv.a k h
    · exact hreach k h
  · rcases fo.from' y hy with h | h
    · obtain ⟨h1, h2, h3⟩ := hv.b y (by simp [h])
      exact ⟨h1, h2, h3.imp id fun h4 => (fo.sn _).2 (.inl h4)⟩
    · obtain ⟨h1, h2⟩ := hin y h
      exact ⟨h1, h2, .inr ((fo.sn _).2 (.inr (by rw [show ((y.toNat : Nat) : Int) = y by omega]; exact h)))⟩
  · have old : (y = i ∨ seen.getD y.toNat false = true) → y ∈ ((ll.getD x.toNat []).foldl bstep (seen, work)).2 ∨ ∀ z ∈ ll.getD y.toNat [], ((ll.getD x.toNat []).foldl bstep (seen, work)).1.getD z.toNat false = true := by
      intro hold
      rcases hv.c y hy0 hold with h | h
      · rcases List.mem_append.1 h with h | h
        · exact .inl (fo.keep y h)
        · simp at h; subst h
          right
          intro z hz
          have := hin z hz
          exact (fo.sn _).2 (.inr (by rw [show ((z.toNat : Nat) : Int) = z by omega]; exact hz))
      · exact .inr fun z hz => (fo.sn _).2 (.inl (h z hz))
    rcases hy with h | h
    · exact old (.inl h)
    · rcases (fo.sn _).1 h with h1 | h1
      · exact old (.inr h1)
      · rw [show ((y.toNat : Nat) : Int) = y by omega] at h1
        rcases fo.new y h1 with h2 | h2
        · exact old (.inr h2)
        · exact .inl h2
end Go.Proofs.Ythpplekbeecdfaa.Gb

open Go Go.Proofs.Ythpplekbeecdfaa.Ai Go.Proofs
namespace Go.Proofs.Ythpplekbeecdfaa.Gb
variable {N : Nat} {s : SL} {l : List Int} {ss : List SL} {ll : List (List Int)} {B : Nat} {h0 : Heap}
/-- rows that lie below 'B' -/
structure RowsB (B : Nat) (h : Heap) (s : SL) (ss : List SL) (ll : List (List Int)) : Prop where
  r : Rows h s ss ll
  u : s.under B
  ru : ∀ i, i < ll.length → (ss.getD i nilS).under B
theorem RowsB.keep {h h' : Heap} (hk : Keep B h h') (hr : RowsB B h s ss ll) : RowsB B h' s ss ll :=
  ⟨⟨hr.r.top.keep hk hr.u, hr.r.len, fun i hi => One.keep hk (hr.ru i hi) (hr.r.row i hi)⟩, hr.u, hr.ru⟩
theorem Bst.front {h : Heap} {sv wv : SL} {seen : List Bool} {wk : List Int} {x : Int} (hb : Bst B h0 h sv wv seen (wk ++ [x])) :
    ∃ wv', sliceA E h 26 (.slice wv.a wv.len wv.cap wv.sz) none (some (.int .i64 (wk.length : Int))) = some (.slice wv'.a wv'.len wv'.cap wv'.sz) ∧ Bst B h0 h sv wv' seen wk := by
  obtain ⟨wv', e1, o1, c1⟩ := front_own1 app26 hb.w (n := wk.length) (by simp)
  refine ⟨wv', e1, hb.k, hb.b0, hb.s, ?_, fun A hA => by rw [c1]; exact hb.ne A hA⟩
  rw [List.map_append, List.take_left' (by simp)] at o1
  exact o1
theorem outer (hr : RowsB B h0 s ss ll) (hf : Fine ll) (hN : 1000 ≤ N) {i : Int} {sv : SL} : ∀ (M : Nat) (h : Heap) (wv : SL) (seen : List Bool) (work : List Int), work.length + (ll.length - seen.count true) < M → work.length + (ll.length - seen.count true) ≤ 200 → Bst B h0 h sv wv seen work → Inv ll i seen work →
    ∃ wv' h' seen', f39_l1 N M s sv wv h = some (.exit 0, (sv, ()), h') ∧ Bst B h0 h' sv wv' seen' [] ∧ Inv ll i seen' [] := by
  intro M
  induction M with
  | zero => intro h wv seen work h1; omega
  | succ M ih =>
    intro h wv seen work h1 h2 hb hv
    rw [f39_l1_succ]
    unfold f39_l1_b
    have hwl := hb.w.len
    rw [List.length_map] at hwl
    rcases List.eq_nil_or_concat work with rfl | ⟨wk, x, rfl⟩
    · refine ⟨wv, h, seen, ?_, hb, hv⟩
      simp [ltInt_dec, hwl]
    · simp only [List.concat_eq_append] at *
      rw [List.length_append, List.length_singleton] at hwl h1 h2
      have hx := hv.b x (by simp)
      have hxl : x.toNat < ll.length := by omega
      have ew : wrapA .i64 (((wk.length + 1 : Nat) : Int) - 1) = (wk.length : Int) := by
        rw [wrapA_small (by omega) (by omega)]; omega
      obtain ⟨wv1, e1, hb1⟩ := hb.front
      have hrk := hr.keep hb.k
      have fo := fold_spec (n := ll.length) (ll.getD x.toNat []) seen wk hv.len (hf.inr x.toNat hxl)
      have hrl := hf.row x.toNat hxl
      obtain ⟨wv2, h2', e2, hb2⟩ := inner (N := N) (B := B) (h0 := h0) (hr.r.row x.toNat hxl) (hr.ru x.toNat hxl) (by omega) s (sv := sv) (n := ll.length) (by have := hf.len; omega) (hf.inr x.toNat hxl) N 0 h wv1 seen wk (by omega) (by omega) hb1 hv.len (by omega)
      simp only [List.drop_zero, Int.ofNat_zero] at e2 hb2
      obtain ⟨wv3, h3, seen3, e3, hb3, hv3⟩ := ih h2' wv2 _ _ (by rw [fo.meas]; omega) (by rw [fo.meas]; omega) hb2 (Inv.next hf hv)
      refine ⟨wv3, h3, seen3, ?_, hb3, hv3⟩
      simp only [hwl, Int.ofNat_eq_natCast, ew, ltInt_dec, show (0 : Int) < ((wk.length + 1 : Nat) : Int) by omega, decide_true, cond_true]
      have hwi : Ints h wv (wk ++ [x]) := hb.w.one
      have hgx : (wk ++ [x]).getD wk.length 0 = x := by simp
      have hi1 := hwi.int (β := Out × (SL × Unit) × Heap) (x := (wk.length : Int)) (by omega) (by simp; omega)
      rw [hwl] at hi1 e1
      rw [hi1]
      simp only [Int.toNat_natCast, hgx, e1, bindV_some, cast_slice]
      rw [hrk.r.top.sl (x := x) hx.1 (by rw [hrk.r.len]; omega)]
      rw [Ints.len (hrk.r.row x.toNat hxl), e2]
      simp only [bind3_some]
      exact e3

theorem count_rep (n : Nat) : (List.replicate n false).count true = 0 := by
  rw [List.count_replicate]; simp
/-- the search -/
theorem below_spec {h : Heap} (hr : RowsB h.next h s ss ll) (hf : Fine ll) (hN : 1000 ≤ N) {i : Int} (hi0 : 0 ≤ i) (hi1 : i < ll.length) :
    ∃ (s' : SL) (h' : Heap) (seen : List Bool), f39 N s i h = some (s', h') ∧ Keep h.next h h' ∧ Own1 h.next h' s' (seen.map AV.bool) ∧ seen.length = ll.length ∧ ∀ k : Nat, k < ll.length → (seen.getD k false = true ↔ Reach ll i (k : Int)) := by
  have hlen := hf.len
  obtain ⟨m1, m2⟩ := make1 app43 (.bool false) (by kernel_rfl) rfl ll.length (by omega) h
  have hb : Bst h.next h ((h.push (.row (List.replicate ll.length (.bool false)) .own)).push (.row [.int .i64 i] .own)) ⟨some (h.next, 0), ll.length, ll.length, 1⟩ ⟨some (h.next + 1, 0), 1, 1, 1⟩ (List.replicate ll.length false) [i] := by
    refine ⟨((Keep.refl _ _).push (Nat.le_refl _) _).push (Nat.le_refl _) _, Nat.le_refl _, ?_, ?_, ?_⟩
    · rw [List.map_replicate]; exact m2.push _
    · exact .inr ⟨h.next + 1, [.int .i64 i], .own, rfl, rfl, by omega, by simp, g_push_eq _ rfl, rfl, by simp, by simp, by simp, .inr ⟨rfl, rfl⟩⟩
    · intro A hA e
      simp [SL.blk] at hA e; omega
  have hv : Inv ll i (List.replicate ll.length false) [i] := by
    have hno : ∀ k, (List.replicate ll.length false).getD k false = false := by
      intro k
      simp [List.getD_eq_getElem?_getD, List.getElem?_replicate]
      split <;> rfl
    refine ⟨by simp, fun k hk => ?_, fun x hx => ?_, fun y hy0 hy => ?_⟩
    · rw [hno] at hk; cases hk
    · simp at hx; subst hx; exact ⟨hi0, hi1, .inl rfl⟩
    · rcases hy with rfl | hy
      · simp
      · rw [hno] at hy; cases hy
  obtain ⟨wv', h', seen', e, hb', hv'⟩ := outer (N := N) hr hf hN (i := i) N _ _ _ _ (by rw [count_rep]; simp; omega) (by rw [count_rep]; simp; omega) hb hv
  refine ⟨_, h', seen', ?_, hb'.k, hb'.s, hv'.len, fun k hk => ⟨hv'.a k, fun hx => ?_⟩⟩
  · unfold f39
    simp only [hr.r.slen, Int.ofNat_eq_natCast, m1, bindT_some, cast_slice, Heap.push_next, e, bind3_some]
  · simpa using (hv'.done hi0 hf k hx).2
/-- what is asked of a list of what is needed -/
def belowL (seen : List Bool) : Nat → List Int
  | 0 => []
  | n + 1 => belowL seen n ++ (if seen.getD n false then [(n : Int)] else [])
theorem belowL_mem (seen : List Bool) : ∀ (n : Nat) (x : Int), x ∈ belowL seen n ↔ 0 ≤ x ∧ x < n ∧ seen.getD x.toNat false = true
  | 0, x => by simp [belowL]; omega
  | n + 1, x => by
    simp only [belowL, List.mem_append, belowL_mem seen n x]
    by_cases hs : seen.getD n false = true
    · simp only [hs, if_true, List.mem_singleton]
      constructor
      · rintro (⟨h1, h2, h3⟩ | rfl)
        · exact ⟨h1, by omega, h3⟩
        · exact ⟨by omega, by omega, by simpa using hs⟩
      · rintro ⟨h1, h2, h3⟩
        by_cases he : x = n
        · exact .inr he
        · exact .inl ⟨h1, by omega, h3⟩
    · simp only [hs, if_false]
      constructor
      · rintro (⟨h1, h2, h3⟩ | h)
        · exact ⟨h1, by omega, h3⟩
        · simp at h
      · rintro ⟨h1, h2, h3⟩
        left
        refine ⟨h1, ?_, h3⟩
        by_cases he : x = n
        · subst he; simp at h3; exact absurd (by simpa using h3) hs
        · omega
theorem belowL_len (seen : List Bool) : ∀ n, (belowL seen n).length ≤ n
  | 0 => by simp [belowL]
  | n + 1 => by have := belowL_len seen n; simp only [belowL, List.length_append]; split <;> simp <;> omega
theorem belowL_sorted (seen : List Bool) : ∀ n, (belowL seen n).Pairwise (· < ·)
  | 0 => List.Pairwise.nil
  | n + 1 => by
    simp only [belowL]
    rw [List.pairwise_append]
    refine ⟨belowL_sorted seen n, by split <;> simp, fun a ha b hb => ?_⟩
    have h1 := ((belowL_mem seen n a).1 ha).2.1
    split at hb
    · simp at hb; omega
    · simp at hb
theorem list_loop {s' : SL} {seen : List Bool} (hn : seen.length ≤ 100) : ∀ (M i : Nat) (h : Heap) (ov : SL), i ≤ seen.length → seen.length - i < M → Keep B h0 h → B ≤ h0.next → Own1 B h s' (seen.map AV.bool) → Own1 B h ov ((belowL seen i).map (AV.int .i64)) → (∀ A, s'.blk = some A → ov.blk ≠ some A) →
    ∃ ov' h', f12_l1 N M ov s' (seen.length : Int) i h = some (.exit 0, (ov', ()), h') ∧ Keep B h0 h' ∧ Own1 B h' ov' ((belowL seen seen.length).map (AV.int .i64)) := by
  intro M
  induction M with
  | zero => intro i h ov h1 h2; omega
  | succ M ih =>
    intro i h ov h1 h2 hk hb0 hs ho hne
    rw [f12_l1_succ]
    unfold f12_l1_b
    by_cases hi : i < seen.length
    · have ew : wrapA .i64 ((i : Int) + 1) = ((i + 1 : Nat) : Int) := wrapA_small (by omega) (by omega)
      simp only [ltInt_dec, Int.ofNat_lt, hi, decide_true, cond_true, ew]
      rw [hs.one.bool (x := (i : Int)) (by omega) (by omega)]
      simp only [Int.toNat_natCast]
      cases hsn : seen.getD i false with
      | true =>
        have hbl : belowL seen (i + 1) = belowL seen i ++ [(i : Int)] := by simp only [belowL, hsn, if_true]
        have := belowL_len seen i
        have hnx := hk.next
        obtain ⟨ov', h2', e2, o2, b2, c2⟩ := append_own1 app26 (v := AV.int .i64 (i : Int)) rfl ho (by omega) (by simp; omega)
        simp only [cond_true]
        rw [e2]
        simp only [bindT_some, cast_slice]
        refine ih (i + 1) h2' ov' (by omega) (by omega) (hk.trans (b2.keep (by omega) (fun A hA => (ho.ge A hA).1))) hb0 (hs.but b2 hne) (by rw [hbl, List.map_append]; exact o2) ?_
        intro A hA e
        rcases c2 with c2 | ⟨A', c2, c3⟩
        · exact hne A hA (c2 ▸ e)
        · rw [c2] at e; cases e
          have := (hs.ge A hA).2; omega
      | false =>
        have hbl : belowL seen (i + 1) = belowL seen i := by simp only [belowL, hsn]; simp
        simp only [cond_false]
        exact ih (i + 1) h ov (by omega) (by omega) hk hb0 hs (by rw [hbl]; exact ho) hne
    · have : i = seen.length := by omega
      subst this
      exact ⟨ov, h, by simp [ltInt_dec], hk, ho⟩
theorem nn9 : binA E .neq 32 (.tmp 9) (.const .nilIface) AV.nilIface AV.nilIface = some (.bool false) := by kernel_rfl
/-- all that a thing needs -/
theorem Below_spec {h : Heap} (hr : RowsB h.next h s ss ll) (hf : Fine ll) (hN : 1000 ≤ N) {i : Int} (hi0 : 0 ≤ i) (hi1 : i < ll.length) :
    ∃ (s' : SL) (h' : Heap) (l : List Int), f12 N s i h = some (s', h') ∧ Keep h.next h h' ∧ Own1 h.next h' s' (l.map (AV.int .i64)) ∧ l.length ≤ 64 ∧ l.Pairwise (· < ·) ∧ ∀ x, x ∈ l ↔ (0 ≤ x ∧ x < ll.length ∧ Reach ll i x) := by
  obtain ⟨s1, h1, seen, e1, k1, o1, hl, hs⟩ := below_spec (N := N) hr hf hN hi0 hi1
  have hlen := hf.len
  obtain ⟨ov, h2, e2, k2, o2⟩ := list_loop (N := N) (B := h.next) (h0 := h) (seen := seen) (s' := s1) (by omega) N 0 h1 nilS (by omega) (by omega) k1 (Nat.le_refl _) o1 (Own1.nil _ _ _) (by simp [SL.blk])
  have hsl := o1.len
  rw [List.length_map] at hsl
  refine ⟨ov, h2, belowL seen seen.length, ?_, k2, o2, by have := belowL_len seen seen.length; omega, belowL_sorted _ _, fun x => ?_⟩
  · unfold f12
    have e2' : f12_l1 N N ⟨none, 0, 0, 0⟩ s1 (seen.length : Int) 0 h1 = some (.exit 0, (ov, ()), h2) := e2
    simp only [may_spec (N := N) hr.r hf (by omega), bind2_some, nn9, bindV_some, cast_bool, cond_false, ltInt_dec, leInt_dec, hr.r.slen, Int.ofNat_eq_natCast, show ¬ i < 0 by omega, show ¬ (ll.length : Int) ≤ i by omega, decide_false, e1, hsl]
    rw [e2']
    rfl
  · rw [belowL_mem]
    constructor
    · rintro ⟨h1, h2, h3⟩
      refine ⟨h1, by omega, ?_⟩
      have := (hs x.toNat (by omega)).1 h3
      rwa [show ((x.toNat : Nat) : Int) = x by omega] at this
    · rintro ⟨h1, h2, h3⟩
      refine ⟨h1, by omega, (hs x.toNat (by omega)).2 (by rwa [show ((x.toNat : Nat) : Int) = x by omega])⟩
end Go.Proofs.Ythpplekbeecdfaa.Gb

open Go Go.Proofs.Ythpplekbeecdfaa.Ai Go.Proofs
namespace Go.Proofs.Ythpplekbeecdfaa.Gb
theorem wrap_u64 (x : Int) : ∃ n : Nat, wrapA .u64 x = (n : Int) ∧ n < 18446744073709551616 := by
  cases x with
  | ofNat a => exact ⟨a % 18446744073709551616, rfl, Nat.mod_lt _ (by decide)⟩
  | negSucc a => exact ⟨18446744073709551616 - 1 - a % 18446744073709551616, rfl, by omega⟩
def conv (m : Nat) (x : Int) : Int := (wrapA .u64 x).tmod m
theorem conv_in {m : Nat} (hm : 0 < m) (x : Int) : 0 ≤ conv m x ∧ conv m x < m := by
  obtain ⟨n, h1, _⟩ := wrap_u64 x
  unfold conv
  rw [h1, Int.tmod_eq_emod_of_nonneg (by omega)]
  exact ⟨Int.emod_nonneg _ (by omega), Int.emod_lt_of_pos _ (by omega)⟩
theorem wrap_small (k : Nat) (h : k < 1000) : wrapA .u64 (k : Int) = k := by
  show wrapN .u64 (k % 18446744073709551616) = _
  rw [Nat.mod_eq_of_lt (by omega)]; rfl
theorem rem_conv {m : Nat} (hm : 0 < m) (h1 : m < 1000) (x : Int) : binInt .rem .u64 (wrapA .u64 x) (m : Int) = some (.int .u64 (conv m x)) ∧ wrapA .i64 (conv m x) = conv m x := by
  have hc := conv_in hm x
  refine ⟨?_, wrapA_small (by omega) (by omega)⟩
  have : eqInt (m : Int) 0 = false := by
    obtain ⟨k, rfl⟩ : ∃ k, m = k + 1 := ⟨m - 1, by omega⟩
    rfl
  simp only [binInt, this, cond_false, conv]
variable {N : Nat} {s : SL} {ss : List SL} {ll : List (List Int)} {B : Nat} {h0 : Heap}
def mOf (ll : List (List Int)) : Nat := min ll.length 70
theorem min_eq (n : Nat) : (bif ltInt 70 (n : Int) then (70 : Int) else (n : Int)) = ((min n 70 : Nat) : Int) := by
  rw [ltInt_dec]
  by_cases h : (70 : Int) < n
  · simp [h]; omega
  · simp [h]; omega
/-- a row, its numbers taken into the range -/
theorem fit_row (hr : RowsB B h0 s ss ll) {i : Nat} (hi : i < ll.length) (hi70 : i < 70) (hl : (ll.getD i []).length ≤ 70) (hb0 : B ≤ h0.next) (v4 v5 : _) (v6 : SL) : ∀ (M k : Nat) (h : Heap) (rv : SL), k ≤ (ll.getD i []).length → (ll.getD i []).length - k < M → Keep B h0 h → Own1 B h rv ((((ll.getD i []).take k).map (conv (mOf ll))).map (AV.int .i64)) →
    ∃ rv' h', f10_l2 N M s false v4 v5 v6 (i : Int) rv (k : Int) h = some (.exit 2, (s, false, v4, v5, v6, (i : Int), rv', ()), h') ∧ Keep B h0 h' ∧ Own1 B h' rv' (((ll.getD i []).map (conv (mOf ll))).map (AV.int .i64)) ∧ But rv.blk h h' ∧ (rv'.blk = rv.blk ∨ ∃ A, rv'.blk = some A ∧ h.next ≤ A) := by
  intro M
  induction M with
  | zero => intro k h rv h1 h2; omega
  | succ M ih =>
    intro k h rv h1 h2 hk ho
    rw [f10_l2_succ]
    unfold f10_l2_b
    have hrk := hr.keep hk
    have hrow := hrk.r.row i hi
    have hnx := hk.next
    simp only [hrk.r.slen]
    have ht := hrk.r.top.sl (β := Out × (SL × Bool × SL × Bool × SL × Int × SL × Unit) × Heap) (x := (i : Int)) (by omega) (by rw [hrk.r.len]; omega)
    rw [hrk.r.slen] at ht
    rw [ht]
    simp only [Int.toNat_natCast, Ints.len hrow]
    by_cases hkl : k < (ll.getD i []).length
    · have ew : wrapA .i64 ((k : Int) + 1) = ((k + 1 : Nat) : Int) := wrapA_small (by omega) (by omega)
      have hg : (ll.getD i []).getD k 0 = (ll.getD i [])[k] := getD_lt _ _ hkl
      have htk : (ll.getD i []).take (k + 1) = (ll.getD i []).take k ++ [(ll.getD i [])[k]] := List.take_succ_eq_append_getElem hkl
      have hmin : mOf ll < 1000 := by unfold mOf; omega
      have hm0 : 0 < mOf ll := by unfold mOf; omega
      obtain ⟨r1, r2⟩ := rem_conv hm0 hmin (ll.getD i [])[k]
      obtain ⟨rv1, h2', e2, o2, b2, c2⟩ := append_own1 app26 (v := AV.int .i64 (conv (mOf ll) (ll.getD i [])[k])) rfl ho (by omega) (by simp; omega)
      have k2 : Keep B h h2' := b2.keep (by omega) (fun A hA => (ho.ge A hA).1)
      obtain ⟨rv', h', e3, k3, o3, b3, c3⟩ := ih (k + 1) h2' rv1 (by omega) (by omega) (hk.trans k2) (by rw [htk, List.map_append, List.map_append]; exact o2)
      refine ⟨rv', h', ?_, k3, o3, b2.step c2 b3, ?_⟩
      · rw [ht]
        simp only [ltInt_dec, Int.ofNat_eq_natCast, Int.ofNat_lt, hkl, decide_true, cond_true, Int.toNat_natCast]
        have hi2 := hrow.int (β := Out × (SL × Bool × SL × Bool × SL × Int × SL × Unit) × Heap) (x := (k : Int)) (by omega) (by omega)
        rw [Ints.len hrow] at hi2 ⊢
        rw [hi2]
        have hmn : (bif decide ((70 : Int) < (ll.length : Int)) then (70 : Int) else (ll.length : Int)) = ((mOf ll : Nat) : Int) := by
          have := min_eq ll.length
          rw [ltInt_dec] at this
          exact this
        simp only [Int.toNat_natCast, hg, Bool.not_false, cond_true, hmn, wrap_small _ hmin, r1, bindV_some, cast_int, r2]
        rw [e2]
        simp only [bindT_some, cast_slice, ew]
        exact e3
      · rcases c3 with c3 | ⟨A, c3, c4⟩
        · rw [c3]; exact c2
        · exact .inr ⟨A, c3, by have := b2.next; omega⟩
    · have : k = (ll.getD i []).length := by omega
      subst this
      rw [List.take_length] at ho
      refine ⟨rv, h, ?_, hk, ho, But.refl _ _, .inl rfl⟩
      simp [ltInt_dec]

/-- rows of one's own -/
structure Fst (B : Nat) (h0 h : Heap) (ov : SL) (ss : List SL) (ll : List (List Int)) : Prop where
  k : Keep B h0 h
  o : Own1 B h ov (ss.map SL.av)
  len : ss.length = ll.length
  row : ∀ i, i < ll.length → Own1 B h (ss.getD i nilS) ((ll.getD i []).map (AV.int .i64)) ∧ ∀ A, (ss.getD i nilS).blk = some A → ov.blk ≠ some A
theorem app22 : App1 E 22 26 := .of (by kernel_rfl) (by kernel_rfl) (by kernel_rfl)
def fitL (ll : List (List Int)) (k : Nat) : List (List Int) := (ll.take k).map fun r => r.map (conv (mOf ll))
theorem fitL_succ {k : Nat} (hk : k < ll.length) : fitL ll (k + 1) = fitL ll k ++ [(ll.getD k []).map (conv (mOf ll))] := by
  unfold fitL
  rw [List.take_succ_eq_append_getElem hk, List.map_append, getD_lt _ _ hk]; rfl
theorem fitL_len {k : Nat} (hk : k ≤ ll.length) : (fitL ll k).length = k := by simp [fitL]; omega
theorem getD_append_l {α : Type} (l r : List α) (d : α) {n : Nat} (h : n < l.length) : (l ++ r).getD n d = l.getD n d := by
  rw [List.getD_eq_getElem?_getD, List.getElem?_append_left h, ← List.getD_eq_getElem?_getD]
theorem getD_append_r {α : Type} (l : List α) (x d : α) {n : Nat} (h : n = l.length) : (l ++ [x]).getD n d = x := by
  subst h; simp [List.getD_eq_getElem?_getD]
theorem fit_loop (hr : RowsB B h0 s ss ll) (hN : 1000 ≤ N) (hb0 : B ≤ h0.next) (v4 : SL) (v5 : Bool) : ∀ (M k : Nat) (h : Heap) (ov : SL) (ss' : List SL), k ≤ ll.length → k ≤ 70 → 70 - k < M → (∀ i, i < k → (ll.getD i []).length ≤ 70) → Fst B h0 h ov ss' (fitL ll k) →
    (∃ ov' h' ss', f10_l1 N M s false v4 v5 ov (k : Int) h = some (.exit 0, (v4, v5, ov', ()), h') ∧ Fst B h0 h' ov' ss' (fitL ll (mOf ll)) ∧ ∀ i, i < mOf ll → (ll.getD i []).length ≤ 70) ∨
    (∃ ov' h', f10_l1 N M s false v4 v5 ov (k : Int) h = some (.ret, (nilS, false, ov', ()), h')) := by
  intro M
  induction M with
  | zero => intro k h ov ss' h1 h2 h3; omega
  | succ M ih =>
    intro k h ov ss' h1 h2 h3 h4 hf
    rw [f10_l1_succ]
    unfold f10_l1_b
    have hrk := hr.keep hf.k
    have hnx := hf.k.next
    by_cases hkl : k < ll.length ∧ k < 70
    · obtain ⟨hkl, hk70⟩ := hkl
      have hrow := hrk.r.row k hkl
      have ht := hrk.r.top.sl (β := Out × (SL × Bool × SL × Unit) × Heap) (x := (k : Int)) (by omega) (by rw [hrk.r.len]; omega)
      have ew : wrapA .i64 ((k : Int) + 1) = ((k + 1 : Nat) : Int) := wrapA_small (by omega) (by omega)
      simp only [hrk.r.slen] at ht ⊢
      simp only [ltInt_dec, Int.ofNat_eq_natCast, Int.ofNat_lt, hkl, show (k : Int) < 70 by omega, decide_true, cond_true]
      rw [ht]
      simp only [Int.toNat_natCast, Ints.len hrow]
      by_cases hl : (ll.getD k []).length ≤ 70
      · simp only [show ¬ (70 : Int) < ((ll.getD k []).length : Int) by omega, decide_false, cond_false]
        obtain ⟨rv, h', e1, k1, o1, b1, c1⟩ := fit_row (N := N) hr hkl hk70 hl hb0 v4 v5 ov N 0 h nilS (by omega) (by omega) hf.k (by simpa using Own1.nil B h 0)
        simp only [Int.ofNat_zero] at e1
        have ov1 : Own1 B h' ov (ss'.map SL.av) := hf.o.but b1 (fun A hA => by simp [SL.blk])
        have hsl := hf.o.len
        rw [List.length_map, hf.len, fitL_len (by omega)] at hsl
        have hs'l : ss'.length = k := by rw [hf.len, fitL_len (by omega)]
        have hnx1 := b1.next
        obtain ⟨ov', h2', e2, o2, b2, c2⟩ := append_own1 app22 (v := SL.av rv) rfl ov1 (by omega) (by rw [List.length_map]; omega)
        have k2 : Keep B h' h2' := b2.keep (by omega) (fun A hA => (ov1.ge A hA).1)
        have hrvn : ∀ A, rv.blk = some A → h.next ≤ A := by
          intro A hA
          rcases c1 with c1 | ⟨A', c1, c3⟩
          · rw [c1] at hA; simp [SL.blk] at hA
          · rw [c1] at hA; cases hA; exact c3
        have hf' : Fst B h0 h2' ov' (ss' ++ [rv]) (fitL ll (k + 1)) := by
          refine ⟨k1.trans k2, by rw [List.map_append]; exact o2, by simp [hs'l, fitL_len (show k + 1 ≤ ll.length by omega)], fun i hi => ?_⟩
          rw [fitL_len (by omega)] at hi
          rw [fitL_succ hkl]
          by_cases hik : i < k
          · rw [getD_append_l _ _ _ (by omega), getD_append_l _ _ _ (by rw [fitL_len (by omega)]; omega)]
            obtain ⟨q1, q2⟩ := hf.row i (by rw [fitL_len (by omega)]; omega)
            have q3 := q1.but b1 (fun A hA => by simp [SL.blk])
            refine ⟨q3.but b2 q2, fun A hA e => ?_⟩
            rcases c2 with c2 | ⟨A', c2, c3⟩
            · exact q2 A hA (c2 ▸ e)
            · rw [c2] at e; cases e
              have := (q3.ge A hA).2; omega
          · have : i = k := by omega
            subst this
            rw [getD_append_r _ _ _ hs'l.symm, getD_append_r _ _ _ (by rw [fitL_len (by omega)])]
            have hne : ∀ A, rv.blk = some A → ov.blk ≠ some A := by
              intro A hA e
              have h5 := hrvn A hA
              have h6 := (hf.o.ge A e).2
              omega
            refine ⟨o1.but b2 hne, fun A hA e => ?_⟩
            rcases c2 with c2 | ⟨A', c2, c3⟩
            · exact hne A hA (c2 ▸ e)
            · rw [c2] at e; cases e
              have := (o1.ge A hA).2; omega
        have e1' : f10_l2 N N s false v4 v5 ov (k : Int) ⟨none, 0, 0, 0⟩ 0 h = some (.exit 2, (s, false, v4, v5, ov, (k : Int), rv, ()), h') := e1
        rw [e1']
        simp only [bind3_some]
        have e2' : appendA E 22 22 (.slice ov.a ov.len ov.cap ov.sz) (.slice (some (h'.next, 0)) 1 1 1) (h'.push (.row [.slice rv.a rv.len rv.cap rv.sz] .own)) = some (.slice ov'.a ov'.len ov'.cap ov'.sz, h2') := e2
        rw [e2']
        simp only [bindT_some, cast_slice, ew]
        exact ih (k + 1) h2' ov' (ss' ++ [rv]) (by omega) (by omega) (by omega) (fun i hi => by
          by_cases hik : i < k
          · exact h4 i hik
          · have : i = k := by omega
            subst this; exact hl) hf'
      · simp only [show (70 : Int) < ((ll.getD k []).length : Int) by omega, decide_true, cond_true]
        exact .inr ⟨ov, h, rfl⟩
    · have hk : k = mOf ll := by unfold mOf; omega
      left
      refine ⟨ov, h, ss', ?_, hk ▸ hf, fun i hi => h4 i (by omega)⟩
      simp only [hrk.r.slen, ltInt_dec, Int.ofNat_eq_natCast, Int.ofNat_lt]
      by_cases hkl' : k < ll.length
      · have : ¬ (k : Int) < 70 := by omega
        simp [hkl', this]
      · simp [hkl']
/-- needs, taken into the range -/
theorem fit_spec {h : Heap} (hr : RowsB h.next h s ss ll) (hN : 1000 ≤ N) :
    (∃ s' h' ss', f10 N s false h = some ((s', true, ()), h') ∧ Keep h.next h h' ∧ RowsB h'.next h' s' ss' (fitL ll (mOf ll)) ∧ ∀ i, i < mOf ll → (ll.getD i []).length ≤ 70) ∨
    (∃ s' h', f10 N s false h = some ((s', false, ()), h')) := by
  rcases fit_loop (N := N) hr hN (Nat.le_refl _) nilS false N 0 h nilS [] (by omega) (by omega) (by omega) (fun i hi => by omega) ⟨Keep.refl _ _, Own1.nil _ _ _, by simp [fitL], fun i hi => by simp [fitL] at hi⟩ with ⟨ov, h', ss', e, hf, hl⟩ | ⟨ov, h', e⟩
  · left
    simp only [Int.ofNat_zero] at e
    have e' : f10_l1 N N s false ⟨none, 0, 0, 0⟩ false ⟨none, 0, 0, 0⟩ 0 h = some (.exit 0, (⟨none, 0, 0, 0⟩, false, ov, ()), h') := e
    refine ⟨ov, h', ss', by unfold f10; rw [e']; simp, hf.k, ⟨⟨hf.o.one, hf.len, fun i hi => (hf.row i hi).1.one⟩, ?_, fun i hi => ?_⟩, hl⟩
    · exact hf.o.one.2.2.under
    · exact (hf.row i hi).1.one.2.2.under
  · right
    simp only [Int.ofNat_zero] at e
    have e' : f10_l1 N N s false ⟨none, 0, 0, 0⟩ false ⟨none, 0, 0, 0⟩ 0 h = some (.ret, (⟨none, 0, 0, 0⟩, false, ov, ()), h') := e
    exact ⟨⟨none, 0, 0, 0⟩, h', by unfold f10; rw [e']; simp⟩
end Go.Proofs.Ythpplekbeecdfaa.Gb

open Go Go.Proofs.Ythpplekbeecdfaa.Ai Go.Proofs
namespace Go.Proofs.Ythpplekbeecdfaa.Gb
variable {N : Nat} {s v5 v9 : SL} {ss : List SL} {d : List (List Int)} {l : List Int} {h : Heap}
theorem l1_spec (hr : Rows h v5 ss d) (hd : d.length ≤ 64) (v1 : Int) (v4 : Bool) : ∀ (M k : Nat), k ≤ d.length → d.length - k < M →
    (f3_l1 N M v1 v4 v5 (k : Int) h = some (.exit 0, (v1, v4, v5, ()), h) ∧ ∀ i, k ≤ i → i < d.length → (d.getD i []).length ≤ 64) ∨ f3_l1 N M v1 v4 v5 (k : Int) h = some (.ret, (v1, true, v5, ()), h) := by
  intro M
  induction M with
  | zero => intro k h1 h2; omega
  | succ M ih =>
    intro k h1 h2
    rw [f3_l1_succ]
    unfold f3_l1_b
    have ht := hr.top.sl (β := Out × (Int × Bool × SL × Unit) × Heap) (x := (k : Int)) (by omega)
    simp only [hr.slen] at ht ⊢
    by_cases hk : k < d.length
    · have ew : wrapA .i64 ((k : Int) + 1) = ((k + 1 : Nat) : Int) := wrapA_small (by omega) (by omega)
      have hrow := hr.row k hk
      simp only [ltInt_dec, Int.ofNat_eq_natCast, Int.ofNat_lt, hk, decide_true, cond_true]
      rw [ht (by rw [hr.len]; omega)]
      simp only [Int.toNat_natCast, Ints.len hrow]
      by_cases hl : (d.getD k []).length ≤ 64
      · simp only [show ¬ (64 : Int) < ((d.getD k []).length : Int) by omega, decide_false, cond_false, ew]
        rcases ih (k + 1) (by omega) (by omega) with ⟨e, h3⟩ | e
        · refine .inl ⟨e, fun i hi1 hi2 => ?_⟩
          by_cases hik : i = k
          · subst hik; exact hl
          · exact h3 i (by omega) hi2
        · exact .inr e
      · simp only [show (64 : Int) < ((d.getD k []).length : Int) by omega, decide_true, cond_true, f11, bind2_some]
        exact .inr trivial
    · have : k = d.length := by omega
      subst this
      left
      refine ⟨by simp [ltInt_dec], fun i h3 h4 => by omega⟩
/-- reading a row's number -/
theorem row_int {β : Type} (hr : Rows h v5 ss d) {y : Int} (h0 : 0 ≤ y) (h1 : y < d.length) (K : SL → Option β) : (ixK v5.a v5.len y 1 fun q => bindV (.val (.one .slice)) (h.cell q) K) = K (ss.getD y.toNat nilS) := hr.top.sl h0 (by rw [hr.len]; omega) K
theorem l2_spec (hr : Rows h v5 ss d) (hf : Fine d) (hl9 : Ints h v9 l) (hll : l.length ≤ 64) (hN : 1000001 ≤ N) {n : Int} (hn0 : 0 ≤ n) (hn1 : n < d.length) (hall : ∀ x ∈ d.getD n.toNat [], x ∈ l) (v4 : Bool) : ∀ (M k : Nat), k ≤ (d.getD n.toNat []).length → (d.getD n.toNat []).length - k < M →
    f3_l2 N M v4 v5 n v9 (k : Int) h = some (.exit 2, (v4, v5, n, v9, ()), h) := by
  intro M
  induction M with
  | zero => intro k h1 h2; omega
  | succ M ih =>
    intro k h1 h2
    rw [f3_l2_succ]
    unfold f3_l2_b
    have hnl : n.toNat < d.length := by omega
    have hrow := hr.row n.toNat hnl
    have hrl := hf.row n.toNat hnl
    rw [row_int hr hn0 hn1]
    simp only [Ints.len hrow]
    by_cases hk : k < (d.getD n.toNat []).length
    · have ew : wrapA .i64 ((k : Int) + 1) = ((k + 1 : Nat) : Int) := wrapA_small (by omega) (by omega)
      have hg := getD_lt (d.getD n.toNat []) 0 hk
      simp only [ltInt_dec, Int.ofNat_eq_natCast, Int.ofNat_lt, hk, decide_true, cond_true]
      rw [row_int hr hn0 hn1]
      rw [hrow.int (x := (k : Int)) (by omega) (by omega)]
      have hm := hall _ (List.getElem_mem hk)
      simp only [Int.toNat_natCast, hg, has_spec hl9 hN (by omega), bind2_some, hm, decide_true, Bool.not_true, cond_false, ew]
      exact ih (k + 1) (by omega) (by omega)
    · have : k = (d.getD n.toNat []).length := by omega
      subst this
      simp [ltInt_dec]
theorem l5_spec (hr : Rows h v5 ss d) (hf : Fine d) (hl9 : Ints h v9 l) (hll : l.length ≤ 64) (hN : 1000001 ≤ N) (hin : ∀ x ∈ l, 0 ≤ x ∧ x < d.length) {j : Nat} (hj : j < l.length) (hall : ∀ x ∈ d.getD l[j].toNat [], x ∈ l) (v4 : Bool) (v8 v11 : Int) (v12 : Bool) : ∀ (M k : Nat), k ≤ (d.getD l[j].toNat []).length → (d.getD l[j].toNat []).length - k < M →
    f3_l5 N M v4 v5 v8 v9 v11 v12 (j : Int) (k : Int) h = some (.exit 8, (v4, v5, v8, v9, v11, v12, (j : Int), ()), h) := by
  intro M
  induction M with
  | zero => intro k h1 h2; omega
  | succ M ih =>
    intro k h1 h2
    rw [f3_l5_succ]
    unfold f3_l5_b
    have hy := hin _ (List.getElem_mem hj)
    have hnl : l[j].toNat < d.length := by omega
    have hrow := hr.row l[j].toNat hnl
    have hrl := hf.row l[j].toNat hnl
    have hgj := getD_lt l 0 hj
    rw [hl9.int (x := (j : Int)) (by omega) (by omega)]
    simp only [Int.toNat_natCast, hgj]
    rw [row_int hr hy.1 hy.2]
    simp only [Ints.len hrow]
    by_cases hk : k < (d.getD l[j].toNat []).length
    · have ew : wrapA .i64 ((k : Int) + 1) = ((k + 1 : Nat) : Int) := wrapA_small (by omega) (by omega)
      have hg := getD_lt (d.getD l[j].toNat []) 0 hk
      simp only [ltInt_dec, Int.ofNat_eq_natCast, Int.ofNat_lt, hk, decide_true, cond_true]
      rw [hl9.int (x := (j : Int)) (by omega) (by omega)]
      simp only [Int.toNat_natCast, hgj]
      rw [row_int hr hy.1 hy.2, hrow.int (x := (k : Int)) (by omega) (by omega)]
      have hm := hall _ (List.getElem_mem hk)
      simp only [Int.toNat_natCast, hg, has_spec hl9 hN (by omega), bind2_some, hm, decide_true, Bool.not_true, cond_false, ew]
      exact ih (k + 1) (by omega) (by omega)
    · have : k = (d.getD l[j].toNat []).length := by omega
      subst this
      simp [ltInt_dec]
theorem l4_spec (hr : Rows h v5 ss d) (hf : Fine d) (hl9 : Ints h v9 l) (hll : l.length ≤ 64) (hN : 1000001 ≤ N) (hin : ∀ x ∈ l, 0 ≤ x ∧ x < d.length) {k : Nat} (hk : k < l.length) (hall : ∀ y ∈ l, ∀ x ∈ d.getD y.toNat [], x ∈ l) (v4 : Bool) (v8 : Int) : ∀ (M j : Nat) (v12 : Bool), j ≤ l.length → l.length - j < M →
    ∃ b : Bool, f3_l4 N M v4 v5 v8 v9 (k : Int) v12 (j : Int) h = some (.exit 6, (v4, v5, v8, v9, (k : Int), b, ()), h) ∧ (v12 = true → b = true) ∧ ((∃ i, ∃ hi : i < l.length, j ≤ i ∧ i ≠ k ∧ l[k] ∈ d.getD l[i].toNat []) → b = true) := by
  intro M
  induction M with
  | zero => intro j v12 h1 h2; omega
  | succ M ih =>
    intro j v12 h1 h2
    rw [f3_l4_succ]
    unfold f3_l4_b
    simp only [Ints.len hl9]
    by_cases hj : j < l.length
    · have ew : wrapA .i64 ((j : Int) + 1) = ((j + 1 : Nat) : Int) := wrapA_small (by omega) (by omega)
      have hy := hin _ (List.getElem_mem hj)
      have hnl : l[j].toNat < d.length := by omega
      have hrow := hr.row l[j].toNat hnl
      have hrl := hf.row l[j].toNat hnl
      have hgj := getD_lt l 0 hj
      have hgk := getD_lt l 0 hk
      have h5 : ∀ b, f3_l5 N N v4 v5 v8 v9 (k : Int) b (j : Int) 0 h = some (.exit 8, (v4, v5, v8, v9, (k : Int), b, (j : Int), ()), h) := fun b => by
        have := l5_spec (N := N) hr hf hl9 hll hN hin hj (hall _ (List.getElem_mem hj)) v4 v8 (k : Int) b N 0 (by omega) (by omega)
        simpa using this
      simp only [ltInt_dec, Int.ofNat_eq_natCast, Int.ofNat_lt, hj, decide_true, cond_true]
      cases v12 with
      | true =>
        simp only [cond_true, bind2_some, h5, bind3_some, eqOut_exit, decide_true, ew]
        obtain ⟨b, e, g1, g2⟩ := ih (j + 1) true (by omega) (by omega)
        exact ⟨b, e, fun _ => g1 rfl, fun _ => g1 rfl⟩
      | false =>
        simp only [cond_false, eqInt_dec]
        by_cases hjk : j = k
        · subst hjk
          simp only [decide_true, Bool.not_true, cond_false, bind2_some, h5, bind3_some, eqOut_exit, decide_true, cond_true, ew]
          obtain ⟨b, e, g1, g2⟩ := ih (j + 1) false (by omega) (by omega)
          refine ⟨b, e, by simp, ?_⟩
          rintro ⟨i, hi, h6, h7, h8⟩
          exact g2 ⟨i, hi, by omega, h7, h8⟩
        · have hjk' : ¬ ((j : Int) = (k : Int)) := by omega
          simp only [hjk', decide_false, Bool.not_false, cond_true]
          rw [show (ixK v9.a l.length (j : Int) 1) = ixK v9.a v9.len (j : Int) 1 by rw [Ints.len hl9]]
          rw [hl9.int (x := (j : Int)) (by omega) (by omega)]
          simp only [Int.toNat_natCast, hgj]
          rw [row_int hr hy.1 hy.2]
          rw [show (ixK v9.a l.length (k : Int) 1) = ixK v9.a v9.len (k : Int) 1 by rw [Ints.len hl9]]
          rw [hl9.int (x := (k : Int)) (by omega) (by omega)]
          simp only [Int.toNat_natCast, hgk, has_spec hrow hN (by omega), bind2_some, h5, bind3_some, eqOut_exit, decide_true, cond_true, ew]
          obtain ⟨b, e, g1, g2⟩ := ih (j + 1) (decide (l[k] ∈ d.getD l[j].toNat [])) (by omega) (by omega)
          refine ⟨b, e, by simp, ?_⟩
          rintro ⟨i, hi, h6, h7, h8⟩
          by_cases hij : i = j
          · subst hij; exact g1 (by simpa using h8)
          · exact g2 ⟨i, hi, by omega, h7, h8⟩
    · have : j = l.length := by omega
      subst this
      refine ⟨v12, by simp [ltInt_dec], id, ?_⟩
      rintro ⟨i, hi, h6, _⟩
      omega
theorem l6_l4 (M : Nat) : f3_l6 N M = f3_l4 N M := rfl
end Go.Proofs.Ythpplekbeecdfaa.Gb

open Go Go.Proofs.Ythpplekbeecdfaa.Ai Go.Proofs
namespace Go.Proofs.Ythpplekbeecdfaa.Gb
variable {N : Nat} {s v5 v9 : SL} {ss : List SL} {d : List (List Int)} {l : List Int} {h : Heap}
theorem l3_spec (hr : Rows h v5 ss d) (hf : Fine d) (hl9 : Ints h v9 l) (hll : l.length ≤ 64) (hN : 1000001 ≤ N) (hin : ∀ x ∈ l, 0 ≤ x ∧ x < d.length) (hsort : l.Pairwise (· < ·)) (hall : ∀ y ∈ l, ∀ x ∈ d.getD y.toNat [], x ∈ l)
    {n : Int} (hn0 : 0 ≤ n) (hn1 : n < d.length) (hfrom : ∀ k, ∀ hk : k < l.length, l[k] ∈ d.getD n.toNat [] ∨ ∃ i, ∃ hi : i < l.length, i ≠ k ∧ l[k] ∈ d.getD l[i].toNat []) (v4 : Bool) : ∀ (M k : Nat), k ≤ l.length → l.length - k < M →
    f3_l3 N M v4 v5 n v9 (k : Int) h = some (.exit 4, (v4, ()), h) := by
  intro M
  induction M with
  | zero => intro k h1 h2; omega
  | succ M ih =>
    intro k h1 h2
    rw [f3_l3_succ]
    unfold f3_l3_b
    by_cases hk : k < l.length
    · have ew : wrapA .i64 ((k : Int) + 1) = ((k + 1 : Nat) : Int) := wrapA_small (by omega) (by omega)
      have hy := hin _ (List.getElem_mem hk)
      have hnl : n.toNat < d.length := by omega
      have hrow := hr.row n.toNat hnl
      have hrl := hf.row n.toNat hnl
      have hgk := getD_lt l 0 hk
      obtain ⟨b, e4, g1, g2⟩ := l4_spec (N := N) hr hf hl9 hll hN hin hk hall v4 n N 0 (decide (l[k] ∈ d.getD n.toNat [])) (by omega) (by omega)
      have hb : b = true := by
        rcases hfrom k hk with h3 | ⟨i, hi, h3, h4⟩
        · exact g1 (by simpa using h3)
        · exact g2 ⟨i, hi, by omega, h3, h4⟩
      subst hb
      simp only [Int.ofNat_zero] at e4
      have e6 : f3_l6 N N v4 v5 n v9 (k : Int) (decide (l[k] ∈ d.getD n.toNat [])) 0 h = some (.exit 6, (v4, v5, n, v9, (k : Int), true, ()), h) := e4
      have rx : ∀ (i : Nat) (hi : i < l.length) (K : Int → Option (Out × (Bool × Unit) × Heap)), (ixK v9.a l.length (i : Int) 1 fun q => bindV (.val (.one (.int .i64))) (h.cell q) K) = K l[i] := fun i hi K => by
        have := hl9.int (x := (i : Int)) (by omega) (by omega) K
        rw [Ints.len hl9] at this
        rw [this]; simp only [Int.toNat_natCast, getD_lt l 0 hi]
      have rn : ∀ (K : SL → Option (Out × (Bool × Unit) × Heap)), (ixK v5.a d.length n 1 fun q => bindV (.val (.one .slice)) (h.cell q) K) = K (ss.getD n.toNat nilS) := fun K => by
        have := row_int hr hn0 hn1 K
        rw [hr.slen] at this; exact this
      have rk := rx k hk
      simp only [Ints.len hl9, hr.slen, ltInt_dec, leInt_dec, Int.ofNat_eq_natCast, Int.ofNat_lt, hk, decide_true, cond_true, rk, show ¬ l[k] < 0 by omega, show ¬ (d.length : Int) ≤ l[k] by omega, decide_false, cond_false]
      by_cases hk0 : 0 < k
      · have ew1 : wrapA .i64 ((k : Int) - 1) = ((k - 1 : Nat) : Int) := by rw [wrapA_small (by omega) (by omega)]; omega
        have hs : l[k - 1] < l[k] := List.pairwise_iff_getElem.1 hsort (k - 1) k (by omega) hk (by omega)
        have rk1 := rx (k - 1) (by omega)
        simp only [show (0 : Int) < (k : Int) by omega, decide_true, cond_true, ew1, rk1, show ¬ l[k] ≤ l[k - 1] by omega, decide_false, cond_false, rn, has_spec hrow hN (by omega), bind2_some, e4, bind3_some, eqOut_exit, Bool.not_true, ew]
        exact ih (k + 1) (by omega) (by omega)
      · simp only [show ¬ (0 : Int) < (k : Int) by omega, decide_false, cond_false, rn, has_spec hrow hN (by omega), bind2_some, e6, bind3_some, eqOut_exit, decide_true, cond_true, Bool.not_true, ew]
        exact ih (k + 1) (by omega) (by omega)
    · have : k = l.length := by omega
      subst this
      simp [ltInt_dec, Ints.len hl9]

theorem Reach.inr {i x : Int} (hf : Fine d) (hx : Reach d i x) : 0 ≤ x ∧ x < d.length := by
  have key : ∀ y : Int, ∀ x ∈ d.getD y.toNat [], 0 ≤ x ∧ x < d.length := by
    intro y x hx
    rcases Nat.lt_or_ge y.toNat d.length with h | h
    · exact hf.inr _ h x hx
    · rw [List.getD_eq_getElem?_getD, List.getElem?_eq_none h] at hx; simp at hx
  cases hx with
  | one h => exact key _ _ h
  | step _ h => exact key _ _ h
theorem Reach.other {i x : Int} (hx : Reach d i x) : x ∈ d.getD i.toNat [] ∨ ∃ y, Reach d i y ∧ y ≠ x ∧ x ∈ d.getD y.toNat [] := by
  induction hx with
  | one h => exact .inl h
  | @step y k h1 h2 ih =>
    by_cases he : y = k
    · subst he; exact ih
    · exact .inr ⟨y, h1, he, h2⟩
theorem conv_rem {m : Nat} (hm : 0 < m) (h1 : m < 1000) (x : Int) : binInt .rem .u64 (wrapA .u64 x) (wrapA .u64 (m : Int)) = some (.int .u64 (conv m x)) ∧ wrapA .i64 (conv m x) = conv m x := by
  rw [wrap_small m h1]; exact rem_conv hm h1 x
theorem below_law (hr : RowsB h.next h s ss d) (i : Int) : ∃ h', f3 2000000 s i h = some (true, h') := by
  rcases fit_spec (N := 2000000) hr (by omega) with ⟨s', h1, ss', e1, k1, r1, hl⟩ | ⟨s', h1, e1⟩
  · have hlen : (fitL d (mOf d)).length = mOf d := fitL_len (by unfold mOf; omega)
    generalize hdd : fitL d (mOf d) = dd at *
    have hsl : s'.len = dd.length := r1.r.slen
    by_cases h0 : dd.length = 0
    · refine ⟨h1, ?_⟩
      simp [f3, e1, hsl, h0, eqInt_dec, f11]
    · by_cases h64 : dd.length ≤ 64
      · rcases l1_spec (N := 2000000) r1.r h64 i false 2000000 0 (by omega) (by omega) with ⟨e2, hrows⟩ | e2
        · have hf : Fine dd := by
            refine ⟨h64, fun i hi => hrows i (by omega) hi, fun i hi x hx => ?_⟩
            rw [← hdd] at hx
            unfold fitL at hx
            rw [getD_lt _ _ (by rw [List.length_map, List.length_take]; have : mOf d ≤ d.length := by (unfold mOf; omega)
                                omega)] at hx
            simp only [List.getElem_map, List.mem_map] at hx
            obtain ⟨y, _, rfl⟩ := hx
            rw [hlen]
            exact conv_in (by omega) y
          obtain ⟨c1, c2⟩ := conv_rem (m := dd.length) (by omega) (by omega) i
          have hc := conv_in (m := dd.length) (by omega) i
          obtain ⟨s2, h2, l, e3, k2, o2, hll, hsort, hmem⟩ := Below_spec (N := 2000000) r1 hf (by omega) hc.1 hc.2
          have r2 := r1.keep k2
          have hl9 : Ints h2 s2 l := o2.one
          have hin : ∀ x ∈ l, 0 ≤ x ∧ x < dd.length := fun x hx => ⟨((hmem x).1 hx).1, ((hmem x).1 hx).2.1⟩
          have hall1 : ∀ x ∈ dd.getD (conv dd.length i).toNat [], x ∈ l := fun x hx => by
            have hr := Reach.one (ll := dd) (i := conv dd.length i) hx
            exact (hmem x).2 ⟨(hr.inr hf).1, (hr.inr hf).2, hr⟩
          have hall : ∀ y ∈ l, ∀ x ∈ dd.getD y.toNat [], x ∈ l := fun y hy x hx => by
            have hr := Reach.step ((hmem y).1 hy).2.2 hx
            exact (hmem x).2 ⟨(hr.inr hf).1, (hr.inr hf).2, hr⟩
          have hfrom : ∀ k, ∀ hk : k < l.length, l[k] ∈ dd.getD (conv dd.length i).toNat [] ∨ ∃ i, ∃ hi : i < l.length, i ≠ k ∧ l[k] ∈ dd.getD l[i].toNat [] := by
            intro k hk
            rcases Reach.other ((hmem l[k]).1 (List.getElem_mem hk)).2.2 with h3 | ⟨y, h3, h4, h5⟩
            · exact .inl h3
            · have hy : y ∈ l := (hmem y).2 ⟨(h3.inr hf).1, (h3.inr hf).2, h3⟩
              obtain ⟨j, hj, rfl⟩ := List.mem_iff_getElem.1 hy
              exact .inr ⟨j, hj, fun e => h4 (by subst e; rfl), h5⟩
          have e4 := l2_spec (N := 2000000) r2.r hf hl9 hll (by omega) hc.1 hc.2 hall1 false 2000000 0 (by omega) (by have := hf.row (conv dd.length i).toNat (by omega); omega)
          have e5 := l3_spec (N := 2000000) r2.r hf hl9 hll (by omega) hin hsort hall hc.1 hc.2 hfrom false 2000000 0 (by omega) (by omega)
          simp only [Int.ofNat_zero] at e2 e4 e5
          refine ⟨h2, ?_⟩
          have hne : ¬ ((dd.length : Int) = 0) := by omega
          have hn64 : ¬ ((64 : Int) < (dd.length : Int)) := by omega
          simp [f3, e1, hsl, hne, hn64, eqInt_dec, ltInt_dec, f11, e2, c1, c2, e3, e4, e5, h0]
        · simp only [Int.ofNat_zero] at e2
          refine ⟨h1, ?_⟩
          have hne : ¬ ((dd.length : Int) = 0) := by omega
          have hn64 : ¬ ((64 : Int) < (dd.length : Int)) := by omega
          simp [f3, e1, hsl, hne, hn64, eqInt_dec, ltInt_dec, f11, e2, h0]
      · refine ⟨h1, ?_⟩
        have hne : ¬ ((dd.length : Int) = 0) := by omega
        have hn64 : (64 : Int) < (dd.length : Int) := by omega
        simp [f3, e1, hsl, hne, hn64, eqInt_dec, ltInt_dec, f11, h0]
  · refine ⟨h1, ?_⟩
    simp [f3, e1, f11]

/-! the arguments -/
theorem undP3 : Try.prog.underlying 3 = some (.int .i64) := by kernel_rfl
theorem undP26 : Try.prog.underlying 26 = some (.slice 3) := by kernel_rfl
theorem undP22 : Try.prog.underlying 22 = some (.slice 26) := by kernel_rfl
theorem rows_of {H : Type} {h : Heap} {vs : List AV} {dd : DataW H} (hx : Rd Try.prog h 22 vs dd) : ∃ (s : SL) (ss : List SL) (d : List (List Int)), vs = [.slice s.a s.len s.cap s.sz] ∧ RowsB h.next h s ss d := by
  have hc3 : Try.prog.cellsOf 3 = 1 := by kernel_rfl
  have hc26 : Try.prog.cellsOf 26 = 1 := by kernel_rfl
  obtain ⟨s, ass, rfl, h1, h2, h3, h4, h5⟩ := Rd.sees undP22 (fun a d hd => by
    obtain ⟨s, l, rfl, _⟩ := Rd.ints undP26 undP3 hc3 hd
    exact hc26.symm) hx
  obtain ⟨bs, h6, h7⟩ := flat_of (fun x : { p : SL × List Int // Ints h p.1 p.2 } => SL.av x.1.1) ass fun i a ha => by
    obtain ⟨d, hd⟩ := h5 i a ha
    obtain ⟨s1, l1, rfl, k1, k2, k3, k4, _⟩ := Rd.ints undP26 undP3 hc3 hd
    exact ⟨⟨(s1, l1), by simp [k3], k1, k4⟩, rfl⟩
  refine ⟨s, bs.map (·.1.1), bs.map (·.1.2), rfl, ⟨⟨⟨by simp; omega, by rw [← hc26]; exact h3, by rw [List.map_map]; exact h6 ▸ h4⟩, by simp, fun i hi => ?_⟩, h4.under, fun i hi => ?_⟩⟩
  · have hi' : i < bs.length := by simpa using hi
    rw [getD_lt _ _ (by simpa using hi), getD_lt _ _ hi]
    simp only [List.getElem_map]
    exact bs[i].2
  · have hi' : i < bs.length := by simpa using hi
    rw [getD_lt _ _ (by simpa using hi)]
    simp only [List.getElem_map]
    exact bs[i].2.2.2.under
theorem below_true {H : Type} (h : Heap) (vs : List AV) (ds : List (DataW H)) (hr : RdArgs Try.prog h [22, 3] vs ds) : ∃ xs : vdens [.one .slice, .one (.int .i64)], ∃ h', VTy.tos _ xs = vs ∧ (fun (x : vdens [.one .slice, .one (.int .i64)]) h => f3 2000000 x.1 x.2.1 h) xs h = some (true, h') := by
  obtain ⟨c0, d0, _, _, rfl, rfl, r0, hr⟩ := hr.cons_inv
  obtain ⟨c1, d1, _, _, rfl, rfl, r1, hr⟩ := hr.cons_inv
  obtain ⟨rfl, rfl⟩ := hr.nil_inv
  obtain ⟨s, ss, d, rfl, hrow⟩ := rows_of r0
  obtain ⟨n1, rfl, _⟩ := Rd.int_inv undP3 r1
  obtain ⟨h', e⟩ := below_law hrow n1
  refine ⟨(s, n1, ()), h', ?_, e⟩
  simp [VTy.tos, VTy.to, CTy.to, argOf, undP3, undP22]
end Go.Proofs.Ythpplekbeecdfaa.Gb

open Go Go.Proofs.Ythpplekbeecdfaa.Ai Go.Proofs
namespace Go.Proofs.Ythpplekbeecdfaa.Gb
/-! plain: orders -/
variable {ll : List (List Int)}
theorem countP_le {α : Type} {p q : α → Bool} : ∀ {l : List α}, (∀ x ∈ l, p x = true → q x = true) → l.countP p ≤ l.countP q
  | [], _ => Nat.le_refl _
  | x :: r, h => by
    have ih := countP_le (l := r) fun y hy => h y (by simp [hy])
    rw [List.countP_cons, List.countP_cons]
    have := h x (by simp)
    cases hp : p x <;> cases hq : q x <;> simp_all <;> omega
theorem countP_lt {α : Type} {p q : α → Bool} : ∀ {l : List α}, (∀ x ∈ l, p x = true → q x = true) → (∃ x ∈ l, q x = true ∧ p x = false) → l.countP p < l.countP q
  | [], _, h => by obtain ⟨x, hx, _⟩ := h; simp at hx
  | x :: r, h, he => by
    have hle := countP_le (l := r) fun y hy => h y (by simp [hy])
    rw [List.countP_cons, List.countP_cons]
    have hx := h x (by simp)
    obtain ⟨y, hy, h1, h2⟩ := he
    rcases List.mem_cons.1 hy with rfl | hy
    · simp [h1, h2]; omega
    · have := countP_lt (l := r) (fun y hy => h y (by simp [hy])) ⟨y, hy, h1, h2⟩
      cases hp : p x <;> cases hq : q x <;> simp_all <;> omega
theorem Reach.trans {i j k : Int} (h1 : Reach ll i j) (h2 : Reach ll j k) : Reach ll i k := by
  induction h2 with
  | one h => exact .step h1 h
  | step _ h ih => exact .step ih h
open Classical in
/-- how many things a thing needs -/
noncomputable def need' (ll : List (List Int)) (i : Int) : Nat := (List.range ll.length).countP fun (k : Nat) => decide (Reach ll i (k : Int))
def Acyclic (ll : List (List Int)) : Prop := ∀ i : Int, ¬ Reach ll i i
theorem need_lt (hf : Fine ll) (ha : Acyclic ll) {i k : Int} (hk : k ∈ ll.getD i.toNat []) : need' ll k < need' ll i := by
  have hr : Reach ll i k := .one hk
  have hin := hr.inr hf
  refine countP_lt (fun x _ hx => ?_) ⟨k.toNat, by simp; omega, ?_, ?_⟩
  · simp only [decide_eq_true_eq] at hx ⊢; exact hr.trans hx
  · rw [show ((k.toNat : Nat) : Int) = k by omega]; simpa using hr
  · rw [show ((k.toNat : Nat) : Int) = k by omega]; simpa using ha k
/-- is a thing ready? -/
def ready (ll : List (List Int)) (dn : List Bool) (i : Nat) : Bool := !dn.getD i false && (ll.getD i []).all fun k => dn.getD k.toNat false
theorem ready_exists (hf : Fine ll) (ha : Acyclic ll) (dn : List Bool) : ∀ (m i : Nat), need' ll (i : Int) ≤ m → i < ll.length → dn.getD i false = false → ∃ j, j < ll.length ∧ ready ll dn j = true := by
  intro m
  induction m with
  | zero =>
    intro i hm hi hd
    refine ⟨i, hi, ?_⟩
    simp only [ready, hd, Bool.not_false, Bool.true_and, List.all_eq_true]
    intro k hk
    have := need_lt hf ha (i := (i : Int)) (k := k) (by simpa using hk)
    omega
  | succ m ih =>
    intro i hm hi hd
    by_cases h : (ll.getD i []).all (fun k => dn.getD k.toNat false) = true
    · exact ⟨i, hi, by simp only [ready, hd, Bool.not_false, Bool.true_and, h]⟩
    · simp only [List.all_eq_true] at h
      have ⟨k, hk⟩ := Classical.not_forall.1 h
      have ⟨hk1, hk2⟩ := Classical.not_imp.1 hk
      have hin := hf.inr i hi k hk1
      have := need_lt hf ha (i := (i : Int)) (k := k) (by simpa using hk1)
      refine ih k.toNat (by rw [show ((k.toNat : Nat) : Int) = k by omega]; omega) (by omega) (by simpa using hk2)
/-- the least that is ready, from 'i' on -/
def pick (ll : List (List Int)) (dn : List Bool) : Nat → Nat → Option Nat
  | 0, _ => none
  | m + 1, i => if ready ll dn i then some i else pick ll dn m (i + 1)
theorem pick_some (dn : List Bool) : ∀ (m i j : Nat), pick ll dn m i = some j → i ≤ j ∧ j < i + m ∧ ready ll dn j = true
  | 0, i, j, h => by cases h
  | m + 1, i, j, h => by
    simp only [pick] at h
    split at h
    · simp at h; subst h; exact ⟨Nat.le_refl _, by omega, by assumption⟩
    · have := pick_some dn m (i + 1) j h; exact ⟨by omega, by omega, this.2.2⟩
theorem pick_ex (dn : List Bool) : ∀ (m i j : Nat), i ≤ j → j < i + m → ready ll dn j = true → ∃ j', pick ll dn m i = some j'
  | 0, i, j, h1, h2, _ => by omega
  | m + 1, i, j, h1, h2, h3 => by
    simp only [pick]
    split
    · exact ⟨i, rfl⟩
    · rename_i hn
      have : i ≠ j := fun e => hn (e ▸ h3)
      exact pick_ex dn m (i + 1) j (by omega) (by omega) h3
/-- a list in which each thing stands behind what it needs -/
structure Topo (ll : List (List Int)) (dn : List Bool) (out : List Int) : Prop where
  len : dn.length = ll.length
  cnt : dn.count true = out.length
  mem : ∀ x, x ∈ out ↔ 0 ≤ x ∧ x < ll.length ∧ dn.getD x.toNat false = true
  nod : ∀ i, ∀ hi : i < out.length, out[i] ∉ out.take i
  dep : ∀ i, ∀ hi : i < out.length, ∀ k ∈ ll.getD (out[i]).toNat [], k ∈ out.take i
theorem Topo.start : Topo ll (List.replicate ll.length false) [] := by
  have hno : ∀ k, (List.replicate ll.length false).getD k false = false := by
    intro k
    simp [List.getD_eq_getElem?_getD, List.getElem?_replicate]
    split <;> rfl
  refine ⟨by simp, by rw [count_rep]; rfl, fun x => ?_, fun i hi => by simp at hi, fun i hi => by simp at hi⟩
  rw [hno]; simp
theorem Topo.next (hf : Fine ll) {dn : List Bool} {out : List Int} (ht : Topo ll dn out) {j : Nat} (hj : j < ll.length) (hr : ready ll dn j = true) : Topo ll (dn.set j true) (out ++ [(j : Int)]) := by
  simp only [ready, Bool.and_eq_true, Bool.not_eq_true', List.all_eq_true] at hr
  have hjd : j < dn.length := by rw [ht.len]; exact hj
  refine ⟨by simp [ht.len], by rw [count_set_b _ _ hjd hr.1, ht.cnt]; simp, fun x => ?_, fun i hi => ?_, fun i hi k hk => ?_⟩
  · rw [List.mem_append, ht.mem, getD_set_b _ _ _ hjd]
    simp only [List.mem_singleton]
    constructor
    · rintro (⟨h1, h2, h3⟩ | rfl)
      · exact ⟨h1, h2, .inl h3⟩
      · exact ⟨by omega, by omega, .inr (by simp)⟩
    · rintro ⟨h1, h2, h3 | h3⟩
      · exact .inl ⟨h1, h2, h3⟩
      · right; omega
  · by_cases hi' : i < out.length
    · rw [List.getElem_append_left hi', List.take_append_of_le_length (by omega)]
      exact ht.nod i hi'
    · have : i = out.length := by simp at hi; omega
      subst this
      rw [List.getElem_append_right (Nat.le_refl _), List.take_left' rfl]
      simp only [Nat.sub_self, List.getElem_cons_zero]
      intro hm
      have := ((ht.mem _).1 hm).2.2
      simp only [Int.toNat_natCast] at this
      rw [hr.1] at this; cases this
  · by_cases hi' : i < out.length
    · rw [List.getElem_append_left hi'] at hk
      rw [List.take_append_of_le_length (by omega)]
      exact ht.dep i hi' k hk
    · have : i = out.length := by simp at hi; omega
      subst this
      rw [List.getElem_append_right (Nat.le_refl _)] at hk
      rw [List.take_left' rfl]
      simp only [Nat.sub_self, List.getElem_cons_zero, Int.toNat_natCast] at hk
      have hin := hf.inr j hj k hk
      exact (ht.mem k).2 ⟨hin.1, hin.2, hr.2 k hk⟩
/-- as long as something is left, something is ready -/
theorem Topo.more (hf : Fine ll) (ha : Acyclic ll) {dn : List Bool} {out : List Int} (ht : Topo ll dn out) (hlt : out.length < ll.length) : ∃ j, pick ll dn ll.length 0 = some j ∧ j < ll.length ∧ ready ll dn j = true := by
  have : ∃ i, i < ll.length ∧ dn.getD i false = false := by
    apply Classical.byContradiction
    intro hno
    have hall : ∀ b ∈ dn, true = b := by
      intro b hb
      obtain ⟨i, hi, rfl⟩ := List.mem_iff_getElem.1 hb
      have h1 : ¬ dn.getD i false = false := fun e => hno ⟨i, by rw [← ht.len]; exact hi, e⟩
      rw [getD_lt _ _ hi] at h1
      simpa using h1
    have := List.count_eq_length.2 hall
    rw [ht.cnt, ht.len] at this
    omega
  obtain ⟨i, hi, hd⟩ := this
  obtain ⟨j, hj, hr⟩ := ready_exists hf ha dn _ i (Nat.le_refl _) hi hd
  obtain ⟨j', hj'⟩ := pick_ex dn ll.length 0 j (Nat.zero_le _) (by omega) hr
  have := pick_some dn ll.length 0 j' hj'
  exact ⟨j', hj', by omega, this.2.2⟩
end Go.Proofs.Ythpplekbeecdfaa.Gb

open Go Go.Proofs.Ythpplekbeecdfaa.Ai Go.Proofs
namespace Go.Proofs.Ythpplekbeecdfaa.Gb
variable {N : Nat} {s : SL} {l : List Int} {ss : List SL} {ll : List (List Int)} {B : Nat} {h0 : Heap}
theorem RowsB.mono {C : Nat} {h : Heap} (hl : B ≤ C) (hr : RowsB B h s ss ll) : RowsB C h s ss ll :=
  ⟨hr.r, fun A off ha => Nat.lt_of_lt_of_le (hr.u A off ha) hl, fun i hi A off ha => Nat.lt_of_lt_of_le (hr.ru i hi A off ha) hl⟩
theorem nat_i {n i : Nat} : ltInt (i : Int) (n : Int) = decide (i < n) := by rw [ltInt_dec]; simp
theorem ringed_loop (hf : Fine ll) (hN : 1000 ≤ N) : ∀ (M i : Nat) (h : Heap), i ≤ ll.length → ll.length - i < M → RowsB B h s ss ll → B ≤ h.next → (∀ j : Nat, j < i → ¬ Reach ll (j : Int) (j : Int)) →
    (∃ h', f43_l1 N M s 0 (ll.length : Int) (i : Int) h = some (.exit 0, (0, ()), h') ∧ Keep B h h' ∧ ∀ j : Nat, j < ll.length → ¬ Reach ll (j : Int) (j : Int)) ∨
    (∃ (h' : Heap) (j : Nat), f43_l1 N M s 0 (ll.length : Int) (i : Int) h = some (.ret, ((j : Int), ()), h') ∧ Keep B h h' ∧ j < ll.length ∧ Reach ll (j : Int) (j : Int) ∧ ∀ k : Nat, k < j → ¬ Reach ll (k : Int) (k : Int)) := by
  intro M
  induction M with
  | zero => intro i h h1 h2; omega
  | succ M ih =>
    intro i h h1 h2 hr hb hno
    rw [f43_l1_succ]
    unfold f43_l1_b
    have hlen := hf.len
    by_cases hi : i < ll.length
    · have ew : wrapA .i64 ((i : Int) + 1) = ((i + 1 : Nat) : Int) := wrapA_small (by omega) (by omega)
      obtain ⟨s', h', seen, e1, k1, o1, hl, hs⟩ := below_spec (N := N) (hr.mono hb) hf hN (i := (i : Int)) (by omega) (by omega)
      have hg := getD_lt seen false (n := i) (by omega)
      have hb1 := o1.one.bool (β := Out × (Int × Unit) × Heap) (x := (i : Int)) (by omega) (by omega)
      simp only [nat_i, hi, decide_true, cond_true, e1, bind2_some]
      rw [hb1]
      simp only [Int.toNat_natCast]
      cases hsn : seen.getD i false with
      | true =>
        refine .inr ⟨h', i, rfl, k1.mono hb, hi, (hs i hi).1 hsn, hno⟩
      | false =>
        simp only [cond_false, ew]
        have hni : ¬ Reach ll (i : Int) (i : Int) := fun e => by rw [(hs i hi).2 e] at hsn; cases hsn
        rcases ih (i + 1) h' (by omega) (by omega) (hr.keep (k1.mono hb)) (by have := k1.next; omega) (fun j hj => by
          by_cases hji : j = i
          · subst hji; exact hni
          · exact hno j (by omega)) with ⟨h2, e, k, hx⟩ | ⟨h2, j, e, k, hx⟩
        · exact .inl ⟨h2, e, (k1.mono hb).trans k, hx⟩
        · exact .inr ⟨h2, j, e, (k1.mono hb).trans k, hx⟩
    · have : i = ll.length := by omega
      subst this
      exact .inl ⟨h, by simp [nat_i], Keep.refl _ _, hno⟩
theorem acyclic_of (hf : Fine ll) (h : ∀ j : Nat, j < ll.length → ¬ Reach ll (j : Int) (j : Int)) : Acyclic ll := by
  intro i hi
  have hin := hi.inr hf
  apply h i.toNat (by omega)
  rw [show ((i.toNat : Nat) : Int) = i by omega]; exact hi
/-- an error of the program's -/
def isErr (h : Heap) (v : AV) (code at' : Int) : Prop := ∃ A, v = .iface 69 (.ptr (some (A, 0))) ∧ A < h.next ∧ h.g A = some (.row [.int .i64 code, .int .i64 at', .iface 71 (.int .i64 code)] .own)
theorem isErr.keep {h h' : Heap} (hk : Keep h.next h h') {v : AV} {c a : Int} (hx : isErr h v c a) : isErr h' v c a := by
  obtain ⟨A, h1, h2, h3⟩ := hx
  exact ⟨A, h1, Nat.lt_of_lt_of_le h2 hk.next, by rw [hk.g A h2]; exact h3⟩
theorem nn7 : binA E .neq 32 (.tmp 7) (.const .nilIface) AV.nilIface AV.nilIface = some (.bool false) := by kernel_rfl
/-- which error an order has: none, where there is no ring -/
theorem check_spec {h : Heap} (hf : Fine ll) (hN : 1000 ≤ N) (hr : RowsB B h s ss ll) (hb : B ≤ h.next) :
    (∃ h', f40 N s h = some (.nilIface, h') ∧ Keep B h h' ∧ Acyclic ll) ∨
    (∃ (h' : Heap) (v : AV) (j : Nat), f40 N s h = some (v, h') ∧ Keep B h h' ∧ isErr h' v 42 j ∧ j < ll.length ∧ Reach ll (j : Int) (j : Int) ∧ ∀ k : Nat, k < j → ¬ Reach ll (k : Int) (k : Int)) := by
  have hm := may_spec (N := N) hr.r hf (by omega)
  have hlen := hf.len
  rcases ringed_loop (N := N) hf hN N 0 h (by omega) (by omega) hr hb (fun j hj => by omega) with ⟨h', e, k, ha⟩ | ⟨h', j, e, k, h1, h2, h3⟩
  · left
    simp only [Int.ofNat_zero] at e
    refine ⟨h', ?_, k, acyclic_of hf ha⟩
    simp [f40, hm, nn7, f43, hr.r.slen, e, leInt_dec]
  · right
    simp only [Int.ofNat_zero] at e
    refine ⟨h'.push (.row [.int .i64 42, .int .i64 j, .iface 71 (.int .i64 42)] .own), .iface 69 (.ptr (some (h'.next, 0))), j, ?_, k.trans ((Keep.refl _ _).push (by have := k.next; omega) _), ⟨h'.next, rfl, by simp, g_push_eq _ rfl⟩, h1, h2, h3⟩
    simp [f40, hm, nn7, f43, hr.r.slen, e, leInt_dec, f46, eqInt_dec]
def stL (dn : List Bool) : List Int := dn.map fun b => if b then 2 else 0
theorem stL_get (dn : List Bool) {k : Nat} (hk : k < dn.length) : (stL dn).getD k 0 = if dn.getD k false then 2 else 0 := by
  rw [getD_lt _ _ (by simpa [stL] using hk), getD_lt _ _ hk]; simp [stL]
theorem stL_set (dn : List Bool) (k : Nat) : stL (dn.set k true) = (stL dn).set k 2 := by simp [stL, List.map_set]
theorem scan3 {h : Heap} (hs : Ints h s l) (hl : l.length ≤ 1000) {sv : SL} {dn : List Bool} (hst : Own1 B h sv ((stL dn).map (AV.int .i64))) (hin : ∀ x ∈ l, 0 ≤ x ∧ x < dn.length) (v0 v6 v26 : SL) (v7 v27 v28 : Int) : ∀ (M i : Nat) (v9 : Int), i ≤ l.length → l.length - i < M →
    f14_l3 N M v0 sv v6 v7 v9 v26 v27 v28 s (l.length : Int) (i : Int) h = some (.exit 4, (v0, sv, v6, v7, (if (l.drop i).all (fun k => dn.getD k.toNat false) then v9 else 0), v26, v27, v28, ()), h) := by
  intro M
  induction M with
  | zero => intro i v9 h1 h2; omega
  | succ M ih =>
    intro i v9 h1 h2
    rw [f14_l3_succ]
    unfold f14_l3_b
    by_cases hi : i < l.length
    · have ew : wrapA .i64 ((i : Int) + 1) = ((i + 1 : Nat) : Int) := wrapA_small (by omega) (by omega)
      have hd : l.drop i = l[i] :: l.drop (i + 1) := List.drop_eq_getElem_cons hi
      have hg := getD_lt l 0 hi
      have hx := hin l[i] (List.getElem_mem hi)
      have hsl : (stL dn).length = dn.length := by simp [stL]
      rw [hs.int (x := (i : Int)) (by omega) (by omega)]
      simp only [Int.toNat_natCast, hg]
      rw [hst.one.int (x := l[i]) (by omega) (by omega)]
      simp only [nat_i, hi, decide_true, cond_true, stL_get dn (show l[i].toNat < dn.length by omega), eqInt_dec, hd, List.all_cons, ew]
      cases hb : dn.getD l[i].toNat false with
      | true =>
        simp only [if_true, decide_true, Bool.not_true, cond_false, Bool.true_and]
        exact ih (i + 1) v9 (by omega) (by omega)
      | false =>
        simp only [Bool.false_and, Bool.false_eq_true, if_false, show ¬ ((0 : Int) = 2) by omega, decide_false, Bool.not_false, cond_true]
        have := ih (i + 1) 0 (by omega) (by omega)
        rw [this]; simp
    · have : i = l.length := by omega
      subst this
      simp [nat_i]
/-- the state of the search for an order -/
structure Ost (B : Nat) (h0 h : Heap) (sv ov : SL) (dn : List Bool) (out : List Int) : Prop where
  k : Keep B h0 h
  b0 : B ≤ h0.next
  s : Own1 B h sv ((stL dn).map (AV.int .i64))
  o : Own1 B h ov (out.map (AV.int .i64))
  ne : ∀ A, sv.blk = some A → ov.blk ≠ some A
theorem scan2 (hr : RowsB B h0 s ss ll) (hf : Fine ll) (hN : 1000 ≤ N) {sv ov : SL} {dn : List Bool} {out : List Int} {h : Heap} (hdl : dn.length = ll.length) (hol : out.length ≤ 64) (ho : Ost B h0 h sv ov dn out) : ∀ (M i : Nat), i ≤ ll.length → ll.length - i < M →
    ∃ ov' h', f14_l2 N M s sv ov s (ll.length : Int) (i : Int) h = some (.exit 2, (s, sv, ov', ()), h') ∧
      (match pick ll dn (ll.length - i) i with | some j => Ost B h0 h' sv ov' (dn.set j true) (out ++ [(j : Int)]) | none => Ost B h0 h' sv ov' dn out) := by
  intro M
  induction M with
  | zero => intro i h1 h2; omega
  | succ M ih =>
    intro i h1 h2
    rw [f14_l2_succ]
    unfold f14_l2_b
    have hlen := hf.len
    by_cases hi : i < ll.length
    · have ew : wrapA .i64 ((i : Int) + 1) = ((i + 1 : Nat) : Int) := wrapA_small (by omega) (by omega)
      have hrk := hr.keep ho.k
      have hrow := hrk.r.row i hi
      have hrl := hf.row i hi
      have hp : pick ll dn (ll.length - i) i = if ready ll dn i then some i else pick ll dn (ll.length - (i + 1)) (i + 1) := by
        rw [show ll.length - i = (ll.length - (i + 1)) + 1 by omega]; rfl
      have hsl : (stL dn).length = dn.length := by simp [stL]
      rw [hrk.r.top.sl (x := (i : Int)) (by omega) (by rw [hrk.r.len]; omega)]
      have e3 := scan3 (N := N) hrow (by omega) ho.s (fun x hx => by rw [hdl]; exact hf.inr i hi x hx) s ov s (i : Int) (ll.length : Int) (i : Int) N 0 1 (by omega) (by omega)
      simp only [List.drop_zero, Int.ofNat_zero] at e3
      simp only [nat_i, hi, decide_true, cond_true, Int.toNat_natCast, Ints.len hrow, Int.ofNat_eq_natCast, e3, bind3_some]
      rw [ho.s.one.int (x := (i : Int)) (by omega) (by omega)]
      simp only [Int.toNat_natCast, stL_get dn (show i < dn.length by omega), eqInt_dec, ew, hp]
      cases hd : dn.getD i false with
      | true =>
        have hrd : ready ll dn i = false := by simp only [ready, hd, Bool.not_true, Bool.false_and]
        simp only [if_true, decide_true, cond_true, hrd, Bool.false_eq_true, if_false]
        exact ih (i + 1) (by omega) (by omega)
      | false =>
        have hrd : ready ll dn i = (ll.getD i []).all fun k => dn.getD k.toNat false := by simp only [ready, hd, Bool.not_false, Bool.true_and]
        simp only [Bool.false_eq_true, if_false, show ¬ ((0 : Int) = 2) by omega, decide_false, cond_false, hrd]
        cases hall : (ll.getD i []).all (fun k => dn.getD k.toNat false) with
        | false =>
          simp only [Bool.false_eq_true, if_false, show ¬ ((0 : Int) = 1) by omega, decide_false, cond_false]
          exact ih (i + 1) (by omega) (by omega)
        | true =>
          simp only [if_true, decide_true, cond_true]
          have hnx := ho.k.next
          have hb0 := ho.b0
          obtain ⟨ov', h1', e1, o1, b1, c1⟩ := append_own1 app26 (v := AV.int .i64 (i : Int)) rfl ho.o (by omega) (by simp; omega)
          rw [e1]
          simp only [bindT_some, cast_slice]
          have os := ho.s.but b1 (fun A hA e => ho.ne A hA e)
          have k1 : Keep B h h1' := b1.keep (by omega) (fun A hA => (ho.o.ge A hA).1)
          have hne : ∀ A, sv.blk = some A → ov'.blk ≠ some A := by
            intro A hA e
            rcases c1 with c1 | ⟨A', c1, c3⟩
            · exact ho.ne A hA (c1 ▸ e)
            · rw [c1] at e; cases e
              have := (ho.s.ge A hA).2; omega
          obtain ⟨h2', e2, o2, b2, n2⟩ := store_own1 os (i := i) (by simp; omega) (AV.int .i64 2)
          have k2 : Keep B h1' h2' := b2.keep (by have := k1.next; omega) (fun A hA => (os.ge A hA).1)
          rw [os.one.ixz (x := (i : Int)) (by omega) (by simp; omega)]
          simp only [Int.toNat_natCast, e2, need_some]
          refine ⟨ov', h2', rfl, ho.k.trans (k1.trans k2), hb0, ?_, ?_, hne⟩
          · rw [stL_set, List.map_set]; exact o2
          · rw [List.map_append]
            exact o1.but b2 (fun A hA e => hne A e hA)
    · have : i = ll.length := by omega
      subst this
      exact ⟨ov, h, by simp [nat_i], by simpa [pick] using ho⟩
end Go.Proofs.Ythpplekbeecdfaa.Gb

open Go Go.Proofs.Ythpplekbeecdfaa.Ai Go.Proofs
namespace Go.Proofs.Ythpplekbeecdfaa.Gb
variable {N : Nat} {s : SL} {l : List Int} {ss : List SL} {ll : List (List Int)} {B : Nat} {h0 : Heap}
theorem order_loop (hr : RowsB B h0 s ss ll) (hf : Fine ll) (ha : Acyclic ll) (hN : 1000 ≤ N) {sv : SL} : ∀ (M : Nat) (h : Heap) (ov : SL) (dn : List Bool) (out : List Int), out.length ≤ ll.length → ll.length - out.length < M → Ost B h0 h sv ov dn out → Topo ll dn out →
    ∃ ov' h' dn' out', f14_l1 N M s sv ov h = some (.exit 0, (ov', ()), h') ∧ Ost B h0 h' sv ov' dn' out' ∧ Topo ll dn' out' ∧ out'.length = ll.length := by
  intro M
  induction M with
  | zero => intro h ov dn out h1 h2; omega
  | succ M ih =>
    intro h ov dn out h1 h2 ho ht
    rw [f14_l1_succ]
    unfold f14_l1_b
    have hlen := hf.len
    have hol : ov.len = out.length := by have := ho.o.len; simpa using this
    by_cases hlt : out.length < ll.length
    · obtain ⟨ov1, h1', e1, hp⟩ := scan2 (N := N) hr hf hN ht.len (by omega) ho N 0 (by omega) (by omega)
      obtain ⟨j, hj1, hj2, hj3⟩ := ht.more hf ha hlt
      rw [Nat.sub_zero, hj1] at hp
      simp only [Int.ofNat_zero] at e1
      obtain ⟨ov2, h2', dn2, out2, e2, ho2, ht2, hl2⟩ := ih h1' ov1 (dn.set j true) (out ++ [(j : Int)]) (by simp; omega) (by simp; omega) hp (ht.next hf hj2 hj3)
      refine ⟨ov2, h2', dn2, out2, ?_, ho2, ht2, hl2⟩
      simp only [hol, hr.r.slen, Int.ofNat_eq_natCast, nat_i, hlt, decide_true, cond_true, e1, bind3_some]
      exact e2
    · refine ⟨ov, h, dn, out, ?_, ho, ht, by omega⟩
      simp only [hol, hr.r.slen, Int.ofNat_eq_natCast, nat_i, hlt, decide_false, cond_false]
theorem app26z : E.zero 3 = some (.int .i64 0) := by kernel_rfl
theorem stL_rep (n : Nat) : stL (List.replicate n false) = List.replicate n 0 := by simp [stL]
theorem nn15 : binA E .neq 32 (.tmp 15) (.const .nilIface) AV.nilIface AV.nilIface = some (.bool false) := by kernel_rfl
theorem nn15e (v : AV) : binA E .neq 32 (.tmp 15) (.const .nilIface) (.iface 69 v) AV.nilIface = some (.bool true) := by kernel_rfl
theorem nn16 : binA E .neq 32 (.tmp 16) (.const .nilIface) AV.nilIface AV.nilIface = some (.bool false) := by kernel_rfl
theorem nn16e (v : AV) : binA E .neq 32 (.tmp 16) (.const .nilIface) (.iface 69 v) AV.nilIface = some (.bool true) := by kernel_rfl
/-- an order that is whole -/
structure Whole (ll : List (List Int)) (out : List Int) : Prop where
  len : out.length = ll.length
  mem : ∀ x, x ∈ out ↔ 0 ≤ x ∧ x < ll.length
  nod : ∀ i, ∀ hi : i < out.length, out[i] ∉ out.take i
  dep : ∀ i, ∀ hi : i < out.length, ∀ k ∈ ll.getD (out[i]).toNat [], k ∈ out.take i
theorem Topo.whole {dn : List Bool} {out : List Int} (ht : Topo ll dn out) (hl : out.length = ll.length) : Whole ll out := by
  refine ⟨hl, fun x => ?_, ht.nod, ht.dep⟩
  rw [ht.mem]
  constructor
  · rintro ⟨h1, h2, _⟩; exact ⟨h1, h2⟩
  · rintro ⟨h1, h2⟩
    refine ⟨h1, h2, ?_⟩
    have hall := List.count_eq_length.1 (show dn.count true = dn.length by rw [ht.cnt, ht.len, hl])
    have hx : x.toNat < dn.length := by rw [ht.len]; omega
    rw [getD_lt _ _ hx]
    exact (hall _ (List.getElem_mem hx)).symm
/-- all things, each behind what it needs; an error, where there is a ring -/
theorem Order_spec {h : Heap} (hf : Fine ll) (hN : 1000 ≤ N) (hr : RowsB B h s ss ll) (hb : B ≤ h.next) :
    (∃ s' h' out, f14 N s h = some ((s', .nilIface, ()), h') ∧ Keep B h h' ∧ Own1 B h' s' (List.map (AV.int .i64) out) ∧ Acyclic ll ∧ Whole ll out) ∨
    (∃ (h' : Heap) (v : AV) (j : Nat), f14 N s h = some ((nilS, v, ()), h') ∧ Keep B h h' ∧ isErr h' v 42 j ∧ j < ll.length ∧ Reach ll (j : Int) (j : Int) ∧ ∀ k : Nat, k < j → ¬ Reach ll (k : Int) (k : Int)) := by
  have hlen := hf.len
  rcases check_spec (N := N) hf hN hr hb with ⟨h1, e1, k1, ha⟩ | ⟨h1, v, j, e1, k1, he, hx⟩
  · left
    have hnx := k1.next
    obtain ⟨m1, m2⟩ := make1 app26 (.int .i64 0) app26z rfl ll.length (by omega) h1
    have kb : Keep B h (h1.push (.row (List.replicate ll.length (.int .i64 0)) .own)) := k1.push hb _
    have hr1 : RowsB B (h1.push (.row (List.replicate ll.length (.int .i64 0)) .own)) s ss ll := hr.keep kb
    have ho : Ost B (h1.push (.row (List.replicate ll.length (.int .i64 0)) .own)) (h1.push (.row (List.replicate ll.length (.int .i64 0)) .own)) ⟨some (h1.next, 0), ll.length, ll.length, 1⟩ nilS (List.replicate ll.length false) [] := by
      refine ⟨Keep.refl _ _, by simp; omega, ?_, Own1.nil _ _ _, fun A hA => by simp [SL.blk]⟩
      rw [stL_rep, List.map_replicate]
      rcases m2 with ⟨h2, _⟩ | ⟨A, cs, st, h2, h3, h4, h5⟩
      · cases h2
      · exact .inr ⟨A, cs, st, h2, h3, by omega, h5⟩
    obtain ⟨ov, h2, dn, out, e2, ho2, ht2, hl2⟩ := order_loop (N := N) hr1 hf ha hN N _ nilS _ [] (by simp) (by simp; omega) ho Topo.start
    have e2' : f14_l1 N N s ⟨some (h1.next, 0), ll.length, ll.length, 1⟩ ⟨none, 0, 0, 0⟩ (h1.push (.row (List.replicate ll.length (.int .i64 0)) .own)) = some (.exit 0, (ov, ()), h2) := e2
    refine ⟨ov, h2, out, ?_, kb.trans ho2.k, ho2.o, ha, ht2.whole hl2⟩
    unfold f14
    simp only [e1, bind2_some, nn15, bindV_some, cast_bool, cond_false, hr.r.slen, Int.ofNat_eq_natCast, m1, bindT_some, cast_slice, e2', bind3_some]
  · right
    obtain ⟨A, rfl, he2⟩ := he
    refine ⟨h1, _, j, ?_, k1, ⟨A, rfl, he2⟩, hx⟩
    unfold f14
    simp only [e1, bind2_some, nn15e, bindV_some, cast_bool, cond_true]
/-! levels -/
def lvOf (lv : List Int) (r : List Int) : Int := r.foldl (fun a k => if a < lv.getD k.toNat 0 + 1 then lv.getD k.toNat 0 + 1 else a) 0
theorem foldl_lv (lv lv' : List Int) : ∀ (r : List Int) (a : Int), (∀ k ∈ r, lv'.getD k.toNat 0 = lv.getD k.toNat 0) → r.foldl (fun a k => if a < lv'.getD k.toNat 0 + 1 then lv'.getD k.toNat 0 + 1 else a) a = r.foldl (fun a k => if a < lv.getD k.toNat 0 + 1 then lv.getD k.toNat 0 + 1 else a) a
  | [], a, _ => rfl
  | k :: r, a, h => by simp only [List.foldl_cons, h k (by simp)]; exact foldl_lv lv lv' r _ fun x hx => h x (by simp [hx])
theorem foldl_b {lv : List Int} {b : Int} : ∀ (r : List Int) (a : Int), (∀ k ∈ r, lv.getD k.toNat 0 + 1 ≤ b) → 0 ≤ a → a ≤ b → 0 ≤ r.foldl (fun a k => if a < lv.getD k.toNat 0 + 1 then lv.getD k.toNat 0 + 1 else a) a ∧ r.foldl (fun a k => if a < lv.getD k.toNat 0 + 1 then lv.getD k.toNat 0 + 1 else a) a ≤ b
  | [], a, _, h1, h2 => ⟨h1, h2⟩
  | k :: r, a, h, h1, h2 => by
    simp only [List.foldl_cons]
    have := h k (by simp)
    exact foldl_b r _ (fun x hx => h x (by simp [hx])) (by split <;> omega) (by split <;> omega)
theorem set_get_ne (lv : List Int) {a k : Nat} (v : Int) (h : a ≠ k) : (lv.set a v).getD k 0 = lv.getD k 0 := by
  simp only [List.getD_eq_getElem?_getD, List.getElem?_set, h, if_false]
theorem set_get_eq (lv : List Int) {a : Nat} (v : Int) (h : a < lv.length) : (lv.set a v).getD a 0 = v := by
  simp [List.getD_eq_getElem?_getD, h]
/-- a row's part of a level -/
theorem lev_row {lv : List Int} {h : Heap} (hs : Ints h0 s l) (hu : s.under B) (hl : l.length ≤ 1000) (hb0 : B ≤ h0.next) {i : Int} (hi0 : 0 ≤ i) (hi1 : i < lv.length) (hni : ∀ k ∈ l, k ≠ i) (hin : ∀ k ∈ l, 0 ≤ k ∧ k < lv.length ∧ 0 ≤ lv.getD k.toNat 0 ∧ lv.getD k.toNat 0 ≤ 100000) (v0 v22 : SL) (v23 v24 : Int) {sv : SL} :
    ∀ (M j : Nat) (h : Heap) (a : Int), j ≤ l.length → l.length - j < M → Keep B h0 h → Own1 B h sv ((lv.set i.toNat a).map (AV.int .i64)) →
    ∃ h', f16_l2 N M v0 sv i v22 v23 v24 s (l.length : Int) (j : Int) h = some (.exit 2, (v0, sv, v22, v23, v24, ()), h') ∧ Keep B h0 h' ∧ Own1 B h' sv ((lv.set i.toNat ((l.drop j).foldl (fun a k => if a < lv.getD k.toNat 0 + 1 then lv.getD k.toNat 0 + 1 else a) a)).map (AV.int .i64)) := by
  intro M
  induction M with
  | zero => intro j h a h1 h2; omega
  | succ M ih =>
    intro j h a h1 h2 hk ho
    rw [f16_l2_succ]
    unfold f16_l2_b
    by_cases hj : j < l.length
    · have ew : wrapA .i64 ((j : Int) + 1) = ((j + 1 : Nat) : Int) := wrapA_small (by omega) (by omega)
      have hd : l.drop j = l[j] :: l.drop (j + 1) := List.drop_eq_getElem_cons hj
      have hg := getD_lt l 0 hj
      obtain ⟨x1, x2, x3, x4⟩ := hin l[j] (List.getElem_mem hj)
      have hne := hni l[j] (List.getElem_mem hj)
      have hlen : (lv.set i.toNat a).length = lv.length := by simp
      have hnx := hk.next
      rw [(One.keep hk hu hs).int (x := (j : Int)) (by omega) (by omega)]
      simp only [Int.toNat_natCast, hg]
      rw [ho.one.int (x := i) hi0 (by rw [hlen]; omega), ho.one.int (x := l[j]) x1 (by rw [hlen]; omega)]
      rw [set_get_eq lv a (show i.toNat < lv.length by omega), set_get_ne lv a (show i.toNat ≠ l[j].toNat by omega)]
      have ew2 : wrapA .i64 (lv.getD l[j].toNat 0 + 1) = lv.getD l[j].toNat 0 + 1 := wrapA_small (by omega) (by omega)
      have hmax : (bif ltInt a (lv.getD l[j].toNat 0 + 1) then lv.getD l[j].toNat 0 + 1 else a) = if a < lv.getD l[j].toNat 0 + 1 then lv.getD l[j].toNat 0 + 1 else a := by
        rw [ltInt_dec]; by_cases h : a < lv.getD l[j].toNat 0 + 1 <;> simp [h]
      obtain ⟨h1', e1, o1, b1, n1⟩ := store_own1 ho (i := i.toNat) (by simp; omega) (AV.int .i64 (if a < lv.getD l[j].toNat 0 + 1 then lv.getD l[j].toNat 0 + 1 else a))
      rw [ho.one.ixz (x := i) hi0 (by simp; omega)]
      simp only [nat_i, hj, decide_true, cond_true, ew2, hmax, e1, need_some, ew, hd, List.foldl_cons]
      refine ih (j + 1) h1' _ (by omega) (by omega) (hk.trans (b1.keep (by omega) (fun A hA => (ho.ge A hA).1))) ?_
      rw [← List.map_set, List.set_set] at o1
      exact o1
    · have : j = l.length := by omega
      subst this
      exact ⟨h, by simp [nat_i], hk, by simpa using ho⟩
end Go.Proofs.Ythpplekbeecdfaa.Gb

open Go Go.Proofs.Ythpplekbeecdfaa.Ai Go.Proofs
namespace Go.Proofs.Ythpplekbeecdfaa.Gb
variable {N : Nat} {s : SL} {l : List Int} {ss : List SL} {ll : List (List Int)} {B : Nat} {h0 : Heap}
theorem mem_take {out : List Int} {t : Nat} {x : Int} (h : x ∈ out.take t) : ∃ i, ∃ hi : i < out.length, i < t ∧ out[i] = x := by
  obtain ⟨i, hi, rfl⟩ := List.mem_iff_getElem.1 h
  simp at hi
  exact ⟨i, by omega, by omega, by simp⟩
theorem take_mem {out : List Int} {t i : Nat} (hi : i < out.length) (h : i < t) : out[i] ∈ out.take t := by
  refine List.mem_iff_getElem.2 ⟨i, by simp; omega, by simp⟩
structure Lev (ll : List (List Int)) (out : List Int) (t : Nat) (lv : List Int) : Prop where
  len : lv.length = ll.length
  eq : ∀ x ∈ out.take t, lv.getD x.toNat 0 = lvOf lv (ll.getD x.toNat [])
  zero : ∀ x : Int, 0 ≤ x → x < ll.length → x ∉ out.take t → lv.getD x.toNat 0 = 0
  bd : ∀ k, 0 ≤ lv.getD k 0 ∧ lv.getD k 0 ≤ t
theorem Lev.next (hf : Fine ll) {out : List Int} (hw : Whole ll out) {t : Nat} (ht : t < out.length) {lv : List Int} (hl : Lev ll out t lv) : Lev ll out (t + 1) (lv.set (out[t]).toNat (lvOf lv (ll.getD (out[t]).toNat []))) := by
  have hx := (hw.mem out[t]).1 (List.getElem_mem ht)
  have hxl : (out[t]).toNat < lv.length := by rw [hl.len]; omega
  have htk : out.take (t + 1) = out.take t ++ [out[t]] := List.take_succ_eq_append_getElem ht
  have hdep := hw.dep t ht
  have same : ∀ y ∈ out.take t, ∀ v, (lv.set (out[t]).toNat v).getD y.toNat 0 = lv.getD y.toNat 0 := by
    intro y hy v
    have hym := (hw.mem y).1 (List.mem_of_mem_take hy)
    refine set_get_ne lv v fun e => ?_
    have : out[t] = y := by omega
    exact hw.nod t ht (this ▸ hy)
  have hb := foldl_b (lv := lv) (b := (t : Int) + 1) (ll.getD (out[t]).toNat []) 0 (fun k _ => by have := hl.bd k.toNat; omega) (by omega) (by omega)
  refine ⟨by simp [hl.len], fun x hx' => ?_, fun x h1 h2 h3 => ?_, fun k => ?_⟩
  · rw [htk] at hx'
    rcases List.mem_append.1 hx' with h | h
    · rw [same x h, hl.eq x h]
      obtain ⟨i, hi, hit, rfl⟩ := mem_take h
      refine (foldl_lv _ _ _ _ fun k hk => ?_).symm
      have hk2 := hw.dep i hi k hk
      obtain ⟨i', hi', hit', rfl⟩ := mem_take hk2
      exact same _ (take_mem hi' (by omega)) _
    · simp at h; subst h
      rw [set_get_eq lv _ hxl]
      exact (foldl_lv _ _ _ _ fun k hk => same k (hdep k hk) _).symm
  · rw [htk] at h3
    have h4 : x ∉ out.take t := fun h => h3 (List.mem_append_left _ h)
    have h5 : x ≠ out[t] := fun h => h3 (List.mem_append_right _ (by rw [h]; exact List.mem_singleton_self _))
    rw [set_get_ne lv _ (by omega)]
    exact hl.zero x h1 h2 h4
  · by_cases hk : (out[t]).toNat = k
    · subst hk
      rw [set_get_eq lv _ hxl]
      unfold lvOf
      omega
    · rw [set_get_ne lv _ hk]
      have := hl.bd k
      omega
theorem lev_loop (hr : RowsB B h0 s ss ll) (hf : Fine ll) (hN : 1000 ≤ N) {os : SL} {out : List Int} (ho0 : Ints h0 os out) (hou : os.under B) (hw : Whole ll out) (hb0 : B ≤ h0.next) {sv : SL} : ∀ (M t : Nat) (h : Heap) (lv : List Int), t ≤ out.length → out.length - t < M → Keep B h0 h → Own1 B h sv (lv.map (AV.int .i64)) → Lev ll out t lv →
    ∃ h' lv', f16_l1 N M s sv os (out.length : Int) (t : Int) h = some (.exit 0, (sv, ()), h') ∧ Keep B h0 h' ∧ Own1 B h' sv (List.map (AV.int .i64) lv') ∧ Lev ll out out.length lv' := by
  intro M
  induction M with
  | zero => intro t h lv h1 h2; omega
  | succ M ih =>
    intro t h lv h1 h2 hk ho hl
    rw [f16_l1_succ]
    unfold f16_l1_b
    have hlen := hf.len
    have hwl := hw.len
    by_cases ht : t < out.length
    · have ew : wrapA .i64 ((t : Int) + 1) = ((t + 1 : Nat) : Int) := wrapA_small (by omega) (by omega)
      have hx := (hw.mem out[t]).1 (List.getElem_mem ht)
      have hxl : (out[t]).toNat < ll.length := by omega
      have hg := getD_lt out 0 ht
      have hrow := hr.r.row (out[t]).toNat hxl
      have hz : lv.getD (out[t]).toNat 0 = 0 := hl.zero _ hx.1 hx.2 (hw.nod t ht)
      have hset : lv.set (out[t]).toNat 0 = lv := by
        apply List.ext_getElem (by simp)
        intro i hi1 hi2
        rw [List.getElem_set]
        split
        · rename_i e
          have := getD_lt lv 0 hi2
          rw [← this, ← e, hz]
        · rfl
      obtain ⟨h1', e1, k1, o1⟩ := lev_row (N := N) (lv := lv) (h := h) hrow (hr.ru _ hxl) (by have := hf.row _ hxl; omega) hb0 hx.1 (by rw [hl.len]; omega) (fun k hk2 e => hw.nod t ht (e ▸ hw.dep t ht k hk2)) (fun k hk2 => by
        have h3 := hf.inr _ hxl k hk2
        have h4 := hl.bd k.toNat
        exact ⟨h3.1, by rw [hl.len]; omega, h4.1, by omega⟩) s os (out.length : Int) (t : Int) N 0 h 0 (by omega) (by have := hf.row _ hxl; omega) hk (by rw [hset]; exact ho)
      simp only [List.drop_zero, Int.ofNat_zero] at e1 o1
      obtain ⟨h2', lv', e2, k2, o2, hl2⟩ := ih (t + 1) h1' _ (by omega) (by omega) k1 o1 (hl.next hf hw ht)
      refine ⟨h2', lv', ?_, k2, o2, hl2⟩
      rw [(One.keep hk hou ho0).int (x := (t : Int)) (by omega) (by omega)]
      simp only [Int.toNat_natCast, hg]
      rw [(hr.keep hk).r.top.sl (x := out[t]) hx.1 (by rw [hr.r.len]; omega)]
      simp only [nat_i, ht, decide_true, cond_true, Ints.len hrow, Int.ofNat_eq_natCast, e1, bind3_some, ew]
      exact e2
    · have : t = out.length := by omega
      subst this
      exact ⟨h, lv, by simp [nat_i], hk, ho, hl⟩
/-- levels: each thing's above those that it needs -/
structure Levels (ll : List (List Int)) (lv : List Int) : Prop where
  len : lv.length = ll.length
  eq : ∀ k : Nat, k < ll.length → lv.getD k 0 = lvOf lv (ll.getD k [])
  bd : ∀ k, 0 ≤ lv.getD k 0 ∧ lv.getD k 0 ≤ 64
theorem Levels_spec {h : Heap} (hf : Fine ll) (hN : 1000 ≤ N) (hr : RowsB B h s ss ll) (hb : B ≤ h.next) :
    (∃ s' h' lv, f16 N s h = some ((s', .nilIface, ()), h') ∧ Keep B h h' ∧ Own1 B h' s' (List.map (AV.int .i64) lv) ∧ Acyclic ll ∧ Levels ll lv) ∨
    (∃ (h' : Heap) (v : AV) (j : Nat), f16 N s h = some ((nilS, v, ()), h') ∧ Keep B h h' ∧ isErr h' v 42 j ∧ j < ll.length ∧ Reach ll (j : Int) (j : Int) ∧ ∀ k : Nat, k < j → ¬ Reach ll (k : Int) (k : Int)) := by
  have hlen := hf.len
  rcases Order_spec (N := N) hf hN hr hb with ⟨os, h1, out, e1, k1, o1, ha, hw⟩ | ⟨h1, v, j, e1, k1, he, hx⟩
  · left
    have hwl := hw.len
    have hnx := k1.next
    obtain ⟨m1, m2⟩ := make1 app26 (.int .i64 0) app26z rfl ll.length (by omega) h1
    generalize hH : h1.push (.row (List.replicate ll.length (.int .i64 0)) .own) = H at *
    have kb : Keep B h H := by rw [← hH]; exact k1.push hb _
    have kb1 : Keep h1.next h1 H := by rw [← hH]; exact (Keep.refl _ _).push (Nat.le_refl _) _
    have hHn : H.next = h1.next + 1 := by rw [← hH]; rfl
    have hoI : Ints H os out := One.keep kb1 o1.one.2.2.under o1.one
    -- the order lies below 'h1.next'
    have hrB : RowsB h1.next H s ss ll := (hr.keep kb).mono (by omega)
    have hz : Lev ll out 0 (List.replicate ll.length 0) := by
      have hno : ∀ k, (List.replicate ll.length (0 : Int)).getD k 0 = 0 := by
        intro k
        simp [List.getD_eq_getElem?_getD, List.getElem?_replicate]
        split <;> rfl
      exact ⟨by simp, fun x hx => by simp at hx, fun x _ _ _ => hno _, fun k => by rw [hno]; simp⟩
    obtain ⟨h2, lv, e2, k2, o2, hl⟩ := lev_loop (N := N) (B := h1.next) (h0 := H) hrB hf hN hoI o1.one.2.2.under hw (by omega) N 0 H (List.replicate ll.length 0) (by omega) (by omega) (Keep.refl _ _) (by rw [List.map_replicate]; exact m2) hz
    simp only [Int.ofNat_zero] at e2
    have hol : os.len = out.length := by have := o1.len; simpa using this
    refine ⟨⟨some (h1.next, 0), ll.length, ll.length, 1⟩, h2, lv, ?_, kb.trans (k2.mono (by omega)), ?_, ha, hl.len, fun k hk => ?_, fun k => ?_⟩
    · unfold f16
      simp only [e1, bind2_some, nn16, bindV_some, cast_bool, cond_false, hr.r.slen, Int.ofNat_eq_natCast, m1, bindT_some, cast_slice, hol, e2, bind3_some]
    · rcases o2 with ⟨h3, h4⟩ | ⟨A, cs, st, h3, h4, h5, h6⟩
      · exact .inl ⟨h3, h4⟩
      · exact .inr ⟨A, cs, st, h3, h4, by omega, h6⟩
    · have := hl.eq (k : Int) (by rw [List.take_length]; exact (hw.mem _).2 ⟨by omega, by omega⟩)
      simpa using this
    · have := hl.bd k
      omega
  · right
    obtain ⟨A, rfl, he2⟩ := he
    refine ⟨h1, _, j, ?_, k1, ⟨A, rfl, he2⟩, hx⟩
    unfold f16
    simp only [e1, bind2_some, nn16e, bindV_some, cast_bool, cond_true]
end Go.Proofs.Ythpplekbeecdfaa.Gb

open Go Go.Proofs.Ythpplekbeecdfaa.Ai Go.Proofs
namespace Go.Proofs.Ythpplekbeecdfaa.Gb
variable {N : Nat} {s : SL} {l : List Int} {ss : List SL} {d : List (List Int)} {B : Nat} {h0 : Heap}
theorem cellD {h : Heap} {s : SL} {vs : List AV} (hs : One h s vs) {i : Nat} (hi : i < vs.length) (x : AV) : h.cell (s.at i 1) = some (vs.getD i x) := by rw [hs.cell hi, getD_lt _ _ hi]
def upd {α : Type} (S : Nat → α) (r : Nat) (v : α) : Nat → α := fun k => if k = r then v else S k
theorem upd_set {α β : Type} (f : α → β) (S : Nat → α) (v : α) {n r : Nat} (hr : r < n) : ((List.range n).map fun k => f (S k)).set r (f v) = (List.range n).map fun k => f (upd S r v k) := by
  apply List.ext_getElem (by simp)
  intro i h1 h2
  simp at h2
  rw [List.getElem_set]
  simp only [List.getElem_map, List.getElem_range, upd]
  split
  · rename_i e; subst e; simp
  · rename_i e; rw [if_neg (fun h => e h.symm)]
/-- rows of one's own, each by itself -/
structure Tbl (B : Nat) (h0 h : Heap) (ov : SL) (n : Nat) (S : Nat → SL) (R : Nat → List Int) : Prop where
  k : Keep B h0 h
  b0 : B ≤ h0.next
  o : Own1 B h ov ((List.range n).map fun r => SL.av (S r))
  row : ∀ r, r < n → Own1 B h (S r) ((R r).map (AV.int .i64))
  ne : ∀ r, r < n → ∀ A, (S r).blk = some A → ov.blk ≠ some A
  dis : ∀ r r', r < n → r' < n → r ≠ r' → ∀ A, (S r).blk = some A → (S r').blk ≠ some A
def ren (n : Nat) (x : Int) : Int := n - 1 - x
/-- rows up to place 'j' of row 'k' -/
def eeR (d : List (List Int)) (n k j : Nat) (r : Nat) : List Int :=
  if n - 1 - r < k then (d.getD (n - 1 - r) []).map (ren n) else if n - 1 - r = k then ((d.getD k []).take j).map (ren n) else []
theorem eeR_next {n k j : Nat} (hj : j < (d.getD k []).length) (r : Nat) : eeR d n k (j + 1) r = if n - 1 - r = k then eeR d n k j r ++ [ren n (d.getD k [])[j]] else eeR d n k j r := by
  unfold eeR
  by_cases h1 : n - 1 - r < k
  · rw [if_pos h1, if_pos h1, if_neg (by omega)]
  · rw [if_neg h1, if_neg h1]
    by_cases h2 : n - 1 - r = k
    · rw [if_pos h2, if_pos h2, if_pos h2, List.take_succ_eq_append_getElem hj, List.map_append]; rfl
    · rw [if_neg h2, if_neg h2, if_neg h2]
theorem eeR_row {n k : Nat} (r : Nat) : eeR d n k (d.getD k []).length r = eeR d n (k + 1) 0 r := by
  unfold eeR
  by_cases h1 : n - 1 - r < k
  · rw [if_pos h1, if_pos (by omega)]
  · rw [if_neg h1]
    by_cases h2 : n - 1 - r = k
    · rw [if_pos h2, if_pos (by omega), h2, List.take_length]
    · rw [if_neg h2, if_neg (by omega)]
      split <;> simp
theorem f6_row (hr : RowsB B h0 s ss d) (hlen : d.length ≤ 64) {k : Nat} (hk : k < d.length) (hrl : (d.getD k []).length ≤ 64) (hin : ∀ x ∈ d.getD k [], 0 ≤ x ∧ x < d.length) (v1 : Int) (v4 : Bool) {ov : SL} : ∀ (M j : Nat) (h : Heap) (S : Nat → SL), j ≤ (d.getD k []).length → (d.getD k []).length - j < M → Tbl B h0 h ov d.length S (eeR d d.length k j) →
    ∃ h' S', f6_l2 N M v1 v4 s (d.length : Int) ov (k : Int) (j : Int) h = some (.exit 2, (v1, v4, s, (d.length : Int), ov, (k : Int), ()), h') ∧ Tbl B h0 h' ov d.length S' (eeR d d.length (k + 1) 0) := by
  intro M
  induction M with
  | zero => intro j h S h1 h2; omega
  | succ M ih =>
    intro j h S h1 h2 ht
    rw [f6_l2_succ]
    unfold f6_l2_b
    have hrk := hr.keep ht.k
    have hrow := hrk.r.row k hk
    have hnx := ht.k.next
    have hb0 := ht.b0
    have rs : ∀ {β : Type} (K : SL → Option β), (ixK s.a s.len (k : Int) 1 fun q => bindV (.val (.one .slice)) (h.cell q) K) = K (ss.getD k nilS) := fun K => by
      rw [hrk.r.top.sl (x := (k : Int)) (by omega) (by rw [hrk.r.len]; omega)]; simp only [Int.toNat_natCast]
    rw [rs]
    simp only [Ints.len hrow]
    by_cases hj : j < (d.getD k []).length
    · have ew : wrapA .i64 ((j : Int) + 1) = ((j + 1 : Nat) : Int) := wrapA_small (by omega) (by omega)
      have ew1 : wrapA .i64 ((d.length : Int) - 1) = (d.length : Int) - 1 := wrapA_small (by omega) (by omega)
      have ew2 : wrapA .i64 ((d.length : Int) - 1 - (k : Int)) = ((d.length - 1 - k : Nat) : Int) := by rw [wrapA_small (by omega) (by omega)]; omega
      have hx := hin _ (List.getElem_mem hj)
      have ew3 : wrapA .i64 ((d.length : Int) - 1 - (d.getD k [])[j]) = ren d.length (d.getD k [])[j] := wrapA_small (by omega) (by omega)
      have hg := getD_lt (d.getD k []) 0 hj
      have hrn : d.length - 1 - k < d.length := by omega
      have hol : ((List.range d.length).map fun r => SL.av (S r)).length = d.length := by simp
      have oo := ht.o.one
      -- what is read
      have c1 : h.cell (s.at k 1) = some (SL.av (ss.getD k nilS)) := by
        rw [hrk.r.top.cell (by rw [List.length_map, hrk.r.len]; exact hk)]
        rw [List.getElem_map, getD_lt _ _ (by rw [hrk.r.len]; exact hk)]
      have c2 : h.cell ((ss.getD k nilS).at j 1) = some (.int .i64 (d.getD k [])[j]) := by
        rw [hrow.cell (by rw [List.length_map]; exact hj), List.getElem_map]
      have c3 : h.cell (ov.at (d.length - 1 - k) 1) = some (SL.av (S (d.length - 1 - k))) := by
        rw [oo.cell (by rw [hol]; exact hrn)]; simp
      have c4 : ∀ b, (h.push b).cell (ov.at (d.length - 1 - k) 1) = some (SL.av (S (d.length - 1 - k))) := fun b => by
        rw [(ht.o.push b).one.cell (by rw [hol]; exact hrn)]; simp
      obtain ⟨rv', h1', e1, o1, b1, d1⟩ := append_own1 app26 (v := AV.int .i64 (ren d.length (d.getD k [])[j])) rfl (ht.row _ hrn) (by omega) (by
        unfold eeR
        rw [if_neg (by omega), if_pos (by omega)]
        simp; omega)
      have oo1 := ht.o.but b1 (fun A hA e => ht.ne _ hrn A e hA)
      have k1 : Keep B h h1' := b1.keep (by omega) (fun A hA => ((ht.row _ hrn).ge A hA).1)
      obtain ⟨h2', e2, o2, b2, n2⟩ := store_own1 oo1 (i := d.length - 1 - k) (by rw [hol]; exact hrn) (SL.av rv')
      have k2 : Keep B h1' h2' := b2.keep (by have := k1.next; omega) (fun A hA => (oo1.ge A hA).1)
      have rvne : ∀ A, rv'.blk = some A → ov.blk ≠ some A := by
        intro A hA e
        rcases d1 with d1 | ⟨A', d1, d3⟩
        · exact ht.ne _ hrn A (d1 ▸ hA) e
        · rw [d1] at hA; cases hA
          have := (ht.o.ge A e).2; omega
      have ht2 : Tbl B h0 h2' ov d.length (upd S (d.length - 1 - k) rv') (eeR d d.length k (j + 1)) := by
        refine ⟨ht.k.trans (k1.trans k2), hb0, by rw [← upd_set SL.av S rv' hrn]; exact o2, fun r hr' => ?_, fun r hr' A hA => ?_, fun r r' hr1 hr2 hne A hA => ?_⟩
        · rw [eeR_next hj r]
          unfold upd
          by_cases hrr : r = d.length - 1 - k
          · rw [if_pos hrr, if_pos (by omega)]
            subst hrr
            rw [List.map_append]
            exact o1.but b2 (fun A hA e => rvne A hA e)
          · rw [if_neg hrr, if_neg (by omega)]
            have q1 := (ht.row r hr').but b1 (fun A hA e => ht.dis r _ hr' hrn hrr A hA e)
            exact q1.but b2 (fun A hA e => ht.ne r hr' A hA e)
        · unfold upd at hA
          by_cases hrr : r = d.length - 1 - k
          · rw [if_pos hrr] at hA; exact rvne A hA
          · rw [if_neg hrr] at hA; exact ht.ne r hr' A hA
        · unfold upd at hA ⊢
          have other : ∀ r2, r2 < d.length → r2 ≠ d.length - 1 - k → ∀ A, (S r2).blk = some A → rv'.blk ≠ some A := by
            intro r2 h6 h7 A h8 e
            rcases d1 with d1 | ⟨A', d1, d3⟩
            · exact ht.dis r2 _ h6 hrn h7 A h8 (d1 ▸ e)
            · rw [d1] at e; cases e
              have := ((ht.row r2 h6).ge A h8).2; omega
          by_cases hrr : r = d.length - 1 - k
          · rw [if_pos hrr] at hA
            rw [if_neg (fun e => hne (hrr.trans e.symm))]
            intro e
            exact other r' hr2 (fun e2 => hne (hrr.trans e2.symm)) A e hA
          · rw [if_neg hrr] at hA
            by_cases hrr' : r' = d.length - 1 - k
            · rw [if_pos hrr']; exact other r hr1 hrr A hA
            · rw [if_neg hrr']; exact ht.dis r r' hr1 hr2 hne A hA
      obtain ⟨h3', S', e3, t3⟩ := ih (j + 1) h2' _ (by omega) (by omega) ht2
      refine ⟨h3', S', ?_, t3⟩
      have i1 : ∀ {β : Type} (K : Nat × Nat → Option β), ixK s.a s.len (k : Int) 1 K = K (s.at k 1) := fun K => hrk.r.top.ixz (x := (k : Int)) (by omega) (by rw [List.length_map, hrk.r.len]; omega) K
      have i2 : ∀ {β : Type} (K : Nat × Nat → Option β), ixK (ss.getD k nilS).a (d.getD k []).length (j : Int) 1 K = K ((ss.getD k nilS).at j 1) := fun K => by
        have := hrow.ixz (x := (j : Int)) (by omega) (by rw [List.length_map]; omega) K
        rw [Ints.len hrow] at this
        exact this
      have i3 : ∀ {β : Type} (K : Nat × Nat → Option β), ixK ov.a ov.len ((d.length - 1 - k : Nat) : Int) 1 K = K (ov.at (d.length - 1 - k) 1) := fun K => oo.ixz (x := ((d.length - 1 - k : Nat) : Int)) (by omega) (by rw [hol]; omega) K
      simp only [nat_i, Int.ofNat_eq_natCast, hj, decide_true, cond_true, ew1, ew2, i1, i3, c1, c3, SL.av, bindV_some, cast_slice, Ints.len hrow, i2, c2, cast_int, ew3]
      rw [e1]
      have e2' : h1'.store (ov.at (d.length - 1 - k) 1) [.slice rv'.a rv'.len rv'.cap rv'.sz] = some h2' := e2
      have c4' : ∀ b, (h.push b).cell (ov.at (d.length - 1 - k) 1) = some (.slice (S (d.length - 1 - k)).a (S (d.length - 1 - k)).len (S (d.length - 1 - k)).cap (S (d.length - 1 - k)).sz) := c4
      have s1 : sameO (some (AV.slice (ss.getD k nilS).a (d.getD k []).length (ss.getD k nilS).cap (ss.getD k nilS).sz)) (AV.slice (ss.getD k nilS).a (d.getD k []).length (ss.getD k nilS).cap (ss.getD k nilS).sz) = true := sameO_some _
      simp only [bindT_some, cast_slice, e2', need_some, c4', sameO_some, cond_true, guardB, ew]
      exact e3
    · have : j = (d.getD k []).length := by omega
      subst this
      refine ⟨h, S, by simp [nat_i], ?_⟩
      have : eeR d d.length k (d.getD k []).length = eeR d d.length (k + 1) 0 := funext fun r => eeR_row r
      rw [← this]; exact ht
end Go.Proofs.Ythpplekbeecdfaa.Gb

open Go Go.Proofs.Ythpplekbeecdfaa.Ai Go.Proofs
namespace Go.Proofs.Ythpplekbeecdfaa.Gb
variable {N : Nat} {s : SL} {l : List Int} {ss : List SL} {d : List (List Int)} {B : Nat} {h0 : Heap}
theorem f6_rows (hr : RowsB B h0 s ss d) (hlen : d.length ≤ 64) (hin : ∀ k, k < d.length → ∀ x ∈ d.getD k [], 0 ≤ x ∧ x < d.length) (hN : 1000 ≤ N) (v1 : Int) (v4 : Bool) {ov : SL} : ∀ (M k : Nat) (h : Heap) (S : Nat → SL), k ≤ d.length → d.length - k < M → Tbl B h0 h ov d.length S (eeR d d.length k 0) →
    (∃ h' S', f6_l1 N M v1 v4 s (d.length : Int) ov (k : Int) h = some (.exit 0, (v1, v4, s, (d.length : Int), ov, ()), h') ∧ Tbl B h0 h' ov d.length S' (eeR d d.length d.length 0) ∧ ∀ i, k ≤ i → i < d.length → (d.getD i []).length ≤ 64) ∨
    (∃ h' r, f6_l1 N M v1 v4 s (d.length : Int) ov (k : Int) h = some (.ret, (v1, true, r), h')) := by
  intro M
  induction M with
  | zero => intro k h S h1 h2; omega
  | succ M ih =>
    intro k h S h1 h2 ht
    rw [f6_l1_succ]
    unfold f6_l1_b
    by_cases hk : k < d.length
    · have ew : wrapA .i64 ((k : Int) + 1) = ((k + 1 : Nat) : Int) := wrapA_small (by omega) (by omega)
      have hrk := hr.keep ht.k
      have hrow := hrk.r.row k hk
      rw [hrk.r.top.sl (x := (k : Int)) (by omega) (by rw [hrk.r.len]; omega)]
      simp only [Int.ofNat_lt, hk, decide_true, cond_true, Int.toNat_natCast, Ints.len hrow, ltInt_dec, Int.ofNat_eq_natCast]
      by_cases hl : (d.getD k []).length ≤ 64
      · obtain ⟨h1', S1, e1, t1⟩ := f6_row (N := N) hr hlen hk hl (hin k hk) v1 v4 N 0 h S (by omega) (by omega) ht
        simp only [Int.ofNat_zero] at e1
        simp only [show ¬ (64 : Int) < ((d.getD k []).length : Int) by omega, decide_false, cond_false, e1, bind3_some, ew]
        rcases ih (k + 1) h1' S1 (by omega) (by omega) t1 with ⟨h2', S2, e2, t2, hx⟩ | ⟨h2', r, e2⟩
        · refine .inl ⟨h2', S2, e2, t2, fun i hi1 hi2 => ?_⟩
          by_cases hik : i = k
          · subst hik; exact hl
          · exact hx i (by omega) hi2
        · exact .inr ⟨h2', r, e2⟩
      · simp only [show (64 : Int) < ((d.getD k []).length : Int) by omega, decide_true, cond_true, f11, bind2_some]
        exact .inr ⟨_, _, rfl⟩
    · have : k = d.length := by omega
      subst this
      exact .inl ⟨h, S, by simp [nat_i], ht, fun i h3 h4 => by omega⟩
/-! plain: things by other names -/
def eeL (d : List (List Int)) : List (List Int) := (List.range d.length).map fun r => (d.getD (d.length - 1 - r) []).map (ren d.length)
theorem eeL_len : (eeL d).length = d.length := by simp [eeL]
theorem eeL_get {r : Nat} (hr : r < d.length) : (eeL d).getD r [] = (d.getD (d.length - 1 - r) []).map (ren d.length) := by
  rw [getD_lt _ _ (by rw [eeL_len]; exact hr)]; simp [eeL]
theorem eeL_fine (hf : Fine d) : Fine (eeL d) := by
  refine ⟨by rw [eeL_len]; exact hf.len, fun i hi => ?_, fun i hi x hx => ?_⟩
  · rw [eeL_len] at hi
    rw [eeL_get hi, List.length_map]
    exact hf.row _ (by omega)
  · rw [eeL_len] at hi ⊢
    rw [eeL_get hi] at hx
    obtain ⟨y, hy, rfl⟩ := List.mem_map.1 hx
    have := hf.inr _ (by omega) y hy
    unfold ren; omega
theorem eeL_mem (hf : Fine d) {i x : Int} (hi0 : 0 ≤ i) (hi1 : i < d.length) : x ∈ d.getD i.toNat [] ↔ (ren d.length x ∈ (eeL d).getD (ren d.length i).toNat []) := by
  have hr : (ren d.length i).toNat < d.length := by unfold ren; omega
  rw [eeL_get hr, show d.length - 1 - (ren d.length i).toNat = i.toNat by unfold ren; omega]
  constructor
  · intro h; exact List.mem_map.2 ⟨x, h, rfl⟩
  · intro h
    obtain ⟨y, hy, he⟩ := List.mem_map.1 h
    have : y = x := by unfold ren at he; omega
    exact this ▸ hy
theorem eeL_reach (hf : Fine d) {i x : Int} (hi0 : 0 ≤ i) (hi1 : i < d.length) (h : Reach d i x) : Reach (eeL d) (ren d.length i) (ren d.length x) := by
  induction h with
  | one h => exact .one ((eeL_mem hf hi0 hi1).1 h)
  | step h1 h2 ih =>
    have := h1.inr hf
    exact .step ih ((eeL_mem hf this.1 this.2).1 h2)
theorem ren_ren (n : Nat) (x : Int) : ren n (ren n x) = x := by unfold ren; omega
theorem eeL_reach' (hf : Fine d) {i x : Int} (hi0 : 0 ≤ i) (hi1 : i < d.length) (h : Reach (eeL d) i x) : Reach d (ren d.length i) (ren d.length x) := by
  have key : ∀ {i x : Int}, 0 ≤ i → i < d.length → x ∈ (eeL d).getD i.toNat [] → ren d.length x ∈ d.getD (ren d.length i).toNat [] := by
    intro i x h0 h1 hx
    have h2 : 0 ≤ ren d.length i ∧ ren d.length i < d.length := by unfold ren; omega
    rw [eeL_mem hf h2.1 h2.2, ren_ren, ren_ren]; exact hx
  induction h with
  | one h => exact .one (key hi0 hi1 h)
  | step h1 h2 ih =>
    have := h1.inr (eeL_fine hf)
    rw [eeL_len] at this
    exact .step ih (key this.1 this.2 h2)
theorem levels_ren (hf : Fine d) (ha : Acyclic d) {lv lv' : List Int} (h1 : Levels d lv) (h2 : Levels (eeL d) lv') : ∀ (m k : Nat), need' d (k : Int) ≤ m → k < d.length → lv.getD k 0 = lv'.getD (d.length - 1 - k) 0 := by
  have step : ∀ k : Nat, k < d.length → (∀ x ∈ d.getD k [], lv.getD x.toNat 0 = lv'.getD (d.length - 1 - x.toNat) 0) → lv.getD k 0 = lv'.getD (d.length - 1 - k) 0 := by
    intro k hk hx
    rw [h1.eq k hk, h2.eq _ (by rw [eeL_len]; omega), eeL_get (by omega), show d.length - 1 - (d.length - 1 - k) = k by omega]
    unfold lvOf
    rw [List.foldl_map]
    have : ∀ (r : List Int) (a : Int), (∀ x ∈ r, 0 ≤ x ∧ x < d.length ∧ lv.getD x.toNat 0 = lv'.getD (d.length - 1 - x.toNat) 0) →
        r.foldl (fun a k => if a < lv.getD k.toNat 0 + 1 then lv.getD k.toNat 0 + 1 else a) a = r.foldl (fun a k => if a < lv'.getD (ren d.length k).toNat 0 + 1 then lv'.getD (ren d.length k).toNat 0 + 1 else a) a := by
      intro r
      induction r with
      | nil => intro a _; rfl
      | cons x r ih =>
        intro a h
        obtain ⟨q1, q2, q3⟩ := h x (by simp)
        simp only [List.foldl_cons]
        rw [show (ren d.length x).toNat = d.length - 1 - x.toNat by unfold ren; omega, ← q3]
        exact ih _ fun y hy => h y (by simp [hy])
    exact this _ _ fun x hx' => ⟨(hf.inr k hk x hx').1, (hf.inr k hk x hx').2, hx x hx'⟩
  intro m
  induction m with
  | zero =>
    intro k hm hk
    refine step k hk fun x hx => ?_
    have := need_lt hf ha (i := (k : Int)) (k := x) (by simpa using hx)
    omega
  | succ m ih =>
    intro k hm hk
    refine step k hk fun x hx => ?_
    have h3 := need_lt hf ha (i := (k : Int)) (k := x) (by simpa using hx)
    have h4 := hf.inr k hk x hx
    exact ih x.toNat (by rw [show ((x.toNat : Nat) : Int) = x by omega]; omega) (by omega)
theorem acyclic_ren (hf : Fine d) (ha : Acyclic d) : Acyclic (eeL d) := by
  intro i hi
  have := hi.inr (eeL_fine hf)
  rw [eeL_len] at this
  exact ha _ (eeL_reach' hf this.1 this.2 hi)
/-- lists that rise, and have the same in them -/
theorem sorted_eq : ∀ {a b : List Int}, a.Pairwise (· < ·) → b.Pairwise (· < ·) → (∀ x, x ∈ a ↔ x ∈ b) → a = b
  | [], [], _, _, _ => rfl
  | [], y :: b, _, _, h => by have := (h y).2 (by simp); simp at this
  | x :: a, [], _, _, h => by have := (h x).1 (by simp); simp at this
  | x :: a, y :: b, ha, hb, h => by
    obtain ⟨ha1, ha2⟩ := List.pairwise_cons.1 ha
    obtain ⟨hb1, hb2⟩ := List.pairwise_cons.1 hb
    have hxy : x = y := by
      rcases List.mem_cons.1 ((h x).1 (by simp)) with e | e
      · exact e
      · rcases List.mem_cons.1 ((h y).2 (by simp)) with e2 | e2
        · exact e2.symm
        · have := hb1 x e; have := ha1 y e2; omega
    subst hxy
    rw [sorted_eq ha2 hb2 fun z => ?_]
    constructor
    · intro hz
      rcases List.mem_cons.1 ((h z).1 (by simp [hz])) with e | e
      · have := ha1 z hz; omega
      · exact e
    · intro hz
      rcases List.mem_cons.1 ((h z).2 (by simp [hz])) with e | e
      · have := hb1 z hz; omega
      · exact e
end Go.Proofs.Ythpplekbeecdfaa.Gb

open Go Go.Proofs.Ythpplekbeecdfaa.Ai Go.Proofs
namespace Go.Proofs.Ythpplekbeecdfaa.Gb
variable {N : Nat} {s : SL} {l : List Int} {ss : List SL} {d : List (List Int)} {B : Nat} {h0 : Heap}
theorem eql11 : binA E .eql 32 (.tmp 11) (.const .nilIface) AV.nilIface AV.nilIface = some (.bool true) := by kernel_rfl
theorem eql11e (v : AV) : binA E .eql 32 (.tmp 11) (.const .nilIface) (.iface 69 v) AV.nilIface = some (.bool false) := by kernel_rfl
theorem as69 (v : AV) : assertA E (.iface 69 v) 69 true = some (.tuple [v, .bool true]) := by kernel_rfl
theorem as71 (v : AV) : assertA E (.iface 71 v) 69 true = some (.tuple [.ptr none, .bool false]) := by kernel_rfl
theorem told_nil (h : Heap) : f23 N .nilIface h = some ((0, 0, ()), h) := by simp [f23, eql11]
theorem cast_pb {β : Type} (p : Option (Nat × Nat)) (b : Bool) (K : (Option (Nat × Nat) × Bool × Unit) → Option β) : (Ty.tup [(.one .ptr), (.one .bool)]).cast (.tuple [.ptr p, .bool b]) K = K (p, b, ()) := rfl
theorem told_err (hN : 1 ≤ N) {h : Heap} {v : AV} {c a : Int} (he : isErr h v c a) : f23 N v h = some ((c, a, ()), h) := by
  obtain ⟨A, rfl, h1, h2⟩ := he
  obtain ⟨M, rfl⟩ : ∃ M, N = M + 1 := ⟨N - 1, by omega⟩
  simp [f23, eql11e, as69, cast_pb, Heap.cell_g, h2, cellB_own, f23_l1_succ, f23_l1_b, ltInt_dec, as71]
/-- the levels' loop of the law -/
theorem f6_lev {h : Heap} {sa sb : SL} {a b : List Int} {n : Nat} (hn : n ≤ 64) (hal : a.length = n) (hbl : b.length = n) (ha : Ints h sa a) (hb : Ints h sb b) (hab : ∀ k, k < n → a.getD k 0 = b.getD (n - 1 - k) 0) (v1 : Int) (v4 : Bool) (v5 v8 : SL) : ∀ (M k : Nat), k ≤ n → n - k < M →
    f6_l3 N M v1 v4 v5 (n : Int) v8 sa sb (k : Int) h = some (.exit 4, (v1, v4, v5, (n : Int), v8, ()), h) := by
  intro M
  induction M with
  | zero => intro k h1 h2; omega
  | succ M ih =>
    intro k h1 h2
    rw [f6_l3_succ]
    unfold f6_l3_b
    by_cases hk : k < n
    · have ew : wrapA .i64 ((k : Int) + 1) = ((k + 1 : Nat) : Int) := wrapA_small (by omega) (by omega)
      have ew1 : wrapA .i64 ((n : Int) - 1) = (n : Int) - 1 := wrapA_small (by omega) (by omega)
      have ew2 : wrapA .i64 ((n : Int) - 1 - (k : Int)) = ((n - 1 - k : Nat) : Int) := by rw [wrapA_small (by omega) (by omega)]; omega
      rw [ha.int (x := (k : Int)) (by omega) (by omega)]
      simp only [Ints.len ha, hal, Int.ofNat_eq_natCast, nat_i, hk, decide_true, cond_true, ew1, ew2, Int.toNat_natCast]
      rw [hb.int (x := ((n - 1 - k : Nat) : Int)) (by omega) (by omega)]
      simp only [Int.toNat_natCast, hab k hk, eqInt_dec, decide_true, Bool.not_true, cond_false, ew]
      exact ih (k + 1) (by omega) (by omega)
    · have : k = n := by omega
      subst this
      simp [nat_i, Ints.len ha, hal]
/-- the last loop of the law -/
theorem f6_bel {h : Heap} {su sv : SL} {u v : List Int} {n : Nat} (hn : n ≤ 64) (hul : u.length ≤ 64) (hvl : v.length = u.length) (hu : Ints h su u) (hv : Ints h sv v) (huv : ∀ k, ∀ hk : k < u.length, v.getD (u.length - 1 - k) 0 = ren n u[k]) (hin : ∀ x ∈ u, 0 ≤ x ∧ x < n) (v4 : Bool) : ∀ (M k : Nat), k ≤ u.length → u.length - k < M →
    f6_l4 N M v4 (n : Int) su sv (k : Int) h = some (.exit 6, (v4, su, sv, ()), h) := by
  intro M
  induction M with
  | zero => intro k h1 h2; omega
  | succ M ih =>
    intro k h1 h2
    rw [f6_l4_succ]
    unfold f6_l4_b
    by_cases hk : k < u.length
    · have ew : wrapA .i64 ((k : Int) + 1) = ((k + 1 : Nat) : Int) := wrapA_small (by omega) (by omega)
      have hx := hin _ (List.getElem_mem hk)
      have ew1 : wrapA .i64 ((n : Int) - 1) = (n : Int) - 1 := wrapA_small (by omega) (by omega)
      have ew2 : wrapA .i64 ((n : Int) - 1 - u[k]) = ren n u[k] := wrapA_small (by omega) (by omega)
      have ew3 : wrapA .i64 ((u.length : Int) - 1) = (u.length : Int) - 1 := wrapA_small (by omega) (by omega)
      have ew4 : wrapA .i64 ((u.length : Int) - 1 - (k : Int)) = ((u.length - 1 - k : Nat) : Int) := by rw [wrapA_small (by omega) (by omega)]; omega
      have r1 : ∀ (K : Int → Option (Out × (Bool × SL × SL × Unit) × Heap)), (ixK su.a u.length (k : Int) 1 fun q => bindV (.val (.one (.int .i64))) (h.cell q) K) = K u[k] := fun K => by
        have := hu.int (x := (k : Int)) (by omega) (by omega) K
        rw [Ints.len hu] at this
        rw [this]; simp only [Int.toNat_natCast, getD_lt u 0 hk]
      have r2 : ∀ (K : Int → Option (Out × (Bool × SL × SL × Unit) × Heap)), (ixK sv.a u.length ((u.length - 1 - k : Nat) : Int) 1 fun q => bindV (.val (.one (.int .i64))) (h.cell q) K) = K (ren n u[k]) := fun K => by
        have := hv.int (x := ((u.length - 1 - k : Nat) : Int)) (by omega) (by omega) K
        rw [Ints.len hv, hvl] at this
        rw [this]; simp only [Int.toNat_natCast, huv k hk]
      simp only [Ints.len hu, Ints.len hv, hvl, Int.ofNat_eq_natCast, nat_i, hk, decide_true, cond_true, eqInt_dec, Bool.not_true, cond_false, ew3, ew4, r2, ew1, r1, ew2, ew]
      exact ih (k + 1) (by omega) (by omega)
    · have : k = u.length := by omega
      subst this
      simp [nat_i, Ints.len hu]
theorem Own1.lower {C : Nat} {h : Heap} {s : SL} {vs : List AV} (hl : B ≤ C) (hx : Own1 C h s vs) : Own1 B h s vs := by
  rcases hx with h1 | ⟨A, cs, st, h1, h2, h3, h4⟩
  · exact .inl h1
  · exact .inr ⟨A, cs, st, h1, h2, by omega, h4⟩
end Go.Proofs.Ythpplekbeecdfaa.Gb

open Go Go.Proofs.Ythpplekbeecdfaa.Ai Go.Proofs
namespace Go.Proofs.Ythpplekbeecdfaa.Gb
variable {N : Nat} {s : SL} {l : List Int} {ss : List SL} {d : List (List Int)} {B : Nat} {h0 : Heap}
theorem nth_rev {u : List Int} {f : Int → Int} {k : Nat} (hk : k < u.length) : ((u.map f).reverse).getD (u.length - 1 - k) 0 = f u[k] := by
  rw [getD_lt _ _ (by simp; omega), List.getElem_reverse]
  simp only [List.getElem_map, List.length_map]
  congr 2
  omega
theorem below_ren (hf : Fine d) {m : Int} (hm0 : 0 ≤ m) (hm1 : m < d.length) {u v : List Int} (hu : u.Pairwise (· < ·)) (hv : v.Pairwise (· < ·)) (mu : ∀ x, x ∈ u ↔ (0 ≤ x ∧ x < d.length ∧ Reach d m x)) (mv : ∀ x, x ∈ v ↔ (0 ≤ x ∧ x < (eeL d).length ∧ Reach (eeL d) (ren d.length m) x)) : v = (u.map (ren d.length)).reverse := by
  refine sorted_eq hv ?_ fun x => ?_
  · rw [List.pairwise_reverse, List.pairwise_map]
    exact hu.imp fun h => by unfold ren; omega
  · rw [mv, List.mem_reverse, List.mem_map, eeL_len]
    have hr : 0 ≤ ren d.length m ∧ ren d.length m < d.length := by unfold ren; omega
    constructor
    · rintro ⟨h1, h2, h3⟩
      refine ⟨ren d.length x, (mu _).2 ⟨by unfold ren; omega, by unfold ren; omega, ?_⟩, ren_ren _ _⟩
      have := eeL_reach' hf hr.1 hr.2 h3
      rwa [ren_ren] at this
    · rintro ⟨y, hy, rfl⟩
      obtain ⟨h1, h2, h3⟩ := (mu y).1 hy
      exact ⟨by unfold ren; omega, by unfold ren; omega, eeL_reach hf hm0 hm1 h3⟩
theorem tail_spec {h : Heap} {ov : SL} {ssE : List SL} (hf : Fine d) (hN : 1000 ≤ N) (hr : RowsB h.next h s ss d) (he : RowsB h.next h ov ssE (eeL d)) {m : Int} (hm0 : 0 ≤ m) (hm1 : m < d.length) (v4 : Bool) :
    ∃ su h1 sv h2, f12 N s m h = some (su, h1) ∧ f12 N ov (ren d.length m) h1 = some (sv, h2) ∧ f6_l4 N N v4 (d.length : Int) su sv 0 h2 = some (.exit 6, (v4, su, sv, ()), h2) ∧ su.len = sv.len := by
  have hlen := hf.len
  obtain ⟨su, h1, u, e1, k1, o1, l1, p1, m1⟩ := Below_spec (N := N) hr hf hN hm0 hm1
  have he1 : RowsB h1.next h1 ov ssE (eeL d) := (he.keep k1).mono k1.next
  obtain ⟨sv, h2, v, e2, k2, o2, l2, p2, m2⟩ := Below_spec (N := N) he1 (eeL_fine hf) hN (i := ren d.length m) (by unfold ren; omega) (by rw [eeL_len]; unfold ren; omega)
  have hv := below_ren hf hm0 hm1 p1 p2 m1 m2
  have hvl : v.length = u.length := by rw [hv]; simp
  have hu2 : Ints h2 su u := One.keep k2 o1.one.2.2.under o1.one
  have e3 := f6_bel (N := N) (n := d.length) hlen l1 hvl hu2 o2.one (fun k hk => by rw [hv]; exact nth_rev hk) (fun x hx => ⟨((m1 x).1 hx).1, ((m1 x).1 hx).2.1⟩) v4 N 0 (by omega) (by omega)
  simp only [Int.ofNat_zero] at e3
  refine ⟨su, h1, sv, h2, e1, e2, e3, ?_⟩
  rw [Ints.len hu2, Ints.len o2.one, hvl]
theorem app22z : E.zero 26 = some (.slice none 0 0 0) := by kernel_rfl
theorem renamed_law {h : Heap} (hr : RowsB h.next h s ss d) (i : Int) : ∃ h', f6 2000 s i h = some (true, h') := by
  rcases fit_spec (N := 2000) hr (by omega) with ⟨s', h1, ss', e1, k1, r1, hl⟩ | ⟨s', h1, e1⟩
  · have hlen : (fitL d (mOf d)).length = mOf d := fitL_len (by unfold mOf; omega)
    have hin : ∀ i, i < (fitL d (mOf d)).length → ∀ x ∈ (fitL d (mOf d)).getD i [], 0 ≤ x ∧ x < (fitL d (mOf d)).length := by
      intro i hi x hx
      have hm : mOf d ≤ d.length := by unfold mOf; omega
      unfold fitL at hx
      rw [getD_lt _ _ (by rw [List.length_map, List.length_take]; omega)] at hx
      simp only [List.getElem_map, List.mem_map] at hx
      obtain ⟨y, _, rfl⟩ := hx
      rw [hlen] at hi ⊢
      exact conv_in (by omega) y
    generalize hdd : fitL d (mOf d) = dd at *
    have hsl : s'.len = dd.length := r1.r.slen
    by_cases h0 : dd.length = 0
    · refine ⟨h1, ?_⟩
      simp [f6, e1, hsl, h0, eqInt_dec, f11]
    · by_cases h64 : dd.length ≤ 64
      · have hn64 : ¬ ((64 : Int) < (dd.length : Int)) := by omega
        obtain ⟨m1, m2⟩ := make1 app22 (.slice none 0 0 0) app22z rfl dd.length (by omega) h1
        generalize hH : h1.push (.row (List.replicate dd.length (.slice none 0 0 0)) .own) = H at *
        have kb : Keep h1.next h1 H := by rw [← hH]; exact (Keep.refl _ _).push (Nat.le_refl _) _
        have hHn : H.next = h1.next + 1 := by rw [← hH]; rfl
        have rH := r1.keep kb
        have t0 : Tbl h1.next H H ⟨some (h1.next, 0), dd.length, dd.length, 1⟩ dd.length (fun _ => nilS) (eeR dd dd.length 0 0) := by
          refine ⟨Keep.refl _ _, by omega, ?_, fun r hr' => ?_, fun r hr' A hA => by simp [SL.blk] at hA, fun r r' _ _ _ A hA => by simp [SL.blk] at hA⟩
          · have : ((List.range dd.length).map fun r => SL.av ((fun _ => nilS) r)) = List.replicate dd.length (.slice none 0 0 0) := by
              apply List.ext_getElem (by simp)
              intro i h1 h2; simp [SL.av]
            rw [this]; exact m2
          · have : eeR dd dd.length 0 0 r = [] := by unfold eeR; rw [if_neg (Nat.not_lt_zero _)]; split <;> simp
            rw [this]; exact Own1.nil _ _ _
        rcases f6_rows (N := 2000) rH h64 hin (by omega) i false 2000 0 H (fun _ => nilS) (by omega) (by omega) t0 with ⟨h3, S, e3, t3, hrows⟩ | ⟨h3, r, e3⟩
        · have hf : Fine dd := ⟨h64, fun i hi => hrows i (by omega) hi, hin⟩
          have r3 : RowsB h3.next h3 s' ss' dd := (rH.keep t3.k).mono (by have := t3.k.next; omega)
          have re3 : RowsB h3.next h3 ⟨some (h1.next, 0), dd.length, dd.length, 1⟩ ((List.range dd.length).map S) (eeL dd) := by
            refine ⟨⟨?_, by rw [eeL_len]; simp, fun r hr' => ?_⟩, t3.o.one.2.2.under, fun r hr' => ?_⟩
            · rw [List.map_map]; exact t3.o.one
            · rw [eeL_len] at hr'
              rw [getD_lt _ _ (by simpa using hr'), eeL_get hr']
              simp only [List.getElem_map, List.getElem_range]
              have := (t3.row r hr').one
              unfold eeR at this
              rw [if_pos (by omega)] at this
              exact this
            · rw [eeL_len] at hr'
              rw [getD_lt _ _ (by simpa using hr')]
              simp only [List.getElem_map, List.getElem_range]
              exact (t3.row r hr').one.2.2.under
          obtain ⟨c1, c2⟩ := conv_rem (m := dd.length) (by omega) (by omega) i
          have hc := conv_in (m := dd.length) (by omega) i
          have w1 : wrapA .i64 ((dd.length : Int) - 1) = (dd.length : Int) - 1 := wrapA_small (by omega) (by omega)
          have w2 : wrapA .i64 ((dd.length : Int) - 1 - conv dd.length i) = ren dd.length (conv dd.length i) := wrapA_small (by omega) (by omega)
          simp only [Int.ofNat_zero] at e3
          rcases Levels_spec (N := 2000) hf (by omega) r3 (Nat.le_refl _) with ⟨sa, h4, la, e4, k4, o4, ha, La⟩ | ⟨h4, va, ja, e4, k4, er4, hj1, hj2, _⟩
          · have r4 : RowsB h4.next h4 s' ss' dd := (r3.keep k4).mono k4.next
            have re4 := (re3.keep k4).mono k4.next
            rcases Levels_spec (N := 2000) (eeL_fine hf) (by omega) re4 (Nat.le_refl _) with ⟨sb, h5, lb, e5, k5, o5, hb, Lb⟩ | ⟨h5, vb, jb, e5, k5, er5, hj1, hj2, _⟩
            · have r5 : RowsB h5.next h5 s' ss' dd := (r4.keep k5).mono k5.next
              have re5 := (re4.keep k5).mono k5.next
              obtain ⟨su, h6, sv, h7, e6, e7, e8, hlen2⟩ := tail_spec (N := 2000) hf (by omega) r5 re5 hc.1 hc.2 false
              have oa5 : Ints h5 sa la := One.keep k5 o4.one.2.2.under o4.one
              have e9 := f6_lev (N := 2000) (n := dd.length) h64 La.len (by rw [Lb.len, eeL_len]) oa5 o5.one (fun k hk => levels_ren hf ha La Lb _ k (Nat.le_refl _) hk) i false s' ⟨some (h1.next, 0), dd.length, dd.length, 1⟩ 2000 0 (by omega) (by omega)
              simp only [Int.ofNat_zero] at e9
              have hla : sa.len = dd.length := by rw [Ints.len oa5, La.len]
              have hlb : sb.len = dd.length := by rw [Ints.len o5.one, Lb.len, eeL_len]
              refine ⟨h7, ?_⟩
              simp [f6, e1, hsl, h0, hn64, eqInt_dec, ltInt_dec, f11, m1, e3, e4, e5, told_nil, hla, hlb, e9, c1, c2, e6, w1, w2, e7, e8, hlen2]
            · exfalso
              exact acyclic_ren hf ha _ hj2
          · have r4 : RowsB h4.next h4 s' ss' dd := (r3.keep k4).mono k4.next
            have re4 := (re3.keep k4).mono k4.next
            rcases Levels_spec (N := 2000) (eeL_fine hf) (by omega) re4 (Nat.le_refl _) with ⟨sb, h5, lb, e5, k5, o5, hb, Lb⟩ | ⟨h5, vb, jb, e5, k5, er5, hj3, hj4, _⟩
            · exfalso
              exact hb _ (eeL_reach hf (by omega) (by omega) hj2)
            · have r5 : RowsB h5.next h5 s' ss' dd := (r4.keep k5).mono k5.next
              have re5 := (re4.keep k5).mono k5.next
              obtain ⟨su, h6, sv, h7, e6, e7, e8, hlen2⟩ := tail_spec (N := 2000) hf (by omega) r5 re5 hc.1 hc.2 false
              have t1 := told_err (N := 2000) (by omega) (er4.keep k5)
              have t2 := told_err (N := 2000) (by omega) er5
              have e9 : f6_l3 2000 2000 i false s' (dd.length : Int) ⟨some (h1.next, 0), dd.length, dd.length, 1⟩ nilS nilS 0 h5 = some (.exit 4, (i, false, s', (dd.length : Int), ⟨some (h1.next, 0), dd.length, dd.length, 1⟩, ()), h5) := by
                show f6_l3 2000 (1999 + 1) i false s' (dd.length : Int) ⟨some (h1.next, 0), dd.length, dd.length, 1⟩ nilS nilS 0 h5 = _
                rw [f6_l3_succ]; simp [f6_l3_b, ltInt_dec]
              refine ⟨h7, ?_⟩
              simp [f6, e1, hsl, h0, hn64, eqInt_dec, ltInt_dec, f11, m1, e3, e4, e5, t1, t2, e9, c1, c2, e6, w1, w2, e7, e8, hlen2]
        · simp only [Int.ofNat_zero] at e3
          refine ⟨h3, ?_⟩
          simp [f6, e1, hsl, h0, hn64, eqInt_dec, ltInt_dec, f11, m1, e3]
      · refine ⟨h1, ?_⟩
        have hn64 : (64 : Int) < (dd.length : Int) := by omega
        simp [f6, e1, hsl, hn64, eqInt_dec, ltInt_dec, f11, h0]
  · refine ⟨h1, ?_⟩
    simp [f6, e1, f11]
theorem renamed_true {H : Type} (h : Heap) (vs : List AV) (ds : List (DataW H)) (hr : RdArgs Try.prog h [22, 3] vs ds) : ∃ xs : vdens [.one .slice, .one (.int .i64)], ∃ h', VTy.tos _ xs = vs ∧ (fun (x : vdens [.one .slice, .one (.int .i64)]) h => f6 2000 x.1 x.2.1 h) xs h = some (true, h') := by
  obtain ⟨c0, d0, _, _, rfl, rfl, r0, hr⟩ := hr.cons_inv
  obtain ⟨c1, d1, _, _, rfl, rfl, r1, hr⟩ := hr.cons_inv
  obtain ⟨rfl, rfl⟩ := hr.nil_inv
  obtain ⟨s, ss, d, rfl, hrow⟩ := rows_of r0
  obtain ⟨n1, rfl, _⟩ := Rd.int_inv undP3 r1
  obtain ⟨h', e⟩ := renamed_law hrow n1
  refine ⟨(s, n1, ()), h', ?_, e⟩
  simp [VTy.tos, VTy.to, CTy.to, argOf, undP3, undP22]
end Go.Proofs.Ythpplekbeecdfaa.Gb

open Go Go.Proofs.Ythpplekbeecdfaa.Ai Go.Proofs
namespace Go.Proofs.Ythpplekbeecdfaa.Gb
variable {N : Nat} {s : SL} {l : List Int} {ss : List SL} {d : List (List Int)} {B : Nat} {h0 : Heap}
/-! plain: how far it is back -/
structure Bk (d : List (List Int)) (at' : Nat) (t i : Nat) (far : List Int) : Prop where
  len : far.length = d.length
  atz : far.getD at' (-1) = 0
  rng : ∀ k, -1 ≤ far.getD k (-1) ∧ far.getD k (-1) ≤ (if i = 0 then t else t + 1 : Nat)
  zero : ∀ k, far.getD k (-1) = 0 → k = at'
  stp : ∀ x, x < d.length → 0 < far.getD x (-1) → ∃ k ∈ d.getD x [], far.getD k.toNat (-1) = far.getD x (-1) - 1
  clo : ∀ x, x < d.length → ∀ k ∈ d.getD x [], 0 ≤ far.getD k.toNat (-1) → far.getD k.toNat (-1) < t → 0 ≤ far.getD x (-1)
  now : ∀ x, x < i → ∀ k ∈ d.getD x [], far.getD k.toNat (-1) = t → 0 ≤ far.getD x (-1)
theorem setg_ne (lv : List Int) {a k : Nat} (v : Int) (h : a ≠ k) : (lv.set a v).getD k (-1) = lv.getD k (-1) := by
  simp only [List.getD_eq_getElem?_getD, List.getElem?_set, h, if_false]
theorem setg_eq (lv : List Int) {a : Nat} (v : Int) (h : a < lv.length) : (lv.set a v).getD a (-1) = v := by
  simp [List.getD_eq_getElem?_getD, h]
theorem Bk.skip {at' t i : Nat} {far : List Int} (hb : Bk d at' t i far) (hi : i < d.length) (hno : ∀ k ∈ d.getD i [], far.getD k.toNat (-1) = t → 0 ≤ far.getD i (-1)) : Bk d at' t (i + 1) far :=
  ⟨hb.len, hb.atz, fun k => by have := hb.rng k; rw [if_neg (by omega)]; split at this <;> omega, hb.zero, hb.stp, hb.clo, fun x hx k hk he => by
    by_cases hxi : x = i
    · subst hxi; exact hno k hk he
    · exact hb.now x (by omega) k hk he⟩
theorem Bk.take {at' t i : Nat} {far : List Int} (hb : Bk d at' t i far) (hi : i < d.length) (hneg : far.getD i (-1) < 0) {k0 : Int} (hk0 : k0 ∈ d.getD i []) (he0 : far.getD k0.toNat (-1) = t) : Bk d at' t (i + 1) (far.set i ((t : Int) + 1)) := by
  have hil : i < far.length := by rw [hb.len]; exact hi
  have hfi : far.getD i (-1) = -1 := by have := hb.rng i; omega
  have get : ∀ k, (far.set i ((t : Int) + 1)).getD k (-1) = if k = i then (t : Int) + 1 else far.getD k (-1) := by
    intro k
    by_cases h : k = i
    · subst h; rw [if_pos rfl, setg_eq far _ hil]
    · rw [if_neg h, setg_ne far _ (fun e => h e.symm)]
  have nat : at' ≠ i := fun e => by subst e; have := hb.atz; omega
  refine ⟨by simp [hb.len], by rw [get, if_neg nat]; exact hb.atz, fun k => ?_, fun k hk => ?_, fun x hx hp => ?_, fun x hx k hk h1 h2 => ?_, fun x hx k hk h1 => ?_⟩
  · rw [get, if_neg (show ¬ i + 1 = 0 by omega)]
    have := hb.rng k
    split
    · omega
    · split at this <;> omega
  · rw [get] at hk
    split at hk
    · omega
    · exact hb.zero k hk
  · rw [get] at hp
    by_cases hxi : x = i
    · subst hxi
      refine ⟨k0, hk0, ?_⟩
      rw [get, get, if_pos rfl]
      have : k0.toNat ≠ x := fun e => by rw [e, hfi] at he0; omega
      rw [if_neg this, he0]; omega
    · rw [if_neg hxi] at hp
      obtain ⟨k, hk, hke⟩ := hb.stp x hx hp
      refine ⟨k, hk, ?_⟩
      rw [get, get, if_neg hxi]
      have : k.toNat ≠ i := fun e => by rw [e, hfi] at hke; omega
      rw [if_neg this]; exact hke
  · rw [get] at h1 h2 ⊢
    by_cases hki : k.toNat = i
    · rw [if_pos hki] at h2; omega
    · rw [if_neg hki] at h1 h2
      have := hb.clo x hx k hk h1 h2
      split
      · omega
      · exact this
  · rw [get] at h1 ⊢
    by_cases hki : k.toNat = i
    · rw [if_pos hki] at h1; omega
    · rw [if_neg hki] at h1
      by_cases hxi : x = i
      · rw [if_pos hxi]; omega
      · rw [if_neg hxi]
        exact hb.now x (by omega) k hk h1
theorem Bk.round {at' t : Nat} {far : List Int} (hb : Bk d at' t d.length far) (hd : 0 < d.length) : Bk d at' (t + 1) 0 far := by
  refine ⟨hb.len, hb.atz, fun k => ?_, hb.zero, hb.stp, fun x hx k hk h1 h2 => ?_, fun x hx => by omega⟩
  · have := hb.rng k
    rw [if_neg (by omega)] at this
    rw [if_pos rfl]; exact this
  · by_cases he : far.getD k.toNat (-1) = t
    · exact hb.now x hx k hk he
    · exact hb.clo x hx k hk h1 (by omega)
/-- things that are all unlike, in a range, are no more than it has -/
theorem nodup_len {n : Nat} : ∀ (l : List Int), l.Nodup → (∀ x ∈ l, 0 ≤ x ∧ x < n) → ∃ dn : List Bool, dn.length = n ∧ dn.count true = l.length ∧ ∀ x : Int, 0 ≤ x → x < n → (dn.getD x.toNat false = true ↔ x ∈ l)
  | [], _, _ => ⟨List.replicate n false, by simp, by rw [count_rep]; rfl, fun x _ _ => by
      simp [List.getD_eq_getElem?_getD, List.getElem?_replicate]
      split <;> simp⟩
  | y :: r, hnd, hin => by
    obtain ⟨h1, h2⟩ := List.nodup_cons.1 hnd
    obtain ⟨dn, h3, h4, h5⟩ := nodup_len r h2 fun x hx => hin x (by simp [hx])
    have hy := hin y (by simp)
    have hyl : y.toNat < dn.length := by omega
    have hf : dn.getD y.toNat false = false := by
      cases h : dn.getD y.toNat false with
      | false => rfl
      | true => exact absurd ((h5 y hy.1 hy.2).1 h) h1
    refine ⟨dn.set y.toNat true, by simp [h3], by rw [count_set_b _ _ hyl hf, h4]; simp, fun x hx0 hx1 => ?_⟩
    rw [getD_set_b _ _ _ hyl, h5 x hx0 hx1, List.mem_cons]
    constructor
    · rintro (h | h)
      · exact .inr h
      · left; omega
    · rintro (h | h)
      · right; rw [h]
      · exact .inl h
theorem nodup_le {n : Nat} {l : List Int} (h1 : l.Nodup) (h2 : ∀ x ∈ l, 0 ≤ x ∧ x < n) : l.length ≤ n := by
  obtain ⟨dn, h3, h4, _⟩ := nodup_len l h1 h2
  have := List.count_le_length (a := true) (l := dn)
  omega
theorem Bk.chain (hf : Fine d) {at' t i : Nat} {far : List Int} (hb : Bk d at' t i far) (hat : at' < d.length) : ∀ (f : Nat) (x : Nat), x < d.length → far.getD x (-1) = f → ∃ l : List Int, l.Nodup ∧ l.length = f + 1 ∧ (∀ y ∈ l, 0 ≤ y ∧ y < d.length ∧ far.getD y.toNat (-1) ≤ f)
  | 0, x, hx, hfx => ⟨[(x : Int)], by simp, rfl, fun y hy => by
      rcases List.mem_singleton.1 hy with rfl
      simp only [Int.toNat_natCast]; omega⟩
  | f + 1, x, hx, hfx => by
    obtain ⟨k, hk, hke⟩ := hb.stp x hx (by omega)
    have hkin := hf.inr x hx k hk
    obtain ⟨l, h1, h2, h3⟩ := Bk.chain hf hb hat f k.toNat (by omega) (by omega)
    refine ⟨(x : Int) :: l, List.nodup_cons.2 ⟨fun hm => ?_, h1⟩, by simp [h2], fun y hy => ?_⟩
    · have := (h3 _ hm).2.2
      simp only [Int.toNat_natCast] at this
      omega
    · rcases List.mem_cons.1 hy with rfl | hy
      · simp only [Int.toNat_natCast]; omega
      · have := h3 y hy; omega
/-- what is known of the ways back -/
structure Far (d : List (List Int)) (at' : Nat) (far : List Int) : Prop where
  len : far.length = d.length
  atz : far.getD at' (-1) = 0
  lo : ∀ k, -1 ≤ far.getD k (-1)
  hi : ∀ k, far.getD k (-1) < d.length
  zero : ∀ k, far.getD k (-1) = 0 → k = at'
  stp : ∀ x, x < d.length → 0 < far.getD x (-1) → ∃ k ∈ d.getD x [], far.getD k.toNat (-1) = far.getD x (-1) - 1
  clo : ∀ x, x < d.length → ∀ k ∈ d.getD x [], 0 ≤ far.getD k.toNat (-1) → 0 ≤ far.getD x (-1)
theorem Bk.far (hf : Fine d) {at' : Nat} {far : List Int} (hat : at' < d.length) (hb : Bk d at' d.length 0 far) : Far d at' far := by
  have hlt : ∀ k, far.getD k (-1) < d.length := by
    intro k
    rcases Nat.lt_or_ge k d.length with hk | hk
    · have h1 := hb.rng k
      by_cases h2 : 0 ≤ far.getD k (-1)
      · obtain ⟨l, q1, q2, q3⟩ := hb.chain hf hat (far.getD k (-1)).toNat k hk (by omega)
        have := nodup_le q1 (n := d.length) (fun y hy => ⟨(q3 y hy).1, (q3 y hy).2.1⟩)
        omega
      · omega
    · have : far.getD k (-1) = -1 := by rw [List.getD_eq_getElem?_getD, List.getElem?_eq_none (by rw [hb.len]; exact hk)]; rfl
      omega
  exact ⟨hb.len, hb.atz, fun k => (hb.rng k).1, hlt, hb.zero, hb.stp, fun x hx k hk h1 => hb.clo x hx k hk h1 (hlt _)⟩
theorem Far.reach {at' : Nat} (hf : Fine d) {far : List Int} (hr : Far d at' far) {x y : Int} (h : Reach d x y) : 0 ≤ x → x < d.length → 0 ≤ far.getD y.toNat (-1) → 0 ≤ far.getD x.toNat (-1) := by
  induction h with
  | one h => intro h1 h2 h3; exact hr.clo _ (by omega) _ h h3
  | @step y k h1 h2 ih =>
    intro h3 h4 h5
    have := h1.inr hf
    exact ih h3 h4 (hr.clo _ (by omega) _ h2 h5)
end Go.Proofs.Ythpplekbeecdfaa.Gb

open Go Go.Proofs.Ythpplekbeecdfaa.Ai Go.Proofs
namespace Go.Proofs.Ythpplekbeecdfaa.Gb
variable {N : Nat} {s : SL} {l : List Int} {ss : List SL} {d : List (List Int)} {B : Nat} {h0 : Heap}
/-! the program's ways back -/
theorem back_init (v0 : SL) (v1 : Int) {sv : SL} {n : Nat} (hn : n ≤ 1000) : ∀ (M i : Nat) (h : Heap), i ≤ n → n - i < M → Keep B h0 h → B ≤ h0.next → Own1 B h sv ((List.replicate i (-1 : Int) ++ List.replicate (n - i) 0).map (AV.int .i64)) →
    ∃ h', f44_l1 N M v0 v1 sv (n : Int) (i : Int) h = some (.exit 0, (v0, v1, sv, ()), h') ∧ Keep B h0 h' ∧ Own1 B h' sv ((List.replicate n (-1 : Int)).map (AV.int .i64)) := by
  intro M
  induction M with
  | zero => intro i h h1 h2; omega
  | succ M ih =>
    intro i h h1 h2 hk hb0 ho
    rw [f44_l1_succ]
    unfold f44_l1_b
    by_cases hi : i < n
    · have ew : wrapA .i64 ((i : Int) + 1) = ((i + 1 : Nat) : Int) := wrapA_small (by omega) (by omega)
      obtain ⟨h1', e1, o1, b1, n1⟩ := store_own1 ho (i := i) (by simp; omega) (AV.int .i64 (-1))
      simp only [nat_i, hi, decide_true, cond_true]
      rw [ho.one.ixz (x := (i : Int)) (by omega) (by simp; omega)]
      simp only [Int.toNat_natCast, e1, need_some, ew]
      have hnx := hk.next
      refine ih (i + 1) h1' (by omega) (by omega) (hk.trans (b1.keep (by omega) (fun A hA => (ho.ge A hA).1))) hb0 ?_
      rw [← List.map_set] at o1
      have : (List.replicate i (-1 : Int) ++ List.replicate (n - i) 0).set i (-1) = List.replicate (i + 1) (-1 : Int) ++ List.replicate (n - (i + 1)) 0 := by
        rw [List.set_append_right _ _ (by simp), List.length_replicate, Nat.sub_self, show n - i = (n - (i + 1)) + 1 by omega, List.replicate_succ, List.set_cons_zero, List.replicate_succ', List.append_assoc]
        rfl
      rw [this] at o1; exact o1
    · have : i = n := by omega
      subst this
      exact ⟨h, by simp [nat_i], hk, by simpa using ho⟩
theorem back_row (hr : RowsB B h0 s ss d) (hf : Fine d) {sv : SL} {at' t i : Nat} (hi : i < d.length) (ht : t ≤ 64) : ∀ (M j : Nat) (h : Heap) (far : List Int), j ≤ (d.getD i []).length → (d.getD i []).length - j < M → Keep B h0 h → B ≤ h0.next → Own1 B h sv (far.map (AV.int .i64)) → Bk d at' t i far → (∀ k ∈ (d.getD i []).take j, far.getD k.toNat (-1) = t → 0 ≤ far.getD i (-1)) →
    ∃ h' far', f44_l4 N M s sv (t : Int) (i : Int) s (d.length : Int) (i : Int) (ss.getD i nilS) ((d.getD i []).length : Int) (j : Int) h = some (.exit 6, (s, sv, (t : Int), s, (d.length : Int), (i : Int), ()), h') ∧ Keep B h0 h' ∧ Own1 B h' sv (List.map (AV.int .i64) far') ∧ Bk d at' t (i + 1) far' := by
  intro M
  induction M with
  | zero => intro j h far h1 h2; omega
  | succ M ih =>
    intro j h far h1 h2 hk hb0 ho hb hpre
    rw [f44_l4_succ]
    unfold f44_l4_b
    have hrow := (hr.keep hk).r.row i hi
    have hlen := hf.len
    have hil : i < far.length := by rw [hb.len]; exact hi
    by_cases hj : j < (d.getD i []).length
    · have ew : wrapA .i64 ((j : Int) + 1) = ((j + 1 : Nat) : Int) := wrapA_small (by omega) (by have := hf.row i hi; omega)
      have hg := getD_lt (d.getD i []) 0 hj
      have hx := hf.inr i hi _ (List.getElem_mem hj)
      have tk : (d.getD i []).take (j + 1) = (d.getD i []).take j ++ [(d.getD i [])[j]] := List.take_succ_eq_append_getElem hj
      have gf : ∀ {x : Int}, 0 ≤ x → x < d.length → far.getD x.toNat 0 = far.getD x.toNat (-1) := fun h1 h2 => by
        rw [getD_lt _ _ (by rw [hb.len]; omega), getD_lt _ _ (by rw [hb.len]; omega)]
      rw [hrow.int (x := (j : Int)) (by omega) (by omega)]
      simp only [nat_i, hj, decide_true, cond_true, Int.toNat_natCast, hg]
      have gi := gf (x := (i : Int)) (by omega) (by omega)
      simp only [Int.toNat_natCast] at gi
      rw [ho.one.int (x := (i : Int)) (by omega) (by omega)]
      simp only [Int.toNat_natCast, gi, ltInt_dec]
      by_cases hneg : far.getD i (-1) < 0
      · simp only [hneg, decide_true, cond_true]
        rw [ho.one.int (x := (d.getD i [])[j]) hx.1 (by rw [hb.len]; omega)]
        simp only [gf hx.1 hx.2, eqInt_dec]
        by_cases he : far.getD (d.getD i [])[j].toNat (-1) = t
        · have ew2 : wrapA .i64 ((t : Int) + 1) = (t : Int) + 1 := wrapA_small (by omega) (by omega)
          obtain ⟨h1', e1, o1, b1, n1⟩ := store_own1 ho (i := i) (by simpa using hil) (AV.int .i64 ((t : Int) + 1))
          have hb2 := hb.take hi hneg (List.getElem_mem hj) he
          simp only [he, decide_true, cond_true, ew2]
          rw [ho.one.ixz (x := (i : Int)) (by omega) (by rw [List.length_map]; omega)]
          simp only [Int.toNat_natCast, e1, need_some, ew]
          have hnx := hk.next
          -- from here on the row changes nothing
          have rest : ∀ (M j : Nat) (h : Heap), j ≤ (d.getD i []).length → (d.getD i []).length - j < M → Keep B h0 h → Own1 B h sv ((far.set i ((t : Int) + 1)).map (AV.int .i64)) →
              f44_l4 N M s sv (t : Int) (i : Int) s (d.length : Int) (i : Int) (ss.getD i nilS) ((d.getD i []).length : Int) (j : Int) h = some (.exit 6, (s, sv, (t : Int), s, (d.length : Int), (i : Int), ()), h) := by
            intro M
            induction M with
            | zero => intro j h h1 h2; omega
            | succ M ih2 =>
              intro j h h1 h2 hk2 ho2
              rw [f44_l4_succ]
              unfold f44_l4_b
              by_cases hj : j < (d.getD i []).length
              · have ew : wrapA .i64 ((j : Int) + 1) = ((j + 1 : Nat) : Int) := wrapA_small (by omega) (by have := hf.row i hi; omega)
                have gi2 : (far.set i ((t : Int) + 1)).getD i 0 = (t : Int) + 1 := by rw [getD_lt _ _ (by simpa using hil)]; simp
                rw [((hr.keep hk2).r.row i hi).int (x := (j : Int)) (by omega) (by omega)]
                simp only [nat_i, hj, decide_true, cond_true]
                rw [ho2.one.int (x := (i : Int)) (by omega) (by simp; omega)]
                simp only [Int.toNat_natCast, gi2, ltInt_dec, show ¬ ((t : Int) + 1 < 0) by omega, decide_false, cond_false, ew]
                exact ih2 (j + 1) h (by omega) (by omega) hk2 ho2
              · have : j = (d.getD i []).length := by omega
                subst this
                simp [nat_i]
          rw [← List.map_set] at o1
          have kk := hk.trans (b1.keep (by omega) (fun A hA => (ho.ge A hA).1))
          exact ⟨h1', _, rest M (j + 1) h1' (by omega) (by omega) kk o1, kk, o1, hb2⟩
        · simp only [he, decide_false, cond_false, ew]
          refine ih (j + 1) h far (by omega) (by omega) hk hb0 ho hb fun k hk2 hke => ?_
          rw [tk] at hk2
          rcases List.mem_append.1 hk2 with h3 | h3
          · exact hpre k h3 hke
          · rw [List.mem_singleton.1 h3] at hke; exact absurd hke he
      · simp only [hneg, decide_false, cond_false, ew]
        exact ih (j + 1) h far (by omega) (by omega) hk hb0 ho hb fun _ _ _ => by omega
    · have : j = (d.getD i []).length := by omega
      subst this
      rw [List.take_length] at hpre
      exact ⟨h, far, by simp [nat_i], hk, ho, hb.skip hi hpre⟩
theorem back_round (hr : RowsB B h0 s ss d) (hf : Fine d) (hN : 1000 ≤ N) {sv : SL} {at' t : Nat} (ht : t ≤ 64) : ∀ (M i : Nat) (h : Heap) (far : List Int), i ≤ d.length → d.length - i < M → Keep B h0 h → B ≤ h0.next → Own1 B h sv (far.map (AV.int .i64)) → Bk d at' t i far →
    ∃ h' far', f44_l3 N M s sv (t : Int) s (d.length : Int) (i : Int) h = some (.exit 4, (s, sv, (t : Int), ()), h') ∧ Keep B h0 h' ∧ Own1 B h' sv (List.map (AV.int .i64) far') ∧ Bk d at' t d.length far' := by
  intro M
  induction M with
  | zero => intro i h far h1 h2; omega
  | succ M ih =>
    intro i h far h1 h2 hk hb0 ho hb
    rw [f44_l3_succ]
    unfold f44_l3_b
    have hlen := hf.len
    by_cases hi : i < d.length
    · have ew : wrapA .i64 ((i : Int) + 1) = ((i + 1 : Nat) : Int) := wrapA_small (by omega) (by omega)
      have hrk := hr.keep hk
      have hrow := hrk.r.row i hi
      obtain ⟨h1', far1, e1, k1, o1, b1⟩ := back_row (N := N) hr hf (sv := sv) hi ht N 0 h far (by omega) (by have := hf.row i hi; omega) hk hb0 ho hb (fun k hk => by simp at hk)
      simp only [Int.ofNat_zero] at e1
      rw [hrk.r.top.sl (x := (i : Int)) (by omega) (by rw [hrk.r.len]; omega)]
      simp only [nat_i, hi, decide_true, cond_true, Int.toNat_natCast, Ints.len hrow, Int.ofNat_eq_natCast, e1, bind3_some, ew]
      exact ih (i + 1) h1' far1 (by omega) (by omega) k1 hb0 o1 b1
    · have : i = d.length := by omega
      subst this
      exact ⟨h, far, by simp [nat_i], hk, ho, hb⟩
theorem back_rounds (hr : RowsB B h0 s ss d) (hf : Fine d) (hN : 1000 ≤ N) (hd : 0 < d.length) {sv : SL} {at' : Nat} : ∀ (M t : Nat) (h : Heap) (far : List Int), t ≤ d.length → d.length - t < M → Keep B h0 h → B ≤ h0.next → Own1 B h sv (far.map (AV.int .i64)) → Bk d at' t 0 far →
    ∃ h' far', f44_l2 N M s sv (t : Int) h = some (.exit 2, (sv, ()), h') ∧ Keep B h0 h' ∧ Own1 B h' sv (List.map (AV.int .i64) far') ∧ Bk d at' d.length 0 far' := by
  intro M
  induction M with
  | zero => intro t h far h1 h2; omega
  | succ M ih =>
    intro t h far h1 h2 hk hb0 ho hb
    rw [f44_l2_succ]
    unfold f44_l2_b
    have hlen := hf.len
    by_cases ht : t < d.length
    · have ew : wrapA .i64 ((t : Int) + 1) = ((t + 1 : Nat) : Int) := wrapA_small (by omega) (by omega)
      obtain ⟨h1', far1, e1, k1, o1, b1⟩ := back_round (N := N) hr hf hN (sv := sv) (at' := at') (t := t) (by omega) N 0 h far (by omega) (by omega) hk hb0 ho hb
      simp only [Int.ofNat_zero] at e1
      simp only [hr.r.slen, Int.ofNat_eq_natCast, nat_i, ht, decide_true, cond_true, e1, bind3_some, ew]
      exact ih (t + 1) h1' far1 (by omega) (by omega) k1 hb0 o1 (b1.round hd)
    · have : t = d.length := by omega
      subst this
      exact ⟨h, far, by simp [nat_i, hr.r.slen], hk, ho, hb⟩
theorem back_spec {h : Heap} (hr : RowsB h.next h s ss d) (hf : Fine d) (hN : 1000 ≤ N) {at' : Nat} (hat : at' < d.length) :
    ∃ s' h' far, f44 N s (at' : Int) h = some (s', h') ∧ Keep h.next h h' ∧ Own1 h.next h' s' (List.map (AV.int .i64) far) ∧ Far d at' far := by
  have hlen := hf.len
  obtain ⟨m1, m2⟩ := make1 app26 (.int .i64 0) app26z rfl d.length (by omega) h
  generalize hH : h.push (.row (List.replicate d.length (.int .i64 0)) .own) = H at *
  have kb : Keep h.next h H := by rw [← hH]; exact (Keep.refl _ _).push (Nat.le_refl _) _
  have hHn : H.next = h.next + 1 := by rw [← hH]; rfl
  have rH := hr.keep kb
  obtain ⟨h1, e1, k1, o1⟩ := back_init (N := N) (B := h.next) (h0 := H) s (at' : Int) (sv := ⟨some (h.next, 0), d.length, d.length, 1⟩) (n := d.length) (by omega) N 0 H (by omega) (by omega) (Keep.refl _ _) (by omega) (by simpa using m2)
  obtain ⟨h2, e2, o2, b2, n2⟩ := store_own1 o1 (i := at') (by simp; exact hat) (AV.int .i64 0)
  have hnx := k1.next
  have k2 : Keep h.next H h2 := k1.trans (b2.keep (by omega) (fun A hA => (o1.ge A hA).1))
  rw [← List.map_set] at o2
  have hget : ∀ k, ((List.replicate d.length (-1 : Int)).set at' 0).getD k (-1) = if k = at' then 0 else -1 := by
    intro k
    by_cases h : k = at'
    · subst h; rw [if_pos rfl, setg_eq _ _ (by simpa using hat)]
    · rw [if_neg h, setg_ne _ _ (fun e => h e.symm)]
      simp [List.getD_eq_getElem?_getD, List.getElem?_replicate]
      split <;> rfl
  have hb : Bk d at' 0 0 ((List.replicate d.length (-1 : Int)).set at' 0) := by
    refine ⟨by simp, by rw [hget, if_pos rfl], fun k => ?_, fun k hk => ?_, fun x hx hp => ?_, fun x hx k hk h1 h2 => ?_, fun x hx => by omega⟩
    · rw [hget]; split <;> simp
    · rw [hget] at hk; split at hk
      · assumption
      · omega
    · rw [hget] at hp; split at hp <;> omega
    · omega
  obtain ⟨h3, far, e3, k3, o3, b3⟩ := back_rounds (N := N) rH hf hN (by omega) (sv := ⟨some (h.next, 0), d.length, d.length, 1⟩) N 0 h2 _ (by omega) (by omega) k2 (by omega) o2 hb
  refine ⟨⟨some (h.next, 0), d.length, d.length, 1⟩, h3, far, ?_, kb.trans k3, o3, b3.far hf hat⟩
  simp only [Int.ofNat_zero] at e1 e3
  unfold f44
  simp only [hr.r.slen, Int.ofNat_eq_natCast, m1, bindT_some, cast_slice, e1, bind3_some]
  rw [show (ixK (some (h.next, 0)) d.length (at' : Int) 1) = ixK (⟨some (h.next, 0), d.length, d.length, 1⟩ : SL).a (⟨some (h.next, 0), d.length, d.length, 1⟩ : SL).len (at' : Int) 1 from rfl]
  rw [o1.one.ixz (x := (at' : Int)) (by omega) (by simp; omega)]
  simp only [Int.toNat_natCast, e2, need_some, e3, bind3_some]
end Go.Proofs.Ythpplekbeecdfaa.Gb

open Go Go.Proofs.Ythpplekbeecdfaa.Ai Go.Proofs
namespace Go.Proofs.Ythpplekbeecdfaa.Gb
variable {N : Nat} {s : SL} {l : List Int} {ss : List SL} {d : List (List Int)} {B : Nat} {h0 : Heap}
/-- the best of some -/
def Best (far : List Int) (r : List Int) (y : Int) : Prop :=
  (y = -1 ∧ ∀ k ∈ r, far.getD k.toNat (-1) < 0) ∨ (y ∈ r ∧ 0 ≤ far.getD y.toNat (-1) ∧ ∀ k ∈ r, 0 ≤ far.getD k.toNat (-1) → far.getD y.toNat (-1) < far.getD k.toNat (-1) ∨ (far.getD y.toNat (-1) = far.getD k.toNat (-1) ∧ y ≤ k))
theorem choose_loop {h : Heap} (hs : Ints h s l) (hl : l.length ≤ 64) {fs : SL} {far : List Int} (hfar : Ints h fs far) (hin : ∀ x ∈ l, 0 ≤ x ∧ x < far.length) (v0 v2 v5 v26 : SL) (v3 : Int) : ∀ (M i : Nat) (y : Int), i ≤ l.length → l.length - i < M → Best far (l.take i) y →
    ∃ y', f20_l2 N M v0 v2 v3 fs v5 y s (l.length : Int) (i : Int) h = some (.exit 2, (v0, v2, v3, fs, v5, y', ()), h) ∧ Best far l y' := by
  intro M
  induction M with
  | zero => intro i y h1 h2; omega
  | succ M ih =>
    intro i y h1 h2 hb
    rw [f20_l2_succ]
    unfold f20_l2_b
    by_cases hi : i < l.length
    · have ew : wrapA .i64 ((i : Int) + 1) = ((i + 1 : Nat) : Int) := wrapA_small (by omega) (by omega)
      have hg := getD_lt l 0 hi
      have hx := hin _ (List.getElem_mem hi)
      have tk : l.take (i + 1) = l.take i ++ [l[i]] := List.take_succ_eq_append_getElem hi
      have gf : ∀ {x : Int}, 0 ≤ x → x < far.length → far.getD x.toNat 0 = far.getD x.toNat (-1) := fun h1 h2 => by
        rw [getD_lt _ _ (by omega), getD_lt _ _ (by omega)]
      rw [hs.int (x := (i : Int)) (by omega) (by omega)]
      simp only [nat_i, hi, decide_true, cond_true, Int.toNat_natCast, hg]
      rw [hfar.int (x := l[i]) hx.1 hx.2]
      simp only [gf hx.1 hx.2, leInt_dec]
      by_cases h0 : 0 ≤ far.getD l[i].toNat (-1)
      · simp only [h0, decide_true, cond_true, ltInt_dec]
        rcases hb with ⟨rfl, hb⟩ | ⟨hy, hy0, hb⟩
        · simp only [show ((-1 : Int) < 0) by omega, decide_true, cond_true, ew]
          refine ih (i + 1) l[i] (by omega) (by omega) (.inr ⟨by rw [tk]; exact List.mem_append_right _ (List.mem_singleton_self _), h0, fun k hk hk0 => ?_⟩)
          rw [tk] at hk
          rcases List.mem_append.1 hk with h3 | h3
          · have := hb k h3; omega
          · rw [List.mem_singleton.1 h3]; exact .inr ⟨rfl, Int.le_refl _⟩
        · have hyin := hin y (List.mem_of_mem_take hy)
          simp only [show ¬ (y < 0) by omega, decide_false, cond_false]
          rw [hfar.int (x := l[i]) hx.1 hx.2, hfar.int (x := y) hyin.1 hyin.2]
          simp only [gf hx.1 hx.2, gf hyin.1 hyin.2]
          by_cases hlt : far.getD l[i].toNat (-1) < far.getD y.toNat (-1)
          · simp only [hlt, decide_true, cond_true, ew]
            refine ih (i + 1) l[i] (by omega) (by omega) (.inr ⟨by rw [tk]; exact List.mem_append_right _ (List.mem_singleton_self _), h0, fun k hk hk0 => ?_⟩)
            rw [tk] at hk
            rcases List.mem_append.1 hk with h3 | h3
            · have := hb k h3 hk0; omega
            · rw [List.mem_singleton.1 h3]; exact .inr ⟨rfl, Int.le_refl _⟩
          · simp only [hlt, decide_false, cond_false]
            rw [hfar.int (x := l[i]) hx.1 hx.2, hfar.int (x := y) hyin.1 hyin.2]
            simp only [gf hx.1 hx.2, gf hyin.1 hyin.2, eqInt_dec]
            have keepY : (far.getD y.toNat (-1) < far.getD l[i].toNat (-1) ∨ (far.getD y.toNat (-1) = far.getD l[i].toNat (-1) ∧ y ≤ l[i])) → Best far (l.take (i + 1)) y := by
              intro hc
              refine .inr ⟨by rw [tk]; exact List.mem_append_left _ hy, hy0, fun k hk hk0 => ?_⟩
              rw [tk] at hk
              rcases List.mem_append.1 hk with h3 | h3
              · exact hb k h3 hk0
              · rw [List.mem_singleton.1 h3]; exact hc
            by_cases heq : far.getD l[i].toNat (-1) = far.getD y.toNat (-1)
            · simp only [heq, decide_true, cond_true]
              by_cases hky : l[i] < y
              · simp only [hky, decide_true, cond_true, ew]
                refine ih (i + 1) l[i] (by omega) (by omega) (.inr ⟨by rw [tk]; exact List.mem_append_right _ (List.mem_singleton_self _), h0, fun k hk hk0 => ?_⟩)
                rw [tk] at hk
                rcases List.mem_append.1 hk with h3 | h3
                · have := hb k h3 hk0; omega
                · rw [List.mem_singleton.1 h3]; exact .inr ⟨rfl, Int.le_refl _⟩
              · simp only [hky, decide_false, cond_false, ew]
                exact ih (i + 1) y (by omega) (by omega) (keepY (.inr ⟨heq.symm, by omega⟩))
            · simp only [heq, decide_false, cond_false, ew]
              exact ih (i + 1) y (by omega) (by omega) (keepY (.inl (by omega)))
      · simp only [h0, decide_false, cond_false, ew]
        refine ih (i + 1) y (by omega) (by omega) ?_
        rcases hb with ⟨rfl, hb⟩ | ⟨hy, hy0, hb⟩
        · refine .inl ⟨rfl, fun k hk => ?_⟩
          rw [tk] at hk
          rcases List.mem_append.1 hk with h3 | h3
          · exact hb k h3
          · rw [List.mem_singleton.1 h3]; omega
        · refine .inr ⟨by rw [tk]; exact List.mem_append_left _ hy, hy0, fun k hk hk0 => ?_⟩
          rw [tk] at hk
          rcases List.mem_append.1 hk with h3 | h3
          · exact hb k h3 hk0
          · rw [List.mem_singleton.1 h3] at hk0; omega
    · have : i = l.length := by omega
      subst this
      rw [List.take_length] at hb
      exact ⟨y, by simp [nat_i], hb⟩
/-- a way round, as far as it has come -/
structure Ch (d : List (List Int)) (at' : Nat) (far : List Int) (r : List Int) (x : Int) : Prop where
  fst : ∃ r', r = (at' : Int) :: r'
  last : ∃ r', r = r' ++ [x]
  chain : ∀ i, ∀ hi : i + 1 < r.length, r[i + 1] ∈ d.getD (r[i]).toNat []
  inr : ∀ y ∈ r, 0 ≤ y ∧ y < d.length
  pos : ∀ i, ∀ hi : i < r.length, 0 < i → 0 < far.getD (r[i]).toNat (-1)
  dec : ∀ i j, ∀ hj : j < r.length, ∀ hij : i < j, 0 < i → far.getD (r[j]).toNat (-1) < far.getD (r[i]).toNat (-1)
theorem Ch.next {at' : Nat} {far r : List Int} {x y : Int} (hf : Fine d) (hr : Far d at' far) (hc : Ch d at' far r x) (hy : y ∈ d.getD x.toNat []) (hy0 : 0 ≤ far.getD y.toNat (-1)) (hlt : x ≠ at' → far.getD y.toNat (-1) < far.getD x.toNat (-1)) (hne : y ≠ at') (hone : x = at' → r = [(at' : Int)]) : Ch d at' far (r ++ [y]) y := by
  obtain ⟨r1, h1⟩ := hc.fst
  obtain ⟨r2, h2⟩ := hc.last
  have hxin := hc.inr x (by rw [h2]; simp)
  have hyin := hf.inr x.toNat (by omega) y hy
  have hlen : r.length = r2.length + 1 := by rw [h2]; simp
  have hlast : ∀ (h : r.length - 1 < r.length), r[r.length - 1] = x := by
    intro h
    have : r[r.length - 1]? = some x := by rw [h2]; simp
    rw [List.getElem?_eq_getElem h] at this
    simpa using this
  have hpos : 0 < far.getD y.toNat (-1) := by
    rcases Int.lt_or_eq_of_le hy0 with h | h
    · exact h
    · have := hr.zero y.toNat h.symm; omega
  refine ⟨⟨r1 ++ [y], by rw [h1]; rfl⟩, ⟨r, rfl⟩, fun i hi => ?_, fun z hz => ?_, fun i hi h0 => ?_, fun i j hj hij h0 => ?_⟩
  · simp only [List.length_append, List.length_singleton] at hi
    by_cases h3 : i + 1 < r.length
    · rw [List.getElem_append_left h3, List.getElem_append_left (by omega)]; exact hc.chain i h3
    · have hi2 : i = r.length - 1 := by omega
      subst hi2
      have g1 : r.length ≤ r.length - 1 + 1 := by omega
      have g2 : r.length - 1 < r.length := by omega
      rw [List.getElem_append_right g1, List.getElem_append_left g2]
      rw [hlast g2]
      simpa [show r.length - 1 + 1 - r.length = 0 by omega] using hy
  · rcases List.mem_append.1 hz with h | h
    · exact hc.inr z h
    · rw [List.mem_singleton.1 h]; exact hyin
  · simp only [List.length_append, List.length_singleton] at hi
    by_cases h3 : i < r.length
    · rw [List.getElem_append_left h3]; exact hc.pos i h3 h0
    · have g1 : r.length ≤ i := by omega
      rw [List.getElem_append_right g1]
      simpa [show i - r.length = 0 by omega] using hpos
  · simp only [List.length_append, List.length_singleton] at hj
    by_cases h3 : j < r.length
    · have g1 : i < r.length := by omega
      rw [List.getElem_append_left h3, List.getElem_append_left g1]; exact hc.dec i j h3 hij h0
    · have g1 : r.length ≤ j := by omega
      have g2 : i < r.length := by omega
      rw [List.getElem_append_right g1, List.getElem_append_left g2]
      simp only [show j - r.length = 0 by omega, List.getElem_cons_zero]
      have hxat : x ≠ at' := fun e => by
        have hl1 : r.length = 1 := by rw [hone e]; rfl
        omega
      have h4 := hlt hxat
      by_cases h5 : i = r.length - 1
      · subst h5; rw [hlast (by omega)]; exact h4
      · have := hc.dec i (r.length - 1) (by omega) (by omega) h0
        rw [hlast (by omega)] at this
        omega
/-- a ring -/
structure Rg (d : List (List Int)) (at' : Nat) (r : List Int) : Prop where
  fst : ∃ r', r = (at' : Int) :: r'
  len : r.length ≤ d.length
  chain : ∀ i, ∀ hi : i + 1 < r.length, r[i + 1] ∈ d.getD (r[i]).toNat []
  shut : ∀ h : r.length - 1 < r.length, (at' : Int) ∈ d.getD (r[r.length - 1]).toNat []
  inr : ∀ y ∈ r, 0 ≤ y ∧ y < d.length
theorem Ch.nodup {at' : Nat} {far r : List Int} {x : Int} (hr : Far d at' far) (hc : Ch d at' far r x) : r.Nodup := by
  rw [List.nodup_iff_pairwise_ne, List.pairwise_iff_getElem]
  intro i j hi hj hij e
  obtain ⟨r1, h1⟩ := hc.fst
  have hz : ∀ h : 0 < r.length, r[0] = (at' : Int) := by
    intro h
    have : r[0]? = some (at' : Int) := by rw [h1]; rfl
    rw [List.getElem?_eq_getElem h] at this
    simpa using this
  have hp := hc.pos j hj (by omega)
  by_cases h0 : i = 0
  · subst h0
    rw [← e, hz (by omega)] at hp
    simp only [Int.toNat_natCast, hr.atz] at hp
    omega
  · have := hc.dec i j hj hij (by omega)
    rw [e] at this
    omega
theorem Ch.ring {at' : Nat} {far r : List Int} {x : Int} (hr : Far d at' far) (hc : Ch d at' far r x) (hs : (at' : Int) ∈ d.getD x.toNat []) : Rg d at' r := by
  obtain ⟨r2, h2⟩ := hc.last
  refine ⟨hc.fst, nodup_le (hc.nodup hr) hc.inr, hc.chain, fun h => ?_, hc.inr⟩
  have : r[r.length - 1]? = some x := by rw [h2]; simp
  rw [List.getElem?_eq_getElem h] at this
  simp at this
  rw [this]; exact hs
theorem ring_loop (hr : RowsB B h0 s ss d) (hf : Fine d) (hN : 1000 ≤ N) (hb0 : B ≤ h0.next) {fs : SL} {far : List Int} (hfs : Ints h0 fs far) (hfu : fs.under B) {at' : Nat} (hat : at' < d.length) (hfar : Far d at' far) (hring : Reach d (at' : Int) (at' : Int)) (v2 : SL) : ∀ (M : Nat) (h : Heap) (rs : SL) (r : List Int) (x : Int), (if x = at' then d.length else (far.getD x.toNat (-1)).toNat) < M → Keep B h0 h → Own1 B h rs (r.map (AV.int .i64)) → Ch d at' far r x → (x = at' → r = [(at' : Int)]) →
    ∃ h' rs' r', f20_l1 N M s v2 (at' : Int) fs rs x h = some (.ret, (rs', ()), h') ∧ Keep B h0 h' ∧ Own1 B h' rs' (List.map (AV.int .i64) r') ∧ Rg d at' r' := by
  intro M
  induction M with
  | zero => intro h rs r x h1; omega
  | succ M ih =>
    intro h rs r x h1 hk ho hc hone
    rw [f20_l1_succ]
    unfold f20_l1_b
    have hlen := hf.len
    obtain ⟨r2, h2⟩ := hc.last
    have hx := hc.inr x (by rw [h2]; simp)
    have hxl : x.toNat < d.length := by omega
    have hrk := hr.keep hk
    have hrow := hrk.r.row x.toNat hxl
    have hrl := hf.row x.toNat hxl
    have hnx := hk.next
    obtain ⟨y, e1, hb⟩ := choose_loop (N := N) hrow (by omega) (One.keep hk hfu hfs) (fun k hk => by rw [hfar.len]; exact hf.inr _ hxl k hk) s v2 rs (ss.getD x.toNat nilS) (at' : Int) N 0 (-1) (by omega) (by omega) (.inl ⟨rfl, fun k hk => by simp at hk⟩)
    simp only [Int.ofNat_zero] at e1
    -- there is a way on
    have hon : ∃ k ∈ d.getD x.toNat [], 0 ≤ far.getD k.toNat (-1) ∧ (x ≠ at' → far.getD k.toNat (-1) < far.getD x.toNat (-1)) := by
      by_cases hxa : x = at'
      · subst hxa
        have key : ∀ {y : Int}, Reach d (at' : Int) y → 0 ≤ far.getD y.toNat (-1) → ∃ k ∈ d.getD ((at' : Int)).toNat [], 0 ≤ far.getD k.toNat (-1) := by
          intro y hy
          induction hy with
          | one h => intro h0; exact ⟨_, h, h0⟩
          | step h3 h4 ih =>
            intro h0
            have := h3.inr hf
            exact ih (hfar.clo _ (by omega) _ h4 h0)
        obtain ⟨k, hk1, hk2⟩ := key hring (by rw [Int.toNat_natCast, hfar.atz]; exact Int.le_refl _)
        exact ⟨k, hk1, hk2, fun h => absurd rfl h⟩
      · have hp : 0 < far.getD x.toNat (-1) := by
          obtain ⟨r1, h3⟩ := hc.fst
          have hrl : 1 < r.length := by
            rcases Nat.lt_or_ge 1 r.length with h | h
            · exact h
            · exfalso
              have : r2 = [] := by
                have := congrArg List.length h2
                simp at this
                exact List.eq_nil_of_length_eq_zero (by omega)
              rw [this] at h2
              rw [h2] at h3
              simp at h3
              exact hxa h3.1
          have h4 := hc.pos (r.length - 1) (by omega) (by omega)
          have h5 : r[r.length - 1]? = some x := by rw [h2]; simp
          rw [List.getElem?_eq_getElem (by omega)] at h5
          simp at h5
          rw [h5] at h4; exact h4
        obtain ⟨k, hk1, hk2⟩ := hfar.stp x.toNat hxl hp
        exact ⟨k, hk1, by omega, fun _ => by omega⟩
    obtain ⟨k0, hk0, hk1, hk2⟩ := hon
    rcases hb with ⟨rfl, hb⟩ | ⟨hy, hy0, hb⟩
    · have := hb k0 hk0; omega
    · have hyin := hf.inr _ hxl y hy
      have hyk := hb k0 hk0 hk1
      have hylt : x ≠ at' → far.getD y.toNat (-1) < far.getD x.toNat (-1) := fun h => by have := hk2 h; omega
      rw [hrk.r.top.sl (x := x) hx.1 (by rw [hrk.r.len]; omega)]
      simp only [Ints.len hrow, Int.ofNat_eq_natCast, e1, bind3_some, eqInt_dec]
      by_cases hya : y = at'
      · subst hya
        simp only [decide_true, cond_true]
        exact ⟨h, rs, r, rfl, hk, ho, hc.ring hfar hy⟩
      · simp only [hya, decide_false, cond_false, ltInt_dec, show ¬ y < 0 by omega]
        have hrlen : r.length ≤ d.length := nodup_le (hc.nodup hfar) hc.inr
        obtain ⟨rs', h1', e2, o2, b2, c2⟩ := append_own1 app26 (v := AV.int .i64 y) rfl ho (by omega) (by simp; omega)
        rw [e2]
        simp only [bindT_some, cast_slice]
        have hc2 := hc.next hf hfar hy hy0 hylt hya hone
        refine ih h1' rs' (r ++ [y]) y ?_ (hk.trans (b2.keep (by omega) (fun A hA => (ho.ge A hA).1))) (by rw [List.map_append]; exact o2) hc2 (fun e => absurd e hya)
        rw [if_neg hya]
        have h3 := hfar.hi y.toNat
        by_cases hxa : x = at'
        · rw [if_pos hxa] at h1; omega
        · rw [if_neg hxa] at h1
          have := hylt hxa
          omega
theorem nn11 : binA E .neq 32 (.tmp 11) (.const .nilIface) AV.nilIface AV.nilIface = some (.bool false) := by kernel_rfl
/-- a ring, where there is one -/
theorem Ring_spec {h : Heap} (hf : Fine d) (hN : 1000 ≤ N) (hr : RowsB h.next h s ss d) :
    (∃ h', f20 N s h = some (nilS, h') ∧ Keep h.next h h' ∧ Acyclic d) ∨
    (∃ (h' : Heap) (s' : SL) (r : List Int) (j : Nat), f20 N s h = some (s', h') ∧ Keep h.next h h' ∧ Own1 h.next h' s' (r.map (AV.int .i64)) ∧ j < d.length ∧ Reach d (j : Int) (j : Int) ∧ (∀ k : Nat, k < j → ¬ Reach d (k : Int) (k : Int)) ∧ Rg d j r) := by
  have hm := may_spec (N := N) hr.r hf (by omega)
  have hlen := hf.len
  rcases ringed_loop (N := N) hf hN N 0 h (by omega) (by omega) hr (Nat.le_refl _) (fun j hj => by omega) with ⟨h', e, k, ha⟩ | ⟨h1, j, e, k1, hj1, hj2, hj3⟩
  · left
    simp only [Int.ofNat_zero] at e
    refine ⟨h', ?_, k, acyclic_of hf ha⟩
    simp [f20, hm, nn11, f43, hr.r.slen, e, ltInt_dec]
  · right
    simp only [Int.ofNat_zero] at e
    have r1 : RowsB h1.next h1 s ss d := (hr.keep k1).mono k1.next
    obtain ⟨fs, h2, far, e2, k2, o2, hfar⟩ := back_spec (N := N) r1 hf hN hj1
    have r2 : RowsB h2.next h2 s ss d := (r1.keep k2).mono k2.next
    generalize hH : h2.push (.row [.int .i64 j] .own) = H
    have kb : Keep h2.next h2 H := by rw [← hH]; exact (Keep.refl _ _).push (Nat.le_refl _) _
    have hHn : H.next = h2.next + 1 := by rw [← hH]; rfl
    have hch : Ch d j far [(j : Int)] (j : Int) := by
      refine ⟨⟨[], rfl⟩, ⟨[], rfl⟩, fun i hi => by simp at hi, fun y hy => ?_, fun i hi h0 => by simp at hi; omega, fun a b hb hab h0 => by simp at hb; omega⟩
      rw [List.mem_singleton.1 hy]; omega
    obtain ⟨h3, rs, r, e3, k3, o3, hrg⟩ := ring_loop (N := N) (B := h2.next) (h0 := H) (r2.keep kb) hf hN (by omega) (One.keep kb o2.one.2.2.under o2.one) o2.one.2.2.under hj1 hfar hj2 nilS N H ⟨some (h2.next, 0), 1, 1, 1⟩ [(j : Int)] (j : Int) (by rw [if_pos rfl]; omega) (Keep.refl _ _) (.inr ⟨h2.next, [.int .i64 j], .own, rfl, rfl, Nat.le_refl _, by omega, by rw [← hH]; exact g_push_eq _ rfl, rfl, by simp, by simp, by simp, .inr ⟨rfl, rfl⟩⟩) hch (fun _ => rfl)
    have hn1 := k1.next
    have hn2 := k2.next
    refine ⟨h3, rs, r, j, ?_, (k1.trans (k2.mono (by omega))).trans ((kb.trans k3).mono (by omega)), Own1.lower (by omega) o3, hj1, hj2, hj3, hrg⟩
    have e3' : f20_l1 N N s ⟨none, 0, 0, 0⟩ (j : Int) fs ⟨some (h2.next, 0), 1, 1, 1⟩ (j : Int) H = some (.ret, (rs, ()), h3) := e3
    have hj0 : ¬ ((j : Int) < 0) := by omega
    simp only [f20, hm, nn11, f43, hr.r.slen, e, ltInt_dec, e2, hH, e3', bind2_some, bindV_some, cast_bool, cond_false, bind3_some, eqOut_ret, Int.ofNat_eq_natCast, hj0, decide_false]
end Go.Proofs.Ythpplekbeecdfaa.Gb
