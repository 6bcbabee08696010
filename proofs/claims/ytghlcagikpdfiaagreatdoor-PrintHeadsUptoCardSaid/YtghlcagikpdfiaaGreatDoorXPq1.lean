import Derived.Shelf.Strings.OnBuilder
import Derived.Shelf.LaysM
import Derived.Test.YtghlcagikpdfiaaGreatDoorProg
import Derived.Test.YtghlcagikpdfiaaGreatDoorAi3
import Derived.Laws.Externs
import Derived.Test.YtghlcagikpdfiaaGreatDoorRows
/- Functions of the program as plain functions, and what they come to; part 1. -/
set_option linter.unusedVariables false
set_option linter.unusedSimpArgs false
namespace Go.Proofs
open Go.Shelf
def Tryz.lays156_ren : Go.Shelf.Ren := ⟨fun | 156 => 30 | 165 => 43 | 166 => 39 | 169 => 26 | 240 => 57 | 241 => 65 | 276 => 79 | 277 => 86 | n => n, fun | 31 => 35 | 9 => 9 | 3 => 3 | 4 => 4 | 0 => 0 | 20 => 20 | 72 => 57 | 76 => 92 | 70 => 54 | 37 => 55 | 75 => 29 | 127 => 96 | 164 => 117 | 5 => 5 | 80 => 68 | n => n, fun | n => n⟩
theorem Tryz.lays156 : Go.Proofs.Lays.n156 Tryz.prog Tryz.lays156_ren := {
  mixed := by kernel_rfl
  f156 := Tryz.func30.trans (congrArg some (by kernel_rfl))
  f165 := Tryz.func43.trans (congrArg some (by kernel_rfl))
  f166 := Tryz.func39.trans (congrArg some (by kernel_rfl))
  f169 := Tryz.func26.trans (congrArg some (by kernel_rfl))
  f240 := Tryz.func57.trans (congrArg some (by kernel_rfl))
  f241 := Tryz.func65.trans (congrArg some (by kernel_rfl))
  f276 := Tryz.func79.trans (congrArg some (by kernel_rfl))
  f277 := Tryz.func86.trans (congrArg some (by kernel_rfl))
  t0 := Tryz.underlying0
  a0 := Tryz.isAgg0
  z0 := Tryz.sizeOf0
  v0 := Tryz.zeroValue0
  t3 := Tryz.underlying3
  a3 := Tryz.isAgg3
  z3 := Tryz.sizeOf3
  v3 := Tryz.zeroValue3
  t4 := Tryz.underlying4
  a4 := Tryz.isAgg4
  z4 := Tryz.sizeOf4
  v4 := Tryz.zeroValue4
  t9 := Tryz.underlying9
  a9 := Tryz.isAgg9
  z9 := Tryz.sizeOf9
  v9 := Tryz.zeroValue9
  t20 := Tryz.underlying20
  a20 := Tryz.isAgg20
  z20 := Tryz.sizeOf20
  v20 := Tryz.zeroValue20
  t31 := Tryz.underlying35
  a31 := Tryz.isAgg35
  z31 := Tryz.sizeOf35
  v31 := Tryz.zeroValue35
  t37 := Tryz.underlying55
  a37 := Tryz.isAgg55
  z37 := Tryz.sizeOf55
  v37 := Tryz.zeroValue55
  t70 := Tryz.underlying54
  a70 := Tryz.isAgg54
  z70 := Tryz.sizeOf54
  v70 := Tryz.zeroValue54
  t72 := Tryz.underlying57
  a72 := Tryz.isAgg57
  z72 := Tryz.sizeOf57
  v72 := Tryz.zeroValue57
  t75 := Tryz.underlying29
  a75 := Tryz.isAgg29
  z75 := Tryz.sizeOf29
  v75 := Tryz.zeroValue29
  t76 := Tryz.underlying92
  a76 := Tryz.isAgg92
  z76 := Tryz.sizeOf92
  v76 := Tryz.zeroValue92
  t127 := Tryz.underlying96
  a127 := Tryz.isAgg96
  z127 := Tryz.sizeOf96
  v127 := Tryz.zeroValue96
  t164 := Tryz.underlying117
  a164 := Tryz.isAgg117
  z164 := Tryz.sizeOf117
  v164 := Tryz.zeroValue117 }
theorem Tryz.Builder_Extra_156 : Builder.Extra Tryz.prog Tryz.lays156_ren := {
  sizeBuilder := by kernel_rfl
  liesBuilder := by kernel_rfl
  t5 := Tryz.underlying5
  a5 := Tryz.isAgg5
  z5 := Tryz.sizeOf5
  v5 := Tryz.zeroValue5
  infoByte := by kernel_rfl
  cellsByte := by kernel_rfl
  sizeByte := by kernel_rfl
  neB5 := by decide }
open Go.RowKit in
theorem Tryz.strings_Join_none (a : Option Addr) (c : Nat) (sep : ByteArray) (w : World) :
    Calls Tryz.prog 30 #[.slice a 0 c, .string sep] w fun e w' => e = .returned (.string ⟨#[]⟩) ∧ w' = w := Any.strings_Join_none Tryz.lays156 Tryz.Builder_Extra_156 a c sep w
open Go.RowKit in
theorem Tryz.strings_Join (bk o c : Nat) (xs : List ByteArray) (sep : ByteArray) (w : World) (hcells : ∀ (j : Nat) x, xs[j]? = some x → w.cell? ⟨bk, o + j, none⟩ = some (.string x)) (hbk : bk < w.heap.size) (hN : xs.length ≤ 140737488355328) (hcap : xs.length ≤ c) (hlen : (Lib.join (xs.map (·.data.toList)) sep.data.toList).length ≤ 140737488355328) :
    Calls Tryz.prog 30 #[.slice (some ⟨bk, o, none⟩) xs.length c, .string sep] w fun e w' => e = .returned (.string ⟨(Lib.join (xs.map (·.data.toList)) sep.data.toList).toArray⟩) ∧ Below w.heap.size w w' := Any.strings_Join Tryz.lays156 Tryz.Builder_Extra_156 bk o c xs sep w hcells hbk hN hcap hlen
end Go.Proofs

open Go Go.Proofs.YtghlcagikpdfiaaGreatDoor.Ai Go.Proofs
open Go.RowKit (Below)
namespace Go.Proofs.YtghlcagikpdfiaaGreatDoor.Np
/-! strings.Join, by the library's contract -/
def strsOf : List AV → Option (List (List UInt8))
  | [] => some []
  | .str s :: r => match strsOf r with
    | some l => some (s :: l)
    | none => none
  | _ :: _ => none
def joinL : List (List UInt8) → List UInt8 → List UInt8
  | [], _ => []
  | [x], _ => x
  | x :: y :: r, sep => x ++ (sep ++ joinL (y :: r) sep)
theorem joinL_eq : ∀ (l : List (List UInt8)) (sep : List UInt8), joinL l sep = Lib.join l sep
  | [], sep => rfl
  | [x], sep => (Lib.join_one x sep).symm
  | x :: y :: r, sep => by
    rw [Lib.join_cons]
    show x ++ (sep ++ joinL (y :: r) sep) = _
    rw [joinL_eq (y :: r) sep, Lib.join_cons]
    simp [Lib.joinTail]
def joinF (s : SL) (sep : List UInt8) (h : Heap) : Option (List UInt8 × Heap) :=
  bif Nat.beq s.len 0 then some ([], h) else
  match s.a with
  | some (A, off) => bif Nat.ble s.len s.cap then
      match h.read A off s.len with
      | some vs => match strsOf vs with
        | some xs => bif Nat.ble xs.length 140737488355328 && Nat.ble (joinL xs sep).length 140737488355328 then some (joinL xs sep, h) else none
        | none => none
      | none => none
    else none
  | none => none
def joinN : List AV → Heap → Option (AV × Heap)
  | [.slice a l c z, .str sep], h => match joinF ⟨a, l, c, z⟩ sep h with
    | some (s, h') => some (.str s, h')
    | none => none
  | _, _ => none
theorem strsOf_vrs {μ : Mu} : ∀ {vs : List AV} {xs : List (List UInt8)} {ys : List Value}, strsOf vs = some xs → VRs μ vs ys → ys = xs.map fun s => .string ⟨s.toArray⟩
  | [], xs, ys, h, hv => by simp [strsOf] at h; subst h; simpa [VRs] using hv
  | v :: r, xs, ys, h, hv => by
    cases v with
    | str s =>
      simp only [strsOf] at h
      cases hr : strsOf r with
      | none => simp [hr] at h
      | some l =>
        simp only [hr, Option.some.injEq] at h
        subst h
        simp only [VRs, VR] at hv
        obtain ⟨y, ys', rfl, rfl, h2⟩ := hv
        rw [strsOf_vrs hr h2]; rfl
    | _ => simp [strsOf] at h
theorem env0 : EnvOK (envOf Tryz.prog [] noNative) Tryz.prog := envOf_ok (by kernel_rfl) (by kernel_rfl)
theorem join_ok {s : SL} {sep r : List UInt8} {h h' : Heap} (hx : joinF s sep h = some (r, h')) {μ : Mu} {w : World} {args' : Array Value} (hr : HR μ h w) (hv : VRs μ [.slice s.a s.len s.cap s.sz, .str sep] args'.toList) :
    (callFunc 30 args').run Tryz.prog w = .ok (.enter 30 args') w ∧ Calls Tryz.prog 30 args' w fun e w' => ∃ u, e = .returned u ∧ Post μ h w (.str r) h' u w' := by
  refine ⟨enter_of env0 (fn := Tryz.f30) (by kernel_rfl) (by kernel_rfl) _ _, ?_⟩
  simp only [VRs] at hv
  obtain ⟨y, ys, e1, hy, y2, ys2, e2, hy2, e3⟩ := hv
  subst e2 e3
  simp only [VR] at hy2
  subst hy2
  have ea : args' = #[y, .string ⟨sep.toArray⟩] := by rw [← Array.toList_inj, e1]
  subst ea
  unfold joinF at hx
  cases hb : Nat.beq s.len 0 with
  | true =>
    simp only [hb, cond_true, Option.some.injEq, Prod.mk.injEq] at hx
    obtain ⟨rfl, rfl⟩ := hx
    have hl : s.len = 0 := Nat.eq_of_beq_eq_true hb
    have : ∃ a c, y = .slice a 0 c := by
      cases ha : s.a with
      | none => rw [ha] at hy; simp only [VR] at hy; exact ⟨none, 0, hy.1⟩
      | some q =>
        obtain ⟨A, off⟩ := q
        rw [ha] at hy; simp only [VR] at hy
        obtain ⟨l, a', cap', _, h2, _⟩ := hy
        exact ⟨some a', cap', by rw [h2, hl]⟩
    obtain ⟨a, c, rfl⟩ := this
    refine (Tryz.strings_Join_none a c ⟨sep.toArray⟩ w).mono ?_
    rintro e w' ⟨rfl, rfl⟩
    exact ⟨_, rfl, μ, by simp [VR], hr, Ext.refl μ h w'⟩
  | false =>
    simp only [hb, cond_false] at hx
    cases ha : s.a with
    | none => simp [ha] at hx
    | some q =>
      obtain ⟨A, off⟩ := q
      simp only [ha] at hx
      cases hc : Nat.ble s.len s.cap with
      | false => simp [hc] at hx
      | true =>
        simp only [hc, cond_true] at hx
        cases hrd : h.read A off s.len with
        | none => simp [hrd] at hx
        | some vs =>
          simp only [hrd] at hx
          cases hst : strsOf vs with
          | none => simp [hst] at hx
          | some xs =>
            simp only [hst] at hx
            cases hbd : Nat.ble xs.length 140737488355328 && Nat.ble (joinL xs sep).length 140737488355328 with
            | false => simp [hbd] at hx
            | true =>
              simp only [hbd, cond_true, Option.some.injEq, Prod.mk.injEq] at hx
              obtain ⟨rfl, rfl⟩ := hx
              simp only [Bool.and_eq_true, Nat.ble_eq] at hbd hc
              rw [ha] at hy; simp only [VR] at hy
              obtain ⟨l, a', cap', hA, rfl, h3, h4⟩ := hy
              have hpos : 0 < s.len := by
                rcases Nat.eq_zero_or_pos s.len with h0 | h0
                · rw [h0] at hb; cases hb
                · exact h0
              rcases h4 with ⟨h4, _⟩ | ⟨rfl, h5, h6, h7⟩
              · omega
              · obtain ⟨ys, _, h8, h9, h10⟩ := hr.read (P := Tryz.prog) hA hrd
                have h11 := strsOf_vrs hst h9
                have hxl : xs.length = s.len := by rw [← h8, h11, List.length_map]
                have hmap : (xs.map (fun s => (⟨s.toArray⟩ : ByteArray))).map (·.data.toList) = xs := by
                  rw [List.map_map]; simp [Function.comp_def]
                have := Tryz.strings_Join l.b (l.sh + off) cap' (xs.map fun s => ⟨s.toArray⟩) ⟨sep.toArray⟩ w (fun j x hj => by
                    refine h10 j _ ?_
                    rw [h11]
                    rw [List.getElem?_map] at hj ⊢
                    cases hq : xs[j]? with
                    | none => rw [hq] at hj; simp at hj
                    | some z => rw [hq] at hj; simp only [Option.map_some, Option.some.injEq] at hj ⊢; rw [hj])
                  (hr.dom A l hA).2 (by rw [List.length_map]; exact hbd.1) (by rw [List.length_map]; omega) (by rw [hmap]; rw [← joinL_eq]; exact hbd.2)
                rw [List.length_map, hxl, hmap] at this
                refine this.mono ?_
                rintro e w' ⟨rfl, hbel⟩
                refine ⟨_, rfl, μ, ?_, hr.below hbel, Ext.of_below hbel⟩
                simp only [VR]
                rw [joinL_eq]
/-! abi.NoEscape, an extern function: what it is given -/
def escN : List AV → Heap → Option (AV × Heap)
  | [.ptr a], h => some (.ptr a, h)
  | _, _ => none
theorem esc_ok {args : List AV} {v : AV} {h h' : Heap} (hx : escN args h = some (v, h')) {μ : Mu} {w : World} {args' : Array Value} (hr : HR μ h w) (hv : VRs μ args args'.toList) :
    ∃ u w', (callFunc 79 args').run Tryz.prog w = .ok (.value u) w' ∧ Post μ h w v h' u w' := by
  unfold escN at hx
  split at hx
  · simp only [Option.some.injEq, Prod.mk.injEq] at hx
    obtain ⟨rfl, rfl⟩ := hx
    simp only [VRs] at hv
    obtain ⟨y1, ys1, e1, hy, rfl⟩ := hv
    have ea : args' = #[y1] := by rw [← Array.toList_inj, e1]
    subst ea
    refine ⟨y1, w, ?_, μ, hy, hr, Ext.refl μ _ w⟩
    have h1 := @run_callFunc_extern Tryz.prog 79 _ Extern.AbiNoEscape.same Tryz.func79 (by kernel_rfl) (by kernel_rfl) (by kernel_rfl) (by kernel_rfl) #[y1] w
    rw [h1]
    rfl
  · cases hx
def nat : FuncId → Option (List AV → Heap → Option (AV × Heap)) := fun f => bif Nat.beq f 30 then some joinN else bif Nat.beq f 79 then some escN else none
theorem natOK {cmp : List TypeId} : NativeOK (envOf Tryz.prog cmp nat) Tryz.prog := by
  intro f g hg args h v h' hx μ w args' hr hv
  have hg' : nat f = some g := hg
  unfold nat at hg'
  cases hf : Nat.beq f 30 with
  | false =>
    simp only [hf, cond_false] at hg'
    cases hf2 : Nat.beq f 79 with
    | false => simp [hf2] at hg'
    | true =>
      simp only [hf2, cond_true, Option.some.injEq] at hg'
      subst hg'
      obtain rfl := Nat.eq_of_beq_eq_true hf2
      exact .inl (esc_ok hx hr hv)
  | true =>
    simp only [hf, cond_true, Option.some.injEq] at hg'
    subst hg'
    have : f = 30 := Nat.eq_of_beq_eq_true hf
    subst this
    refine .inr ?_
    unfold joinN at hx
    split at hx
    · rename_i a l c z sep
      cases hj : joinF ⟨a, l, c, z⟩ sep h with
      | none => simp [hj] at hx
      | some p =>
        obtain ⟨s, h2⟩ := p
        simp only [hj, Option.some.injEq, Prod.mk.injEq] at hx
        obtain ⟨rfl, rfl⟩ := hx
        exact join_ok hj hr hv
    · cases hx
theorem f30_ok (N : Nat) : FnOK Tryz.prog 30 [(.one .slice), (.one .str)] (.val (.one .str)) (fun x h => joinF x.1 x.2.1 h) := by
  intro xs h r h' hx μ w args' hr hv
  exact join_ok hx hr hv


theorem told_true : isTrueA (evCall (envOf Tryz.prog [1000059] nat) 300 7 [] emptyH) = true := by kernel_rfl
end Go.Proofs.YtghlcagikpdfiaaGreatDoor.Np

set_option maxRecDepth 100000
open Go Go.Proofs.YtghlcagikpdfiaaGreatDoor.Ai Go.Proofs
namespace Go.Proofs.YtghlcagikpdfiaaGreatDoor.Pq
noncomputable def E : Env := envOf Tryz.prog [1000059] Np.nat
theorem envOK : EnvOK E Tryz.prog := envOf_ok (by kernel_rfl) (by kernel_rfl)
theorem natOK : NativeOK E Tryz.prog := Np.natOK
theorem hmix : Tryz.prog.follows .mixedOrders = true := by kernel_rfl
/- usufruct/usufructlaw9.told -/
noncomputable def f7 (N : Nat) (h : Heap) : Option (Bool × Heap) := some (true, h)
theorem f7_ok (N : Nat) : FnOK Tryz.prog 7 [] (.val (.one .bool)) (fun _ h => f7 N h) :=
  fnOK_told envOK (fn := Tryz.f7) (by kernel_rfl) (by kernel_rfl) (calls_true envOK hmix natOK (fn := Tryz.f7) (by kernel_rfl) (by kernel_rfl) (args := []) VRs.nil (n := 1000) (by kernel_rfl))

/- strings.Join: by its contract -/
noncomputable def f30 (N : Nat) (a0 : SL) (a1 : List UInt8) (h : Heap) : Option (List UInt8 × Heap) := Np.joinF a0 a1 h
theorem f30_ok (N : Nat) : FnOK Tryz.prog 30 [(.one .slice), (.one .str)] (.val (.one .str)) (fun x h => f30 N x.1 x.2.1 h) := Np.f30_ok N

/- usufruct/print.lives -/
noncomputable def f23 (N : Nat) (a0 : SL) (h : Heap) : Option (List UInt8 × Heap) :=
  let x1 : Bool := eqInt (Int.ofNat a0.len) 0
  (bif x1 then
   some ([], h)
  else
   (bind2 (f30 N a0 [44, 32, 39] h) fun (x2 : List UInt8) h3 =>
   (bindV (.val (.one .str)) (binStr .add [60, 39] x2) fun (x4 : List UInt8) =>
   (bindV (.val (.one .str)) (binStr .add x4 [62]) fun (x5 : List UInt8) =>
   some (x5, h3)))))
noncomputable def ann23 : Ann := .n
theorem f23_ok (N : Nat) : FnOK Tryz.prog 23 [(.one .slice)] (.val (.one .str)) (fun x h => f23 N x.1 h) :=
  runK_ok envOK hmix (addCall_ok (f30_ok N) noCalls_ok) (N := N) (x := ann23) (fn := Tryz.f23) (c := Tryz.f23.body.getD .skip) (by kernel_rfl) (by kernel_rfl) (by kernel_rfl) (by kernel_rfl) (fun _ _ => by kernel_rfl)

/- usufruct/print.Type -/
noncomputable def f11_r (N : Nat) (rec : (Int × List UInt8 × SL × SL × Unit) → Heap → Option (List UInt8 × Heap)) (a0 : (Int × List UInt8 × SL × SL × Unit)) (h : Heap) : Option (List UInt8 × Heap) :=
  let h1 : Heap := h.push (.row [(.int .i64 a0.1), (.str a0.2.1), (.slice a0.2.2.1.a a0.2.2.1.len a0.2.2.1.cap a0.2.2.1.sz), (.slice a0.2.2.2.1.a a0.2.2.2.1.len a0.2.2.2.1.cap a0.2.2.2.1.sz)] .own)
  (bindV (.val (.one (.int .i64))) (h1.cell ((h.next, 0).1, (h.next, 0).2 + 0)) fun (x2 : Int) =>
  let x3 : Bool := eqInt x2 1
  (bif x3 then
   some ([105, 110, 116], h1)
  else
   let x4 : Bool := eqInt x2 2
   (bif x4 then
    some ([98, 111, 111, 108], h1)
   else
    let x5 : Bool := eqInt x2 3
    (bif x5 then
     (bindV (.val (.one .str)) (h1.cell ((h.next, 0).1, (h.next, 0).2 + 1)) fun (x6 : List UInt8) =>
     (bindV (.val (.one .slice)) (h1.cell ((h.next, 0).1, (h.next, 0).2 + 2)) fun (x7 : SL) =>
     (bind2 (f23 N x7 h1) fun (x8 : List UInt8) h9 =>
     (bindV (.val (.one .str)) (binStr .add x6 x8) fun (x10 : List UInt8) =>
     (guardB (bif (sameO (h1.cell ((h.next, 0).1, (h.next, 0).2 + 2)) (.slice x7.a x7.len x7.cap x7.sz)) then (bif (sameO (h9.cell ((h.next, 0).1, (h.next, 0).2 + 1)) (.str x6)) then (bif (sameO (h1.cell ((h.next, 0).1, (h.next, 0).2 + 1)) (.str x6)) then true else false) else false) else false) (
     some (x10, h9)))))))
    else
     (bind2 (α := (Option (Nat × Nat) × List UInt8 × Bool × Unit)) (
      let x11 : Bool := eqInt x2 4
      (bif x11 then
       some (((some (h.next, 0)), [38], x11, ()), h1)
      else
       let x12 : Bool := eqInt x2 5
       some (((some (h.next, 0)), [38], x12, ()), h1))) fun (j13 : (Option (Nat × Nat) × List UInt8 × Bool × Unit)) h14 =>
     (bif j13.2.2.1 then
      (need j13.1 fun q15 =>
      (bindV (.val (.one .slice)) (h14.cell (q15.1, q15.2 + 3)) fun (x16 : SL) =>
      let x17 : Bool := eqInt (Int.ofNat x16.len) 0
      (bif x17 then
       some ([], h14)
      else
       (bind2 (α := (Option (Nat × Nat) × List UInt8 × Unit)) (
        (need j13.1 fun q18 =>
        (bindV (.val (.one .slice)) (h14.cell (q18.1, q18.2 + 2)) fun (x19 : SL) =>
        let x20 : Bool := ltInt 0 (Int.ofNat x19.len)
        (bif x20 then
         (bindV (.val (.one .str)) (binStr .add j13.2.1 [39]) fun (x21 : List UInt8) =>
         (need j13.1 fun q22 =>
         (bindV (.val (.one .slice)) (h14.cell (q22.1, q22.2 + 2)) fun (x23 : SL) =>
         (ixK x23.a x23.len 0 1 fun q24 =>
         (bindV (.val (.one .str)) (h14.cell q24) fun (x25 : List UInt8) =>
         (bindV (.val (.one .str)) (binStr .add x21 x25) fun (x26 : List UInt8) =>
         (bindV (.val (.one .str)) (binStr .add x26 [32]) fun (x27 : List UInt8) =>
         some ((j13.1, x27, ()), h14))))))))
        else
         some ((j13.1, j13.2.1, ()), h14))))) fun (j28 : (Option (Nat × Nat) × List UInt8 × Unit)) h29 =>
       (bind2 (α := (Option (Nat × Nat) × List UInt8 × Unit)) (
        (need j28.1 fun q30 =>
        (bindV (.val (.one (.int .i64))) (h29.cell (q30.1, q30.2 + 0)) fun (x31 : Int) =>
        let x32 : Bool := eqInt x31 5
        (bif x32 then
         (bindV (.val (.one .str)) (binStr .add j28.2.1 [109, 117, 116, 32]) fun (x33 : List UInt8) =>
         some ((j28.1, x33, ()), h29))
        else
         some ((j28.1, j28.2.1, ()), h29))))) fun (j34 : (Option (Nat × Nat) × List UInt8 × Unit)) h35 =>
       (need j34.1 fun q36 =>
       (bindV (.val (.one .slice)) (h35.cell (q36.1, q36.2 + 3)) fun (x37 : SL) =>
       (ixK x37.a x37.len 0 4 fun q38 =>
       (bindV (.val (.agg [(.int .i64), .str, .slice, .slice])) (h35.cells q38 4) fun (x39 : (Int × List UInt8 × SL × SL × Unit)) =>
       (bind2 (rec (x39.1, x39.2.1, x39.2.2.1, x39.2.2.2.1, ()) h35) fun (x40 : List UInt8) h41 =>
       (bindV (.val (.one .str)) (binStr .add j34.2.1 x40) fun (x42 : List UInt8) =>
       some (x42, h41))))))))))))
     else
      some ([], h14)))))))
noncomputable def f11 (N M : Nat) : (Int × List UInt8 × SL × SL × Unit) → Heap → Option (List UInt8 × Heap) := Nat.rec (fun _ _ => none) (fun _ rec => f11_r N rec) M
theorem f11_succ (N M : Nat) (a0 : (Int × List UInt8 × SL × SL × Unit)) (h : Heap) : f11 N (M + 1) a0 h = f11_r N (f11 N M) a0 h := rfl
noncomputable def ann11 : Ann := (.two .n (.two .n (.two (.two .n (.two (.two .n (.two .n (.two .n (.two .n (.two .n (.two .n (.two (.join [(1, (.one .ptr)), (3, (.one .str)), (18, (.one .bool))] .n) .n))))))) .n)) (.two (.join [(1, (.one .ptr)), (3, (.one .str))] .n) (.two (.join [(1, (.one .ptr)), (3, (.one .str))] .n) .n)))))
theorem f11_okm (N : Nat) : ∀ M : Nat, FnOK Tryz.prog 11 [(.agg [(.int .i64), .str, .slice, .slice])] (.val (.one .str)) (fun x h => f11 N M x.1 h)
  | 0 => fun xs h r h' hx => by cases hx
  | M + 1 => runK_ok envOK hmix (addCall_ok (f11_okm N M) (addCall_ok (f23_ok N) noCalls_ok)) (N := N) (x := ann11) (fn := Tryz.f11) (c := Tryz.f11.body.getD .skip) (by kernel_rfl) (by kernel_rfl) (by kernel_rfl) (by kernel_rfl) (fun _ _ => by kernel_rfl)
theorem f11_ok (N : Nat) : FnOK Tryz.prog 11 [(.agg [(.int .i64), .str, .slice, .slice])] (.val (.one .str)) (fun x h => f11 N N x.1 h) := f11_okm N N

/- usufruct/usufructref9.marks -/
noncomputable def f29_l1_b (N : Nat) (go : SL → List UInt8 → Int → Heap → Option (Out × (List UInt8 × Unit) × Heap)) (v0 : SL) (v3 : List UInt8) (v4 : Int) (h : Heap) : Option (Out × (List UInt8 × Unit) × Heap) :=
  let x1 : Bool := ltInt v4 (Int.ofNat v0.len)
  (bif x1 then
   let x2 : Bool := ltInt 0 v4
   (bif x2 then
    (bindV (.val (.one .str)) (binStr .add v3 [44, 32]) fun (x3 : List UInt8) =>
    (bindV (.val (.one .str)) (binStr .add x3 [39]) fun (x4 : List UInt8) =>
    (ixK v0.a v0.len v4 1 fun q5 =>
    (bindV (.val (.one .str)) (h.cell q5) fun (x6 : List UInt8) =>
    (bindV (.val (.one .str)) (binStr .add x4 x6) fun (x7 : List UInt8) =>
    let x8 : Int := wrapA .i64 (v4 + 1)
    go v0 x7 x8 h)))))
   else
    (bindV (.val (.one .str)) (binStr .add v3 [39]) fun (x9 : List UInt8) =>
    (ixK v0.a v0.len v4 1 fun q10 =>
    (bindV (.val (.one .str)) (h.cell q10) fun (x11 : List UInt8) =>
    (bindV (.val (.one .str)) (binStr .add x9 x11) fun (x12 : List UInt8) =>
    let x13 : Int := wrapA .i64 (v4 + 1)
    go v0 x12 x13 h)))))
  else
   some ((Out.exit 0), (v3, ()), h))
noncomputable def f29_l1 (N M : Nat) (v0 : SL) (v3 : List UInt8) (v4 : Int) (h : Heap) : Option (Out × (List UInt8 × Unit) × Heap) := iter (fun go s h => f29_l1_b N (fun v0 v3 v4 h => go (v0, v3, v4, ()) h) s.1 s.2.1 s.2.2.1 h) M (v0, v3, v4, ()) h
theorem f29_l1_succ (N M : Nat) (v0 : SL) (v3 : List UInt8) (v4 : Int) (h : Heap) : f29_l1 N (M + 1) v0 v3 v4 h = f29_l1_b N (f29_l1 N M) v0 v3 v4 h := rfl
theorem f29_l1_zero (N : Nat) (v0 : SL) (v3 : List UInt8) (v4 : Int) (h : Heap) : f29_l1 N 0 v0 v3 v4 h = none := rfl
noncomputable def f29 (N : Nat) (a0 : SL) (h : Heap) : Option (List UInt8 × Heap) :=
  (bind3 (f29_l1 N N a0 [] 0 h) fun _ (j15 : (List UInt8 × Unit)) h16 =>
  let x17 : Bool := eqBytes j15.1 []
  (bif x17 then
   some ([], h16)
  else
   (bindV (.val (.one .str)) (binStr .add [60] j15.1) fun (x18 : List UInt8) =>
   (bindV (.val (.one .str)) (binStr .add x18 [62]) fun (x19 : List UInt8) =>
   some (x19, h16)))))
noncomputable def ann29 : Ann := (.two .n (.two .n (.two (.two .n (.two (.loop [(0, (.one .slice)), (3, (.one .str)), (4, (.one (.int .i64)))] [(.exit 0)] [(3, (.one .str))] .n) .n)) .n)))
theorem f29_ok (N : Nat) : FnOK Tryz.prog 29 [(.one .slice)] (.val (.one .str)) (fun x h => f29 N x.1 h) :=
  runK_ok envOK hmix noCalls_ok (N := N) (x := ann29) (fn := Tryz.f29) (c := Tryz.f29.body.getD .skip) (by kernel_rfl) (by kernel_rfl) (by kernel_rfl) (by kernel_rfl) (fun _ _ => by kernel_rfl)

/- usufruct/usufructref9.Type -/
noncomputable def f12_r (N : Nat) (rec : (Int × List UInt8 × SL × SL × Unit) → Heap → Option (List UInt8 × Heap)) (a0 : (Int × List UInt8 × SL × SL × Unit)) (h : Heap) : Option (List UInt8 × Heap) :=
  let h1 : Heap := h.push (.row [(.int .i64 a0.1), (.str a0.2.1), (.slice a0.2.2.1.a a0.2.2.1.len a0.2.2.1.cap a0.2.2.1.sz), (.slice a0.2.2.2.1.a a0.2.2.2.1.len a0.2.2.2.1.cap a0.2.2.2.1.sz)] .own)
  (bindV (.val (.one (.int .i64))) (h1.cell ((h.next, 0).1, (h.next, 0).2 + 0)) fun (x2 : Int) =>
  let x3 : Bool := eqInt x2 1
  (bif x3 then
   some ([105, 110, 116], h1)
  else
   let x4 : Bool := eqInt x2 2
   (bif x4 then
    some ([98, 111, 111, 108], h1)
   else
    let x5 : Bool := eqInt x2 3
    (bif x5 then
     (bindV (.val (.one .str)) (h1.cell ((h.next, 0).1, (h.next, 0).2 + 1)) fun (x6 : List UInt8) =>
     (bindV (.val (.one .slice)) (h1.cell ((h.next, 0).1, (h.next, 0).2 + 2)) fun (x7 : SL) =>
     (bind2 (f29 N x7 h1) fun (x8 : List UInt8) h9 =>
     (bindV (.val (.one .str)) (binStr .add x6 x8) fun (x10 : List UInt8) =>
     (guardB (bif (sameO (h1.cell ((h.next, 0).1, (h.next, 0).2 + 2)) (.slice x7.a x7.len x7.cap x7.sz)) then (bif (sameO (h9.cell ((h.next, 0).1, (h.next, 0).2 + 1)) (.str x6)) then (bif (sameO (h1.cell ((h.next, 0).1, (h.next, 0).2 + 1)) (.str x6)) then true else false) else false) else false) (
     some (x10, h9)))))))
    else
     (bind2 (α := (Option (Nat × Nat) × Bool × Unit)) (
      let x11 : Bool := eqInt x2 4
      (bif x11 then
       some (((some (h.next, 0)), x11, ()), h1)
      else
       let x12 : Bool := eqInt x2 5
       some (((some (h.next, 0)), x12, ()), h1))) fun (j13 : (Option (Nat × Nat) × Bool × Unit)) h14 =>
     (bif j13.2.1 then
      (need j13.1 fun q15 =>
      (bindV (.val (.one .slice)) (h14.cell (q15.1, q15.2 + 3)) fun (x16 : SL) =>
      let x17 : Bool := eqInt (Int.ofNat x16.len) 0
      (bif x17 then
       some ([], h14)
      else
       (bind2 (α := (Option (Nat × Nat) × List UInt8 × Unit)) (
        (need j13.1 fun q18 =>
        (bindV (.val (.one .slice)) (h14.cell (q18.1, q18.2 + 2)) fun (x19 : SL) =>
        let x20 : Bool := ltInt 0 (Int.ofNat x19.len)
        (bif x20 then
         (bindV (.val (.one .str)) (binStr .add [38] [39]) fun (x21 : List UInt8) =>
         (need j13.1 fun q22 =>
         (bindV (.val (.one .slice)) (h14.cell (q22.1, q22.2 + 2)) fun (x23 : SL) =>
         (ixK x23.a x23.len 0 1 fun q24 =>
         (bindV (.val (.one .str)) (h14.cell q24) fun (x25 : List UInt8) =>
         (bindV (.val (.one .str)) (binStr .add x21 x25) fun (x26 : List UInt8) =>
         (bindV (.val (.one .str)) (binStr .add x26 [32]) fun (x27 : List UInt8) =>
         some ((j13.1, x27, ()), h14))))))))
        else
         some ((j13.1, [38], ()), h14))))) fun (j28 : (Option (Nat × Nat) × List UInt8 × Unit)) h29 =>
       (bind2 (α := (Option (Nat × Nat) × List UInt8 × Unit)) (
        (need j28.1 fun q30 =>
        (bindV (.val (.one (.int .i64))) (h29.cell (q30.1, q30.2 + 0)) fun (x31 : Int) =>
        let x32 : Bool := eqInt x31 5
        (bif x32 then
         (bindV (.val (.one .str)) (binStr .add j28.2.1 [109, 117, 116, 32]) fun (x33 : List UInt8) =>
         some ((j28.1, x33, ()), h29))
        else
         some ((j28.1, j28.2.1, ()), h29))))) fun (j34 : (Option (Nat × Nat) × List UInt8 × Unit)) h35 =>
       (need j34.1 fun q36 =>
       (bindV (.val (.one .slice)) (h35.cell (q36.1, q36.2 + 3)) fun (x37 : SL) =>
       (ixK x37.a x37.len 0 4 fun q38 =>
       (bindV (.val (.agg [(.int .i64), .str, .slice, .slice])) (h35.cells q38 4) fun (x39 : (Int × List UInt8 × SL × SL × Unit)) =>
       (bind2 (rec (x39.1, x39.2.1, x39.2.2.1, x39.2.2.2.1, ()) h35) fun (x40 : List UInt8) h41 =>
       (bindV (.val (.one .str)) (binStr .add j34.2.1 x40) fun (x42 : List UInt8) =>
       some (x42, h41))))))))))))
     else
      some ([], h14)))))))
noncomputable def f12 (N M : Nat) : (Int × List UInt8 × SL × SL × Unit) → Heap → Option (List UInt8 × Heap) := Nat.rec (fun _ _ => none) (fun _ rec => f12_r N rec) M
theorem f12_succ (N M : Nat) (a0 : (Int × List UInt8 × SL × SL × Unit)) (h : Heap) : f12 N (M + 1) a0 h = f12_r N (f12 N M) a0 h := rfl
noncomputable def ann12 : Ann := (.two .n (.two (.two .n (.two (.two .n (.two .n (.two .n (.two .n (.two .n (.two .n (.two (.join [(1, (.one .ptr)), (18, (.one .bool))] .n) (.two (.two .n (.two .n (.two (.join [(1, (.one .ptr)), (3, (.one .str))] .n) (.two (.join [(1, (.one .ptr)), (3, (.one .str))] .n) .n)))) .n)))))))) .n)) .n))
theorem f12_okm (N : Nat) : ∀ M : Nat, FnOK Tryz.prog 12 [(.agg [(.int .i64), .str, .slice, .slice])] (.val (.one .str)) (fun x h => f12 N M x.1 h)
  | 0 => fun xs h r h' hx => by cases hx
  | M + 1 => runK_ok envOK hmix (addCall_ok (f12_okm N M) (addCall_ok (f29_ok N) noCalls_ok)) (N := N) (x := ann12) (fn := Tryz.f12) (c := Tryz.f12.body.getD .skip) (by kernel_rfl) (by kernel_rfl) (by kernel_rfl) (by kernel_rfl) (fun _ _ => by kernel_rfl)
theorem f12_ok (N : Nat) : FnOK Tryz.prog 12 [(.agg [(.int .i64), .str, .slice, .slice])] (.val (.one .str)) (fun x h => f12 N N x.1 h) := f12_okm N N

/- usufruct/print.pub -/
noncomputable def f22 (N : Nat) (a0 : Bool) (h : Heap) : Option (List UInt8 × Heap) :=
  (bif a0 then
   some ([112, 117, 98, 32], h)
  else
   some ([], h))
noncomputable def ann22 : Ann := .n
theorem f22_ok (N : Nat) : FnOK Tryz.prog 22 [(.one .bool)] (.val (.one .str)) (fun x h => f22 N x.1 h) :=
  runK_ok envOK hmix noCalls_ok (N := N) (x := ann22) (fn := Tryz.f22) (c := Tryz.f22.body.getD .skip) (by kernel_rfl) (by kernel_rfl) (by kernel_rfl) (by kernel_rfl) (fun _ _ => by kernel_rfl)

/- usufruct/print.fields -/
noncomputable def f20_l1_b (N : Nat) (go : SL → SL → Int → Int → Heap → Option (Out × (SL × Unit) × Heap)) (v3 : SL) (v7 : SL) (v8 : Int) (v9 : Int) (h : Heap) : Option (Out × (SL × Unit) × Heap) :=
  let x1 : Bool := ltInt v9 v8
  (bif x1 then
   (ixK v7.a v7.len v9 6 fun q2 =>
   (bindV (.val (.agg [.bool, .str, (.int .i64), .str, .slice, .slice])) (h.cells q2 6) fun (x3 : (Bool × List UInt8 × Int × List UInt8 × SL × SL × Unit)) =>
   let h4 : Heap := h.push (.row [(.bool false), (.str []), (.int .i64 0), (.str []), (.slice none 0 0 0), (.slice none 0 0 0)] .own)
   (need (h4.store (h.next, 0) [(.bool x3.1), (.str x3.2.1), (.int .i64 x3.2.2.1), (.str x3.2.2.2.1), (.slice x3.2.2.2.2.1.a x3.2.2.2.2.1.len x3.2.2.2.2.1.cap x3.2.2.2.2.1.sz), (.slice x3.2.2.2.2.2.1.a x3.2.2.2.2.2.1.len x3.2.2.2.2.2.1.cap x3.2.2.2.2.2.1.sz)]) fun h5 =>
   (bindV (.val (.one .str)) (h5.cell ((h.next, 0).1, (h.next, 0).2 + 1)) fun (x6 : List UInt8) =>
   (bindV (.val (.one .str)) (binStr .add x6 [58, 32]) fun (x7 : List UInt8) =>
   (bindV (.val (.agg [(.int .i64), .str, .slice, .slice])) (h5.cells ((h.next, 0).1, (h.next, 0).2 + 2) 4) fun (x8 : (Int × List UInt8 × SL × SL × Unit)) =>
   (bind2 (f11 N N (x8.1, x8.2.1, x8.2.2.1, x8.2.2.2.1, ()) h5) fun (x9 : List UInt8) h10 =>
   (bindV (.val (.one .str)) (binStr .add x7 x9) fun (x11 : List UInt8) =>
   (guardB (bif (sameO (h5.cells ((h.next, 0).1, (h.next, 0).2 + 2) 4) (.agg [(.int .i64 x8.1), (.str x8.2.1), (.slice x8.2.2.1.a x8.2.2.1.len x8.2.2.1.cap x8.2.2.1.sz), (.slice x8.2.2.2.1.a x8.2.2.2.1.len x8.2.2.2.1.cap x8.2.2.2.1.sz)])) then (bif (sameO (h10.cell ((h.next, 0).1, (h.next, 0).2 + 1)) (.str x6)) then (bif (sameO (h5.cell ((h.next, 0).1, (h.next, 0).2 + 1)) (.str x6)) then true else false) else false) else false) (
   (bindV (.val (.one .bool)) (h10.cell ((h.next, 0).1, (h.next, 0).2 + 0)) fun (x12 : Bool) =>
   (bif x12 then
    (bindV (.val (.one .str)) (binStr .add [109, 117, 116, 32] x11) fun (x13 : List UInt8) =>
    let h14 : Heap := h10.push (.row [(.str x13)] .own)
    (bindT (.val (.one .slice)) (appendA E 35 35 (.slice v3.a v3.len v3.cap v3.sz) (.slice (some (h10.next, 0)) 1 1 1) h14) fun (x15 : SL) h16 =>
    let x17 : Int := wrapA .i64 (v9 + 1)
    go x15 v7 v8 x17 h16))
   else
    let h18 : Heap := h10.push (.row [(.str x11)] .own)
    (bindT (.val (.one .slice)) (appendA E 35 35 (.slice v3.a v3.len v3.cap v3.sz) (.slice (some (h10.next, 0)) 1 1 1) h18) fun (x19 : SL) h20 =>
    let x21 : Int := wrapA .i64 (v9 + 1)
    go x19 v7 v8 x21 h20)))))))))))))
  else
   some ((Out.exit 0), (v3, ()), h))
noncomputable def f20_l1 (N M : Nat) (v3 : SL) (v7 : SL) (v8 : Int) (v9 : Int) (h : Heap) : Option (Out × (SL × Unit) × Heap) := iter (fun go s h => f20_l1_b N (fun v3 v7 v8 v9 h => go (v3, v7, v8, v9, ()) h) s.1 s.2.1 s.2.2.1 s.2.2.2.1 h) M (v3, v7, v8, v9, ()) h
theorem f20_l1_succ (N M : Nat) (v3 : SL) (v7 : SL) (v8 : Int) (v9 : Int) (h : Heap) : f20_l1 N (M + 1) v3 v7 v8 v9 h = f20_l1_b N (f20_l1 N M) v3 v7 v8 v9 h := rfl
theorem f20_l1_zero (N : Nat) (v3 : SL) (v7 : SL) (v8 : Int) (v9 : Int) (h : Heap) : f20_l1 N 0 v3 v7 v8 v9 h = none := rfl
noncomputable def f20 (N : Nat) (a0 : SL) (h : Heap) : Option (List UInt8 × Heap) :=
  (bind3 (f20_l1 N N ⟨none, 0, 0, 0⟩ a0 (Int.ofNat a0.len) 0 h) fun _ (j23 : (SL × Unit)) h24 =>
  (bind2 (f30 N j23.1 [44, 32] h24) fun (x25 : List UInt8) h26 =>
  some (x25, h26)))
noncomputable def ann20 : Ann := (.two .n (.two .n (.two (.two .n (.two (.loop [(3, (.one .slice)), (7, (.one .slice)), (8, (.one (.int .i64))), (9, (.one (.int .i64)))] [(.exit 0)] [(3, (.one .slice))] .n) .n)) .n)))
theorem f20_ok (N : Nat) : FnOK Tryz.prog 20 [(.one .slice)] (.val (.one .str)) (fun x h => f20 N x.1 h) :=
  runK_ok envOK hmix (addCall_ok (f30_ok N) (addCall_ok (f11_ok N) noCalls_ok)) (N := N) (x := ann20) (fn := Tryz.f20) (c := Tryz.f20.body.getD .skip) (by kernel_rfl) (by kernel_rfl) (by kernel_rfl) (by kernel_rfl) (fun _ _ => by kernel_rfl)

/- usufruct/print.Head -/
noncomputable def f13_l1_b (N : Nat) (go : Option (Nat × Nat) → SL → SL → Int → Int → Heap → Option (Out × (Option (Nat × Nat) × SL × Unit) × Heap)) (v1 : Option (Nat × Nat)) (v3 : SL) (v9 : SL) (v10 : Int) (v11 : Int) (h : Heap) : Option (Out × (Option (Nat × Nat) × SL × Unit) × Heap) :=
  let x3 : Bool := ltInt v11 v10
  (bif x3 then
   (ixK v9.a v9.len v11 2 fun q4 =>
   (bindV (.val (.agg [.str, .slice])) (h.cells q4 2) fun (x5 : (List UInt8 × SL × Unit)) =>
   let h6 : Heap := h.push (.row [(.str []), (.slice none 0 0 0)] .own)
   (need (h6.store (h.next, 0) [(.str x5.1), (.slice x5.2.1.a x5.2.1.len x5.2.1.cap x5.2.1.sz)]) fun h7 =>
   (bindV (.val (.one .str)) (h7.cell ((h.next, 0).1, (h.next, 0).2 + 0)) fun (x8 : List UInt8) =>
   (bindV (.val (.one .str)) (binStr .add [39] x8) fun (x9 : List UInt8) =>
   (bindV (.val (.one .slice)) (h7.cell ((h.next, 0).1, (h.next, 0).2 + 1)) fun (x10 : SL) =>
   let x11 : Bool := ltInt 0 (Int.ofNat x10.len)
   (bif x11 then
    (bindV (.val (.one .str)) (binStr .add x9 [58, 32, 39]) fun (x12 : List UInt8) =>
    (bindV (.val (.one .slice)) (h7.cell ((h.next, 0).1, (h.next, 0).2 + 1)) fun (x13 : SL) =>
    (bind2 (f30 N x13 [32, 43, 32, 39] h7) fun (x14 : List UInt8) h15 =>
    (bindV (.val (.one .str)) (binStr .add x12 x14) fun (x16 : List UInt8) =>
    let h17 : Heap := h15.push (.row [(.str x16)] .own)
    (bindT (.val (.one .slice)) (appendA E 35 35 (.slice v3.a v3.len v3.cap v3.sz) (.slice (some (h15.next, 0)) 1 1 1) h17) fun (x18 : SL) h19 =>
    let x20 : Int := wrapA .i64 (v11 + 1)
    go v1 x18 v9 v10 x20 h19)))))
   else
    let h21 : Heap := h7.push (.row [(.str x9)] .own)
    (bindT (.val (.one .slice)) (appendA E 35 35 (.slice v3.a v3.len v3.cap v3.sz) (.slice (some (h7.next, 0)) 1 1 1) h21) fun (x22 : SL) h23 =>
    let x24 : Int := wrapA .i64 (v11 + 1)
    go v1 x22 v9 v10 x24 h23))))))))
  else
   some ((Out.exit 0), (v1, v3, ()), h))
noncomputable def f13_l1 (N M : Nat) (v1 : Option (Nat × Nat)) (v3 : SL) (v9 : SL) (v10 : Int) (v11 : Int) (h : Heap) : Option (Out × (Option (Nat × Nat) × SL × Unit) × Heap) := iter (fun go s h => f13_l1_b N (fun v1 v3 v9 v10 v11 h => go (v1, v3, v9, v10, v11, ()) h) s.1 s.2.1 s.2.2.1 s.2.2.2.1 s.2.2.2.2.1 h) M (v1, v3, v9, v10, v11, ()) h
theorem f13_l1_succ (N M : Nat) (v1 : Option (Nat × Nat)) (v3 : SL) (v9 : SL) (v10 : Int) (v11 : Int) (h : Heap) : f13_l1 N (M + 1) v1 v3 v9 v10 v11 h = f13_l1_b N (f13_l1 N M) v1 v3 v9 v10 v11 h := rfl
theorem f13_l1_zero (N : Nat) (v1 : Option (Nat × Nat)) (v3 : SL) (v9 : SL) (v10 : Int) (v11 : Int) (h : Heap) : f13_l1 N 0 v1 v3 v9 v10 v11 h = none := rfl
noncomputable def f13 (N : Nat) (a0 : (Bool × List UInt8 × SL × SL × Int × List UInt8 × SL × SL × SL × Int × Unit)) (h : Heap) : Option (List UInt8 × Heap) :=
  let h1 : Heap := h.push (.row [(.bool a0.1), (.str a0.2.1), (.slice a0.2.2.1.a a0.2.2.1.len a0.2.2.1.cap a0.2.2.1.sz), (.slice a0.2.2.2.1.a a0.2.2.2.1.len a0.2.2.2.1.cap a0.2.2.2.1.sz), (.int .i64 a0.2.2.2.2.1), (.str a0.2.2.2.2.2.1), (.slice a0.2.2.2.2.2.2.1.a a0.2.2.2.2.2.2.1.len a0.2.2.2.2.2.2.1.cap a0.2.2.2.2.2.2.1.sz), (.slice a0.2.2.2.2.2.2.2.1.a a0.2.2.2.2.2.2.2.1.len a0.2.2.2.2.2.2.2.1.cap a0.2.2.2.2.2.2.2.1.sz), (.slice a0.2.2.2.2.2.2.2.2.1.a a0.2.2.2.2.2.2.2.2.1.len a0.2.2.2.2.2.2.2.2.1.cap a0.2.2.2.2.2.2.2.2.1.sz), (.int .i64 a0.2.2.2.2.2.2.2.2.2.1)] .own)
  (bindV (.val (.one .slice)) (h1.cell ((h.next, 0).1, (h.next, 0).2 + 2)) fun (x2 : SL) =>
  (bind3 (f13_l1 N N (some (h.next, 0)) ⟨none, 0, 0, 0⟩ x2 (Int.ofNat x2.len) 0 h1) fun _ (j26 : (Option (Nat × Nat) × SL × Unit)) h27 =>
  (need j26.1 fun q28 =>
  (bindV (.val (.one .bool)) (h27.cell (q28.1, q28.2 + 0)) fun (x29 : Bool) =>
  (bind2 (f22 N x29 h27) fun (x30 : List UInt8) h31 =>
  (bindV (.val (.one .str)) (binStr .add x30 [102, 110, 32]) fun (x32 : List UInt8) =>
  (need j26.1 fun q33 =>
  (bindV (.val (.one .str)) (h31.cell (q33.1, q33.2 + 1)) fun (x34 : List UInt8) =>
  (bindV (.val (.one .str)) (binStr .add x32 x34) fun (x35 : List UInt8) =>
  (guardB (bif (sameO (h31.cell (q33.1, q33.2 + 1)) (.str x34)) then (bif (sameO (h27.cell (q33.1, q33.2 + 1)) (.str x34)) then (bif (sameO (h27.cell (q28.1, q28.2 + 0)) (.bool x29)) then true else false) else false) else false) (
  let x36 : Bool := ltInt 0 (Int.ofNat j26.2.1.len)
  (bif x36 then
   (bindV (.val (.one .str)) (binStr .add x35 [60]) fun (x37 : List UInt8) =>
   (bind2 (f30 N j26.2.1 [44, 32] h31) fun (x38 : List UInt8) h39 =>
   (bindV (.val (.one .str)) (binStr .add x37 x38) fun (x40 : List UInt8) =>
   (bindV (.val (.one .str)) (binStr .add x40 [62]) fun (x41 : List UInt8) =>
   (bindV (.val (.one .str)) (binStr .add x41 [40]) fun (x42 : List UInt8) =>
   (need j26.1 fun q43 =>
   (bindV (.val (.one .slice)) (h39.cell (q43.1, q43.2 + 3)) fun (x44 : SL) =>
   (bind2 (f20 N x44 h39) fun (x45 : List UInt8) h46 =>
   (bindV (.val (.one .str)) (binStr .add x42 x45) fun (x47 : List UInt8) =>
   (bindV (.val (.one .str)) (binStr .add x47 [41]) fun (x48 : List UInt8) =>
   (need j26.1 fun q49 =>
   (bindV (.val (.one (.int .i64))) (h46.cell ((q49.1, q49.2 + 4).1, (q49.1, q49.2 + 4).2 + 0)) fun (x50 : Int) =>
   let x51 : Bool := !eqInt x50 0
   (bif x51 then
    (bindV (.val (.one .str)) (binStr .add x48 [32, 45, 62, 32]) fun (x52 : List UInt8) =>
    (need j26.1 fun q53 =>
    (bindV (.val (.agg [(.int .i64), .str, .slice, .slice])) (h46.cells (q53.1, q53.2 + 4) 4) fun (x54 : (Int × List UInt8 × SL × SL × Unit)) =>
    (bind2 (f11 N N (x54.1, x54.2.1, x54.2.2.1, x54.2.2.2.1, ()) h46) fun (x55 : List UInt8) h56 =>
    (bindV (.val (.one .str)) (binStr .add x52 x55) fun (x57 : List UInt8) =>
    some (x57, h56))))))
   else
    some (x48, h46))))))))))))))
  else
   (bindV (.val (.one .str)) (binStr .add x35 [40]) fun (x58 : List UInt8) =>
   (need j26.1 fun q59 =>
   (bindV (.val (.one .slice)) (h31.cell (q59.1, q59.2 + 3)) fun (x60 : SL) =>
   (bind2 (f20 N x60 h31) fun (x61 : List UInt8) h62 =>
   (bindV (.val (.one .str)) (binStr .add x58 x61) fun (x63 : List UInt8) =>
   (bindV (.val (.one .str)) (binStr .add x63 [41]) fun (x64 : List UInt8) =>
   (need j26.1 fun q65 =>
   (bindV (.val (.one (.int .i64))) (h62.cell ((q65.1, q65.2 + 4).1, (q65.1, q65.2 + 4).2 + 0)) fun (x66 : Int) =>
   let x67 : Bool := !eqInt x66 0
   (bif x67 then
    (bindV (.val (.one .str)) (binStr .add x64 [32, 45, 62, 32]) fun (x68 : List UInt8) =>
    (need j26.1 fun q69 =>
    (bindV (.val (.agg [(.int .i64), .str, .slice, .slice])) (h62.cells (q69.1, q69.2 + 4) 4) fun (x70 : (Int × List UInt8 × SL × SL × Unit)) =>
    (bind2 (f11 N N (x70.1, x70.2.1, x70.2.2.1, x70.2.2.2.1, ()) h62) fun (x71 : List UInt8) h72 =>
    (bindV (.val (.one .str)) (binStr .add x68 x71) fun (x73 : List UInt8) =>
    some (x73, h72))))))
   else
    some (x64, h62))))))))))))))))))))))
noncomputable def ann13 : Ann := (.two .n (.two .n (.two (.two .n (.two (.loop [(1, (.one .ptr)), (3, (.one .slice)), (9, (.one .slice)), (10, (.one (.int .i64))), (11, (.one (.int .i64)))] [(.exit 0)] [(1, (.one .ptr)), (3, (.one .slice))] .n) .n)) .n)))
theorem f13_ok (N : Nat) : FnOK Tryz.prog 13 [(.agg [.bool, .str, .slice, .slice, (.int .i64), .str, .slice, .slice, .slice, (.int .i64)])] (.val (.one .str)) (fun x h => f13 N x.1 h) :=
  runK_ok envOK hmix (addCall_ok (f30_ok N) (addCall_ok (f22_ok N) (addCall_ok (f20_ok N) (addCall_ok (f11_ok N) noCalls_ok)))) (N := N) (x := ann13) (fn := Tryz.f13) (c := Tryz.f13.body.getD .skip) (by kernel_rfl) (by kernel_rfl) (by kernel_rfl) (by kernel_rfl) (fun _ _ => by kernel_rfl)

/- usufruct/usufructref9.pub -/
noncomputable def f31 (N : Nat) (a0 : Bool) (h : Heap) : Option (List UInt8 × Heap) :=
  (bif a0 then
   some ([112, 117, 98, 32], h)
  else
   some ([], h))
noncomputable def ann31 : Ann := .n
theorem f31_ok (N : Nat) : FnOK Tryz.prog 31 [(.one .bool)] (.val (.one .str)) (fun x h => f31 N x.1 h) :=
  runK_ok envOK hmix noCalls_ok (N := N) (x := ann31) (fn := Tryz.f31) (c := Tryz.f31.body.getD .skip) (by kernel_rfl) (by kernel_rfl) (by kernel_rfl) (by kernel_rfl) (fun _ _ => by kernel_rfl)

/- usufruct/usufructref9.fields -/
noncomputable def f32_l1_b (N : Nat) (go : SL → List UInt8 → Int → Heap → Option (Out × (List UInt8 × Unit) × Heap)) (v0 : SL) (v3 : List UInt8) (v4 : Int) (h : Heap) : Option (Out × (List UInt8 × Unit) × Heap) :=
  let x1 : Bool := ltInt v4 (Int.ofNat v0.len)
  (bif x1 then
   (bind2 (α := (SL × List UInt8 × Int × Unit)) (
    (bind2 (α := (SL × List UInt8 × Int × Unit)) (
     let x2 : Bool := ltInt 0 v4
     (bif x2 then
      (bindV (.val (.one .str)) (binStr .add v3 [44, 32]) fun (x3 : List UInt8) =>
      some ((v0, x3, v4, ()), h))
     else
      some ((v0, v3, v4, ()), h))) fun (j4 : (SL × List UInt8 × Int × Unit)) h5 =>
    (bind2 (α := (SL × List UInt8 × Int × Unit)) (
     (ixK j4.1.a j4.1.len j4.2.2.1 6 fun q6 =>
     (bindV (.val (.one .bool)) (h5.cell (q6.1, q6.2 + 0)) fun (x7 : Bool) =>
     (bif x7 then
      (bindV (.val (.one .str)) (binStr .add j4.2.1 [109, 117, 116, 32]) fun (x8 : List UInt8) =>
      some ((j4.1, x8, j4.2.2.1, ()), h5))
     else
      some ((j4.1, j4.2.1, j4.2.2.1, ()), h5))))) fun (j9 : (SL × List UInt8 × Int × Unit)) h10 =>
    (ixK j9.1.a j9.1.len j9.2.2.1 6 fun q11 =>
    (bindV (.val (.one .str)) (h10.cell (q11.1, q11.2 + 1)) fun (x12 : List UInt8) =>
    (bindV (.val (.one .str)) (binStr .add j9.2.1 x12) fun (x13 : List UInt8) =>
    (bindV (.val (.one .str)) (binStr .add x13 [58, 32]) fun (x14 : List UInt8) =>
    (ixK j9.1.a j9.1.len j9.2.2.1 6 fun q15 =>
    (bindV (.val (.agg [(.int .i64), .str, .slice, .slice])) (h10.cells (q15.1, q15.2 + 2) 4) fun (x16 : (Int × List UInt8 × SL × SL × Unit)) =>
    (bind2 (f12 N N (x16.1, x16.2.1, x16.2.2.1, x16.2.2.2.1, ()) h10) fun (x17 : List UInt8) h18 =>
    (bindV (.val (.one .str)) (binStr .add x14 x17) fun (x19 : List UInt8) =>
    (guardB (bif (sameO (h10.cells (q15.1, q15.2 + 2) 4) (.agg [(.int .i64 x16.1), (.str x16.2.1), (.slice x16.2.2.1.a x16.2.2.1.len x16.2.2.1.cap x16.2.2.1.sz), (.slice x16.2.2.2.1.a x16.2.2.2.1.len x16.2.2.2.1.cap x16.2.2.2.1.sz)])) then (bif (sameO (h18.cell (q11.1, q11.2 + 1)) (.str x12)) then (bif (sameO (h10.cell (q11.1, q11.2 + 1)) (.str x12)) then true else false) else false) else false) (
    some ((j9.1, x19, j9.2.2.1, ()), h18)))))))))))))) fun (j20 : (SL × List UInt8 × Int × Unit)) h21 =>
   let x22 : Int := wrapA .i64 (j20.2.2.1 + 1)
   go j20.1 j20.2.1 x22 h21)
  else
   some ((Out.exit 0), (v3, ()), h))
noncomputable def f32_l1 (N M : Nat) (v0 : SL) (v3 : List UInt8) (v4 : Int) (h : Heap) : Option (Out × (List UInt8 × Unit) × Heap) := iter (fun go s h => f32_l1_b N (fun v0 v3 v4 h => go (v0, v3, v4, ()) h) s.1 s.2.1 s.2.2.1 h) M (v0, v3, v4, ()) h
theorem f32_l1_succ (N M : Nat) (v0 : SL) (v3 : List UInt8) (v4 : Int) (h : Heap) : f32_l1 N (M + 1) v0 v3 v4 h = f32_l1_b N (f32_l1 N M) v0 v3 v4 h := rfl
theorem f32_l1_zero (N : Nat) (v0 : SL) (v3 : List UInt8) (v4 : Int) (h : Heap) : f32_l1 N 0 v0 v3 v4 h = none := rfl
noncomputable def f32 (N : Nat) (a0 : SL) (h : Heap) : Option (List UInt8 × Heap) :=
  (bind3 (f32_l1 N N a0 [] 0 h) fun _ (j24 : (List UInt8 × Unit)) h25 =>
  some (j24.1, h25))
noncomputable def ann32 : Ann := (.two .n (.two .n (.two (.two .n (.two (.loop [(0, (.one .slice)), (3, (.one .str)), (4, (.one (.int .i64)))] [(.exit 0)] [(3, (.one .str))] (.two .n (.two (.join [(0, (.one .slice)), (3, (.one .str)), (4, (.one (.int .i64)))] (.two (.two (.join [(0, (.one .slice)), (3, (.one .str)), (4, (.one (.int .i64)))] .n) (.two (.join [(0, (.one .slice)), (3, (.one .str)), (4, (.one (.int .i64)))] .n) .n)) .n)) .n))) .n)) .n)))
theorem f32_ok (N : Nat) : FnOK Tryz.prog 32 [(.one .slice)] (.val (.one .str)) (fun x h => f32 N x.1 h) :=
  runK_ok envOK hmix (addCall_ok (f12_ok N) noCalls_ok) (N := N) (x := ann32) (fn := Tryz.f32) (c := Tryz.f32.body.getD .skip) (by kernel_rfl) (by kernel_rfl) (by kernel_rfl) (by kernel_rfl) (fun _ _ => by kernel_rfl)

/- usufruct/usufructref9.Head -/
noncomputable def f14_l2_b (N : Nat) (go : Option (Nat × Nat) → List UInt8 → Int → Int → Heap → Option (Out × (Option (Nat × Nat) × List UInt8 × Int × Unit) × Heap)) (v1 : Option (Nat × Nat)) (v3 : List UInt8) (v4 : Int) (v5 : Int) (h : Heap) : Option (Out × (Option (Nat × Nat) × List UInt8 × Int × Unit) × Heap) :=
  (need v1 fun q15 =>
  (bindV (.val (.one .slice)) (h.cell (q15.1, q15.2 + 2)) fun (x16 : SL) =>
  (ixK x16.a x16.len v4 2 fun q17 =>
  (bindV (.val (.one .slice)) (h.cell (q17.1, q17.2 + 1)) fun (x18 : SL) =>
  let x19 : Bool := ltInt v5 (Int.ofNat x18.len)
  (bif x19 then
   (bind2 (α := (Option (Nat × Nat) × List UInt8 × Int × Int × Unit)) (
    (bind2 (α := (Option (Nat × Nat) × List UInt8 × Int × Int × Unit)) (
     let x20 : Bool := eqInt v5 0
     (bif x20 then
      (bindV (.val (.one .str)) (binStr .add v3 [58, 32]) fun (x21 : List UInt8) =>
      some ((v1, x21, v4, v5, ()), h))
     else
      (bindV (.val (.one .str)) (binStr .add v3 [32, 43, 32]) fun (x22 : List UInt8) =>
      some ((v1, x22, v4, v5, ()), h)))) fun (j23 : (Option (Nat × Nat) × List UInt8 × Int × Int × Unit)) h24 =>
    (bindV (.val (.one .str)) (binStr .add j23.2.1 [39]) fun (x25 : List UInt8) =>
    (need j23.1 fun q26 =>
    (bindV (.val (.one .slice)) (h24.cell (q26.1, q26.2 + 2)) fun (x27 : SL) =>
    (ixK x27.a x27.len j23.2.2.1 2 fun q28 =>
    (bindV (.val (.one .slice)) (h24.cell (q28.1, q28.2 + 1)) fun (x29 : SL) =>
    (ixK x29.a x29.len j23.2.2.2.1 1 fun q30 =>
    (bindV (.val (.one .str)) (h24.cell q30) fun (x31 : List UInt8) =>
    (bindV (.val (.one .str)) (binStr .add x25 x31) fun (x32 : List UInt8) =>
    some ((j23.1, x32, j23.2.2.1, j23.2.2.2.1, ()), h24))))))))))) fun (j33 : (Option (Nat × Nat) × List UInt8 × Int × Int × Unit)) h34 =>
   let x35 : Int := wrapA .i64 (j33.2.2.2.1 + 1)
   go j33.1 j33.2.1 j33.2.2.1 x35 h34)
  else
   some ((Out.exit 2), (v1, v3, v4, ()), h))))))
noncomputable def f14_l2 (N M : Nat) (v1 : Option (Nat × Nat)) (v3 : List UInt8) (v4 : Int) (v5 : Int) (h : Heap) : Option (Out × (Option (Nat × Nat) × List UInt8 × Int × Unit) × Heap) := iter (fun go s h => f14_l2_b N (fun v1 v3 v4 v5 h => go (v1, v3, v4, v5, ()) h) s.1 s.2.1 s.2.2.1 s.2.2.2.1 h) M (v1, v3, v4, v5, ()) h
theorem f14_l2_succ (N M : Nat) (v1 : Option (Nat × Nat)) (v3 : List UInt8) (v4 : Int) (v5 : Int) (h : Heap) : f14_l2 N (M + 1) v1 v3 v4 v5 h = f14_l2_b N (f14_l2 N M) v1 v3 v4 v5 h := rfl
theorem f14_l2_zero (N : Nat) (v1 : Option (Nat × Nat)) (v3 : List UInt8) (v4 : Int) (v5 : Int) (h : Heap) : f14_l2 N 0 v1 v3 v4 v5 h = none := rfl
noncomputable def f14_l1_b (N : Nat) (go : Option (Nat × Nat) → List UInt8 → Int → Heap → Option (Out × (Option (Nat × Nat) × List UInt8 × Unit) × Heap)) (v1 : Option (Nat × Nat)) (v3 : List UInt8) (v4 : Int) (h : Heap) : Option (Out × (Option (Nat × Nat) × List UInt8 × Unit) × Heap) :=
  (need v1 fun q2 =>
  (bindV (.val (.one .slice)) (h.cell (q2.1, q2.2 + 2)) fun (x3 : SL) =>
  let x4 : Bool := ltInt v4 (Int.ofNat x3.len)
  (bif x4 then
   (bind2 (α := (Option (Nat × Nat) × List UInt8 × Int × Unit)) (
    (bind2 (α := (Option (Nat × Nat) × List UInt8 × Int × Unit)) (
     let x5 : Bool := ltInt 0 v4
     (bif x5 then
      (bindV (.val (.one .str)) (binStr .add v3 [44, 32]) fun (x6 : List UInt8) =>
      some ((v1, x6, v4, ()), h))
     else
      some ((v1, v3, v4, ()), h))) fun (j7 : (Option (Nat × Nat) × List UInt8 × Int × Unit)) h8 =>
    (bindV (.val (.one .str)) (binStr .add j7.2.1 [39]) fun (x9 : List UInt8) =>
    (need j7.1 fun q10 =>
    (bindV (.val (.one .slice)) (h8.cell (q10.1, q10.2 + 2)) fun (x11 : SL) =>
    (ixK x11.a x11.len j7.2.2.1 2 fun q12 =>
    (bindV (.val (.one .str)) (h8.cell (q12.1, q12.2 + 0)) fun (x13 : List UInt8) =>
    (bindV (.val (.one .str)) (binStr .add x9 x13) fun (x14 : List UInt8) =>
    (bind3 (f14_l2 N N j7.1 x14 j7.2.2.1 0 h8) fun _ (j37 : (Option (Nat × Nat) × List UInt8 × Int × Unit)) h38 =>
    some ((j37.1, j37.2.1, j37.2.2.1, ()), h38)))))))))) fun (j39 : (Option (Nat × Nat) × List UInt8 × Int × Unit)) h40 =>
   let x41 : Int := wrapA .i64 (j39.2.2.1 + 1)
   go j39.1 j39.2.1 x41 h40)
  else
   some ((Out.exit 0), (v1, v3, ()), h))))
noncomputable def f14_l1 (N M : Nat) (v1 : Option (Nat × Nat)) (v3 : List UInt8) (v4 : Int) (h : Heap) : Option (Out × (Option (Nat × Nat) × List UInt8 × Unit) × Heap) := iter (fun go s h => f14_l1_b N (fun v1 v3 v4 h => go (v1, v3, v4, ()) h) s.1 s.2.1 s.2.2.1 h) M (v1, v3, v4, ()) h
theorem f14_l1_succ (N M : Nat) (v1 : Option (Nat × Nat)) (v3 : List UInt8) (v4 : Int) (h : Heap) : f14_l1 N (M + 1) v1 v3 v4 h = f14_l1_b N (f14_l1 N M) v1 v3 v4 h := rfl
theorem f14_l1_zero (N : Nat) (v1 : Option (Nat × Nat)) (v3 : List UInt8) (v4 : Int) (h : Heap) : f14_l1 N 0 v1 v3 v4 h = none := rfl
noncomputable def f14 (N : Nat) (a0 : (Bool × List UInt8 × SL × SL × Int × List UInt8 × SL × SL × SL × Int × Unit)) (h : Heap) : Option (List UInt8 × Heap) :=
  let h1 : Heap := h.push (.row [(.bool a0.1), (.str a0.2.1), (.slice a0.2.2.1.a a0.2.2.1.len a0.2.2.1.cap a0.2.2.1.sz), (.slice a0.2.2.2.1.a a0.2.2.2.1.len a0.2.2.2.1.cap a0.2.2.2.1.sz), (.int .i64 a0.2.2.2.2.1), (.str a0.2.2.2.2.2.1), (.slice a0.2.2.2.2.2.2.1.a a0.2.2.2.2.2.2.1.len a0.2.2.2.2.2.2.1.cap a0.2.2.2.2.2.2.1.sz), (.slice a0.2.2.2.2.2.2.2.1.a a0.2.2.2.2.2.2.2.1.len a0.2.2.2.2.2.2.2.1.cap a0.2.2.2.2.2.2.2.1.sz), (.slice a0.2.2.2.2.2.2.2.2.1.a a0.2.2.2.2.2.2.2.2.1.len a0.2.2.2.2.2.2.2.2.1.cap a0.2.2.2.2.2.2.2.2.1.sz), (.int .i64 a0.2.2.2.2.2.2.2.2.2.1)] .own)
  (bind3 (f14_l1 N N (some (h.next, 0)) [] 0 h1) fun _ (j43 : (Option (Nat × Nat) × List UInt8 × Unit)) h44 =>
  (bind2 (α := (Option (Nat × Nat) × List UInt8 × Unit)) (
   let x45 : Bool := !eqBytes j43.2.1 []
   (bif x45 then
    (bindV (.val (.one .str)) (binStr .add [60] j43.2.1) fun (x46 : List UInt8) =>
    (bindV (.val (.one .str)) (binStr .add x46 [62]) fun (x47 : List UInt8) =>
    some ((j43.1, x47, ()), h44)))
   else
    some ((j43.1, j43.2.1, ()), h44))) fun (j48 : (Option (Nat × Nat) × List UInt8 × Unit)) h49 =>
  (need j48.1 fun q50 =>
  (bindV (.val (.one .bool)) (h49.cell (q50.1, q50.2 + 0)) fun (x51 : Bool) =>
  (bind2 (f31 N x51 h49) fun (x52 : List UInt8) h53 =>
  (bindV (.val (.one .str)) (binStr .add x52 [102, 110, 32]) fun (x54 : List UInt8) =>
  (need j48.1 fun q55 =>
  (bindV (.val (.one .str)) (h53.cell (q55.1, q55.2 + 1)) fun (x56 : List UInt8) =>
  (bindV (.val (.one .str)) (binStr .add x54 x56) fun (x57 : List UInt8) =>
  (bindV (.val (.one .str)) (binStr .add x57 j48.2.1) fun (x58 : List UInt8) =>
  (bindV (.val (.one .str)) (binStr .add x58 [40]) fun (x59 : List UInt8) =>
  (need j48.1 fun q60 =>
  (bindV (.val (.one .slice)) (h53.cell (q60.1, q60.2 + 3)) fun (x61 : SL) =>
  (bind2 (f32 N x61 h53) fun (x62 : List UInt8) h63 =>
  (bindV (.val (.one .str)) (binStr .add x59 x62) fun (x64 : List UInt8) =>
  (bindV (.val (.one .str)) (binStr .add x64 [41]) fun (x65 : List UInt8) =>
  (guardB (bif (sameO (h53.cell (q60.1, q60.2 + 3)) (.slice x61.a x61.len x61.cap x61.sz)) then (bif (sameO (h49.cell (q60.1, q60.2 + 3)) (.slice x61.a x61.len x61.cap x61.sz)) then (bif (sameO (h63.cell (q55.1, q55.2 + 1)) (.str x56)) then (bif (sameO (h53.cell (q55.1, q55.2 + 1)) (.str x56)) then (bif (sameO (h49.cell (q55.1, q55.2 + 1)) (.str x56)) then (bif (sameO (h49.cell (q50.1, q50.2 + 0)) (.bool x51)) then true else false) else false) else false) else false) else false) else false) (
  (bind2 (α := (List UInt8 × Unit)) (
   (need j48.1 fun q66 =>
   (bindV (.val (.one (.int .i64))) (h63.cell ((q66.1, q66.2 + 4).1, (q66.1, q66.2 + 4).2 + 0)) fun (x67 : Int) =>
   let x68 : Bool := !eqInt x67 0
   (bif x68 then
    (bindV (.val (.one .str)) (binStr .add x65 [32, 45, 62, 32]) fun (x69 : List UInt8) =>
    (need j48.1 fun q70 =>
    (bindV (.val (.agg [(.int .i64), .str, .slice, .slice])) (h63.cells (q70.1, q70.2 + 4) 4) fun (x71 : (Int × List UInt8 × SL × SL × Unit)) =>
    (bind2 (f12 N N (x71.1, x71.2.1, x71.2.2.1, x71.2.2.2.1, ()) h63) fun (x72 : List UInt8) h73 =>
    (bindV (.val (.one .str)) (binStr .add x69 x72) fun (x74 : List UInt8) =>
    some ((x74, ()), h73))))))
   else
    some ((x65, ()), h63))))) fun (j75 : (List UInt8 × Unit)) h76 =>
  some (j75.1, h76))))))))))))))))))))
noncomputable def ann14 : Ann := (.two .n (.two .n (.two (.two .n (.two (.loop [(1, (.one .ptr)), (3, (.one .str)), (4, (.one (.int .i64)))] [(.exit 0)] [(1, (.one .ptr)), (3, (.one .str))] (.two .n (.two (.join [(1, (.one .ptr)), (3, (.one .str)), (4, (.one (.int .i64)))] (.two (.two (.join [(1, (.one .ptr)), (3, (.one .str)), (4, (.one (.int .i64)))] .n) (.two .n (.two .n (.two (.loop [(1, (.one .ptr)), (3, (.one .str)), (4, (.one (.int .i64))), (5, (.one (.int .i64)))] [(.exit 2)] [(1, (.one .ptr)), (3, (.one .str)), (4, (.one (.int .i64)))] (.two .n (.two (.join [(1, (.one .ptr)), (3, (.one .str)), (4, (.one (.int .i64))), (5, (.one (.int .i64)))] (.two (.two (.join [(1, (.one .ptr)), (3, (.one .str)), (4, (.one (.int .i64))), (5, (.one (.int .i64)))] .n) .n) .n)) .n))) .n)))) .n)) .n))) .n)) (.two (.join [(1, (.one .ptr)), (3, (.one .str))] .n) (.two .n (.two (.join [(3, (.one .str))] .n) .n))))))
theorem f14_ok (N : Nat) : FnOK Tryz.prog 14 [(.agg [.bool, .str, .slice, .slice, (.int .i64), .str, .slice, .slice, .slice, (.int .i64)])] (.val (.one .str)) (fun x h => f14 N x.1 h) :=
  runK_ok envOK hmix (addCall_ok (f32_ok N) (addCall_ok (f31_ok N) (addCall_ok (f12_ok N) noCalls_ok))) (N := N) (x := ann14) (fn := Tryz.f14) (c := Tryz.f14.body.getD .skip) (by kernel_rfl) (by kernel_rfl) (by kernel_rfl) (by kernel_rfl) (fun _ _ => by kernel_rfl)

/- usufruct/usufructlaw9.PrintHeads -/
noncomputable def f4 (N : Nat) (a0 : (Int × List UInt8 × SL × SL × Unit)) (a1 : (Bool × List UInt8 × SL × SL × Int × List UInt8 × SL × SL × SL × Int × Unit)) (h : Heap) : Option (Bool × Heap) :=
  let h1 : Heap := h.push (.row [(.int .i64 a0.1), (.str a0.2.1), (.slice a0.2.2.1.a a0.2.2.1.len a0.2.2.1.cap a0.2.2.1.sz), (.slice a0.2.2.2.1.a a0.2.2.2.1.len a0.2.2.2.1.cap a0.2.2.2.1.sz)] .own)
  let h2 : Heap := h1.push (.row [(.bool a1.1), (.str a1.2.1), (.slice a1.2.2.1.a a1.2.2.1.len a1.2.2.1.cap a1.2.2.1.sz), (.slice a1.2.2.2.1.a a1.2.2.2.1.len a1.2.2.2.1.cap a1.2.2.2.1.sz), (.int .i64 a1.2.2.2.2.1), (.str a1.2.2.2.2.2.1), (.slice a1.2.2.2.2.2.2.1.a a1.2.2.2.2.2.2.1.len a1.2.2.2.2.2.2.1.cap a1.2.2.2.2.2.2.1.sz), (.slice a1.2.2.2.2.2.2.2.1.a a1.2.2.2.2.2.2.2.1.len a1.2.2.2.2.2.2.2.1.cap a1.2.2.2.2.2.2.2.1.sz), (.slice a1.2.2.2.2.2.2.2.2.1.a a1.2.2.2.2.2.2.2.2.1.len a1.2.2.2.2.2.2.2.2.1.cap a1.2.2.2.2.2.2.2.2.1.sz), (.int .i64 a1.2.2.2.2.2.2.2.2.2.1)] .own)
  (bindV (.val (.one .slice)) (h2.cell ((h1.next, 0).1, (h1.next, 0).2 + 2)) fun (x3 : SL) =>
  let x4 : Bool := ltInt 70 (Int.ofNat x3.len)
  (bif x4 then
   (bind2 (f7 N  h2) fun (x5 : Bool) h6 =>
   some (x5, h6))
  else
   (bindV (.val (.one .slice)) (h2.cell ((h1.next, 0).1, (h1.next, 0).2 + 3)) fun (x7 : SL) =>
   let x8 : Bool := ltInt 70 (Int.ofNat x7.len)
   (bif x8 then
    (bind2 (f7 N  h2) fun (x9 : Bool) h10 =>
    some (x9, h10))
   else
    (bind2 (f7 N  h2) fun (x11 : Bool) h12 =>
    (bif x11 then
     (bindV (.val (.agg [(.int .i64), .str, .slice, .slice])) (h12.cells (h.next, 0) 4) fun (x13 : (Int × List UInt8 × SL × SL × Unit)) =>
     (bind2 (f11 N N (x13.1, x13.2.1, x13.2.2.1, x13.2.2.2.1, ()) h12) fun (x14 : List UInt8) h15 =>
     (bindV (.val (.agg [(.int .i64), .str, .slice, .slice])) (h15.cells (h.next, 0) 4) fun (x16 : (Int × List UInt8 × SL × SL × Unit)) =>
     (bind2 (f12 N N (x16.1, x16.2.1, x16.2.2.1, x16.2.2.2.1, ()) h15) fun (x17 : List UInt8) h18 =>
     let x19 : Bool := eqBytes x14 x17
     (bif x19 then
      (bindV (.val (.agg [.bool, .str, .slice, .slice, (.int .i64), .str, .slice, .slice, .slice, (.int .i64)])) (h18.cells (h1.next, 0) 10) fun (x20 : (Bool × List UInt8 × SL × SL × Int × List UInt8 × SL × SL × SL × Int × Unit)) =>
      (bind2 (f13 N (x20.1, x20.2.1, x20.2.2.1, x20.2.2.2.1, x20.2.2.2.2.1, x20.2.2.2.2.2.1, x20.2.2.2.2.2.2.1, x20.2.2.2.2.2.2.2.1, x20.2.2.2.2.2.2.2.2.1, x20.2.2.2.2.2.2.2.2.2.1, ()) h18) fun (x21 : List UInt8) h22 =>
      (bindV (.val (.agg [.bool, .str, .slice, .slice, (.int .i64), .str, .slice, .slice, .slice, (.int .i64)])) (h22.cells (h1.next, 0) 10) fun (x23 : (Bool × List UInt8 × SL × SL × Int × List UInt8 × SL × SL × SL × Int × Unit)) =>
      (bind2 (f14 N (x23.1, x23.2.1, x23.2.2.1, x23.2.2.2.1, x23.2.2.2.2.1, x23.2.2.2.2.2.1, x23.2.2.2.2.2.2.1, x23.2.2.2.2.2.2.2.1, x23.2.2.2.2.2.2.2.2.1, x23.2.2.2.2.2.2.2.2.2.1, ()) h22) fun (x24 : List UInt8) h25 =>
      let x26 : Bool := eqBytes x21 x24
      (guardB (bif (sameO (h22.cells (h1.next, 0) 10) (.agg [(.bool x23.1), (.str x23.2.1), (.slice x23.2.2.1.a x23.2.2.1.len x23.2.2.1.cap x23.2.2.1.sz), (.slice x23.2.2.2.1.a x23.2.2.2.1.len x23.2.2.2.1.cap x23.2.2.2.1.sz), (.int .i64 x23.2.2.2.2.1), (.str x23.2.2.2.2.2.1), (.slice x23.2.2.2.2.2.2.1.a x23.2.2.2.2.2.2.1.len x23.2.2.2.2.2.2.1.cap x23.2.2.2.2.2.2.1.sz), (.slice x23.2.2.2.2.2.2.2.1.a x23.2.2.2.2.2.2.2.1.len x23.2.2.2.2.2.2.2.1.cap x23.2.2.2.2.2.2.2.1.sz), (.slice x23.2.2.2.2.2.2.2.2.1.a x23.2.2.2.2.2.2.2.2.1.len x23.2.2.2.2.2.2.2.2.1.cap x23.2.2.2.2.2.2.2.2.1.sz), (.int .i64 x23.2.2.2.2.2.2.2.2.2.1)])) then (bif (sameO (h18.cells (h1.next, 0) 10) (.agg [(.bool x23.1), (.str x23.2.1), (.slice x23.2.2.1.a x23.2.2.1.len x23.2.2.1.cap x23.2.2.1.sz), (.slice x23.2.2.2.1.a x23.2.2.2.1.len x23.2.2.2.1.cap x23.2.2.2.1.sz), (.int .i64 x23.2.2.2.2.1), (.str x23.2.2.2.2.2.1), (.slice x23.2.2.2.2.2.2.1.a x23.2.2.2.2.2.2.1.len x23.2.2.2.2.2.2.1.cap x23.2.2.2.2.2.2.1.sz), (.slice x23.2.2.2.2.2.2.2.1.a x23.2.2.2.2.2.2.2.1.len x23.2.2.2.2.2.2.2.1.cap x23.2.2.2.2.2.2.2.1.sz), (.slice x23.2.2.2.2.2.2.2.2.1.a x23.2.2.2.2.2.2.2.2.1.len x23.2.2.2.2.2.2.2.2.1.cap x23.2.2.2.2.2.2.2.2.1.sz), (.int .i64 x23.2.2.2.2.2.2.2.2.2.1)])) then (bif (sameO (h18.cells (h1.next, 0) 10) (.agg [(.bool x20.1), (.str x20.2.1), (.slice x20.2.2.1.a x20.2.2.1.len x20.2.2.1.cap x20.2.2.1.sz), (.slice x20.2.2.2.1.a x20.2.2.2.1.len x20.2.2.2.1.cap x20.2.2.2.1.sz), (.int .i64 x20.2.2.2.2.1), (.str x20.2.2.2.2.2.1), (.slice x20.2.2.2.2.2.2.1.a x20.2.2.2.2.2.2.1.len x20.2.2.2.2.2.2.1.cap x20.2.2.2.2.2.2.1.sz), (.slice x20.2.2.2.2.2.2.2.1.a x20.2.2.2.2.2.2.2.1.len x20.2.2.2.2.2.2.2.1.cap x20.2.2.2.2.2.2.2.1.sz), (.slice x20.2.2.2.2.2.2.2.2.1.a x20.2.2.2.2.2.2.2.2.1.len x20.2.2.2.2.2.2.2.2.1.cap x20.2.2.2.2.2.2.2.2.1.sz), (.int .i64 x20.2.2.2.2.2.2.2.2.2.1)])) then (bif (sameO (h15.cells (h.next, 0) 4) (.agg [(.int .i64 x16.1), (.str x16.2.1), (.slice x16.2.2.1.a x16.2.2.1.len x16.2.2.1.cap x16.2.2.1.sz), (.slice x16.2.2.2.1.a x16.2.2.2.1.len x16.2.2.2.1.cap x16.2.2.2.1.sz)])) then (bif (sameO (h12.cells (h.next, 0) 4) (.agg [(.int .i64 x16.1), (.str x16.2.1), (.slice x16.2.2.1.a x16.2.2.1.len x16.2.2.1.cap x16.2.2.1.sz), (.slice x16.2.2.2.1.a x16.2.2.2.1.len x16.2.2.2.1.cap x16.2.2.2.1.sz)])) then (bif (sameO (h12.cells (h.next, 0) 4) (.agg [(.int .i64 x13.1), (.str x13.2.1), (.slice x13.2.2.1.a x13.2.2.1.len x13.2.2.1.cap x13.2.2.1.sz), (.slice x13.2.2.2.1.a x13.2.2.2.1.len x13.2.2.2.1.cap x13.2.2.2.1.sz)])) then true else false) else false) else false) else false) else false) else false) (
      some (x26, h25)))))))
     else
      (guardB (bif (sameO (h15.cells (h.next, 0) 4) (.agg [(.int .i64 x16.1), (.str x16.2.1), (.slice x16.2.2.1.a x16.2.2.1.len x16.2.2.1.cap x16.2.2.1.sz), (.slice x16.2.2.2.1.a x16.2.2.2.1.len x16.2.2.2.1.cap x16.2.2.2.1.sz)])) then (bif (sameO (h12.cells (h.next, 0) 4) (.agg [(.int .i64 x16.1), (.str x16.2.1), (.slice x16.2.2.1.a x16.2.2.1.len x16.2.2.1.cap x16.2.2.1.sz), (.slice x16.2.2.2.1.a x16.2.2.2.1.len x16.2.2.2.1.cap x16.2.2.2.1.sz)])) then (bif (sameO (h12.cells (h.next, 0) 4) (.agg [(.int .i64 x13.1), (.str x13.2.1), (.slice x13.2.2.1.a x13.2.2.1.len x13.2.2.1.cap x13.2.2.1.sz), (.slice x13.2.2.2.1.a x13.2.2.2.1.len x13.2.2.2.1.cap x13.2.2.2.1.sz)])) then true else false) else false) else false) (
      some (false, h18))))))))
    else
     (guardB true (
     some (false, h12)))))))))
noncomputable def ann4 : Ann := .n
theorem f4_ok (N : Nat) : FnOK Tryz.prog 4 [(.agg [(.int .i64), .str, .slice, .slice]), (.agg [.bool, .str, .slice, .slice, (.int .i64), .str, .slice, .slice, .slice, (.int .i64)])] (.val (.one .bool)) (fun x h => f4 N x.1 x.2.1 h) :=
  runK_ok envOK hmix (addCall_ok (f14_ok N) (addCall_ok (f13_ok N) (addCall_ok (f12_ok N) (addCall_ok (f11_ok N) (addCall_ok (f7_ok N) noCalls_ok))))) (N := N) (x := ann4) (fn := Tryz.f4) (c := Tryz.f4.body.getD .skip) (by kernel_rfl) (by kernel_rfl) (by kernel_rfl) (by kernel_rfl) (fun _ _ => by kernel_rfl)
end Go.Proofs.YtghlcagikpdfiaaGreatDoor.Pq

set_option linter.unusedVariables false
set_option linter.unusedSimpArgs false
open Go Go.Proofs.YtghlcagikpdfiaaGreatDoor.Ai Go.Proofs
namespace Go.Proofs.YtghlcagikpdfiaaGreatDoor.Pq
theorem takeN_of' : ∀ (n : Nat) (l : List AV), n ≤ l.length → takeN n l = some (l.take n) := takeN_of
/-- one cell of an element -/
theorem Sees.sub {h : Heap} {s : SL} {vs : List AV} (hx : Sees h s vs) {n : Nat} (h1 : s.sz = n) {i j : Nat} (hi : i < s.len) (hj : j < n) : h.cell ((s.at i n).1, (s.at i n).2 + j) = vs[i * n + j]? := by
  obtain ⟨h2, h3, h4⟩ := hx
  subst h1
  cases ha : s.a with
  | none => have := h3 ha; omega
  | some q =>
    obtain ⟨A, off⟩ := q
    obtain ⟨_, cs, h5, h6⟩ := h4 A off ha
    have hle : i * s.sz + s.sz ≤ s.len * s.sz := by
      rw [← Nat.succ_mul]; exact Nat.mul_le_mul_right _ hi
    simp only [SL.at, ha, Option.getD_some, Heap.cell_g, cellB_row, h5, Option.bind_some]
    have e : cs[off + i * s.sz + j]? = ((cs.drop off).take vs.length)[i * s.sz + j]? := by
      rw [List.getElem?_take, if_pos (by omega), List.getElem?_drop, Nat.add_assoc]
    rw [e, h6]
/-- some cells of an element -/
theorem Sees.subs {h : Heap} {s : SL} {vs : List AV} (hx : Sees h s vs) {n : Nat} (h1 : s.sz = n) {i j m : Nat} (hi : i < s.len) (hj : j + m ≤ n) : h.cells ((s.at i n).1, (s.at i n).2 + j) m = some (.agg ((vs.drop (i * n + j)).take m)) := by
  obtain ⟨h2, h3, h4⟩ := hx
  subst h1
  cases ha : s.a with
  | none => have := h3 ha; omega
  | some q =>
    obtain ⟨A, off⟩ := q
    obtain ⟨_, cs, h5, h6⟩ := h4 A off ha
    have hle : i * s.sz + s.sz ≤ s.len * s.sz := by
      rw [← Nat.succ_mul]; exact Nat.mul_le_mul_right _ hi
    have hlen : ((cs.drop off).take vs.length).length = vs.length := by rw [h6]
    rw [List.length_take, List.length_drop] at hlen
    simp only [SL.at, ha, Option.getD_some, Heap.cells_g, cellsB_row, h5, Option.bind_some]
    rw [takeN_of _ _ (by rw [List.length_drop]; omega)]
    simp only [Option.map_some, Option.some.injEq, AV.agg.injEq]
    rw [← h6, List.drop_take, List.take_take, List.drop_drop, Nat.min_eq_left (by omega), Nat.add_assoc]
/-! texts -/
abbrev Bs := List UInt8
def Strs (h : Heap) (s : SL) (l : List Bs) : Prop := One h s (l.map AV.str) ∧ s.len ≤ s.cap
theorem Strs.len {h : Heap} {s : SL} {l : List Bs} (x : Strs h s l) : s.len = l.length := by have := x.1.1; simpa using this
theorem Strs.under {h : Heap} {s : SL} {l : List Bs} (x : Strs h s l) : s.under h.next := x.1.2.2.under
theorem Strs.keep {h h' : Heap} {s : SL} {l : List Bs} {B : Nat} (x : Strs h s l) (hu : s.under B) (hk : Keep B h h') : Strs h' s l := ⟨x.1.keep hk hu, x.2⟩
theorem strsOf_map : ∀ l : List Bs, Np.strsOf (l.map AV.str) = some l
  | [] => rfl
  | x :: r => by simp [Np.strsOf, strsOf_map r]
theorem One.str {β : Type} {h : Heap} {s : SL} {l : List Bs} (hs : One h s (l.map AV.str)) {x : Int} (h0 : 0 ≤ x) (h1 : x < l.length) (K : Bs → Option β) :
    (ixK s.a s.len x 1 fun q => bindV (.val (.one .str)) (h.cell q) K) = K (l.getD x.toNat []) := by
  rw [hs.ixz h0 (by simpa using h1), hs.cell (by simp; omega)]
  simp only [bindV_some, List.getElem_map, cast_str]
  rw [getD_lt _ _ (by omega)]
theorem join_eq {h : Heap} {s : SL} {l : List Bs} (x : Strs h s l) (sep : Bs) (h1 : l.length ≤ 140737488355328) (h2 : (Np.joinL l sep).length ≤ 140737488355328) : Np.joinF s sep h = some (Np.joinL l sep, h) := by
  obtain ⟨⟨e1, e2, e3⟩, hc⟩ := x
  rw [List.length_map] at e1
  unfold Np.joinF
  cases hl : l with
  | nil =>
    subst hl
    have : Nat.beq s.len 0 = true := by rw [e1]; rfl
    rw [this]; rfl
  | cons y r =>
    have hb : Nat.beq s.len 0 = false := by rw [e1, hl]; rfl
    rw [hb, ← hl]
    simp only [cond_false]
    have h0 : 0 < s.len := by rw [e1, hl]; simp
    obtain ⟨q, hq⟩ := Option.isSome_iff_exists.1 (e3.isSome h0)
    obtain ⟨A, off⟩ := q
    simp only [hq]
    have hc' : Nat.ble s.len s.cap = true := by simpa using hc
    simp only [hc', cond_true]
    have hrd : h.read A off s.len = some (l.map AV.str) := by
      obtain ⟨_, cs, h5, h6⟩ := e3.2.2 A off hq
      have hrow := row_of_rowB A h5
      simp only [Heap.read, hrow]
      have hlen : ((cs.drop off).take (l.map AV.str).length).length = (l.map AV.str).length := by rw [h6]
      rw [List.length_take] at hlen
      rw [takeN_of _ _ (by rw [List.length_map] at hlen; omega), Option.some.injEq]
      rw [List.length_map, ← e1] at h6
      exact h6
    have hbd : (Nat.ble l.length 140737488355328 && Nat.ble (Np.joinL l sep).length 140737488355328) = true := by
      simp only [Bool.and_eq_true, Nat.ble_eq]; exact ⟨h1, h2⟩
    simp only [hrd, strsOf_map, hbd, cond_true]
theorem add_eq {x y : Bs} (h : x.length + y.length ≤ 1099511627776) : binStr .add x y = some (.str (x ++ y)) := by
  have : Nat.ble (x.length + y.length) 1099511627776 = true := by simpa using h
  simp only [binStr, this, cond_true]
theorem bindV_add {β : Type} {x y : Bs} (h : x.length + y.length ≤ 1099511627776) (K : Bs → Option β) : bindV (.val (.one .str)) (binStr .add x y) K = K (x ++ y) := by
  rw [add_eq h]; rfl
/-- what texts weigh -/
def wts : List Bs → Nat
  | [] => 0
  | x :: r => x.length + 1 + wts r
theorem joinL_le (sep : Bs) : ∀ l : List Bs, (Np.joinL l sep).length ≤ wts l * (sep.length + 1)
  | [] => by simp [Np.joinL]
  | [x] => by
    simp only [Np.joinL, wts, Nat.add_zero]
    have := Nat.le_mul_of_pos_right (x.length + 1) (Nat.succ_pos sep.length)
    simp only [Nat.succ_eq_add_one] at this
    omega
  | x :: y :: r => by
    have ih := joinL_le sep (y :: r)
    simp only [Np.joinL, List.length_append]
    have e : wts (x :: y :: r) * (sep.length + 1) = (x.length + 1) * (sep.length + 1) + wts (y :: r) * (sep.length + 1) := by
      rw [← Nat.add_mul]; rfl
    have h1 : x.length + sep.length ≤ (x.length + 1) * (sep.length + 1) := by
      rw [Nat.add_mul, Nat.one_mul]
      have := Nat.le_mul_of_pos_right x.length (Nat.succ_pos sep.length)
      simp only [Nat.succ_eq_add_one] at this
      omega
    rw [e]
    omega
theorem length_le_wts : ∀ l : List Bs, l.length ≤ wts l
  | [] => Nat.le_refl _
  | x :: r => by have := length_le_wts r; simp only [List.length_cons, wts]; omega
end Go.Proofs.YtghlcagikpdfiaaGreatDoor.Pq

set_option linter.unusedVariables false
set_option linter.unusedSimpArgs false
open Go Go.Proofs.YtghlcagikpdfiaaGreatDoor.Ai Go.Proofs
namespace Go.Proofs.YtghlcagikpdfiaaGreatDoor.Pq
/-! lifetimes -/
def mks (l : List Bs) : Bs := match l with
  | [] => []
  | _ => [60, 39] ++ Np.joinL l [44, 32, 39] ++ [62]
/-- the same, put together from the left -/
def mkT : List Bs → Bs
  | [] => []
  | x :: r => [44, 32] ++ [39] ++ x ++ mkT r
theorem join_mkT : ∀ (x : Bs) (r : List Bs), Np.joinL (x :: r) [44, 32, 39] = x ++ mkT r
  | x, [] => by simp [Np.joinL, mkT]
  | x, y :: r => by
    show x ++ ([44, 32, 39] ++ Np.joinL (y :: r) [44, 32, 39]) = _
    rw [join_mkT y r]; simp [mkT]
theorem mkT_snoc : ∀ (l : List Bs) (x : Bs), mkT (l ++ [x]) = mkT l ++ ([44, 32] ++ [39] ++ x)
  | [], x => by simp [mkT]
  | y :: r, x => by simp only [List.cons_append, mkT, mkT_snoc r x, List.append_assoc]
/-- what marks has behind i lifetimes -/
def mkA (l : List Bs) : Bs := match l with
  | [] => []
  | x :: r => [39] ++ x ++ mkT r
theorem mkA_le : ∀ l : List Bs, (mkA l).length ≤ 4 * wts l
  | [] => by simp [mkA]
  | x :: r => by
    have := joinL_le [44, 32, 39] (x :: r)
    rw [join_mkT] at this
    simp only [mkA, List.length_append, List.length_cons, List.length_nil] at this ⊢
    have e : (mkT r).length ≤ 4 * wts r := by
      clear this
      induction r with
      | nil => simp [mkT]
      | cons y r ih => simp only [mkT, List.length_append, List.length_cons, List.length_nil, wts]; omega
    simp only [wts]
    omega
theorem mks_eq (l : List Bs) : mks l = (match l with | [] => [] | _ => [60] ++ mkA l ++ [62]) := by
  cases l with
  | nil => rfl
  | cons x r => simp only [mks, mkA, join_mkT]; simp
theorem mks_le (l : List Bs) : (mks l).length ≤ 4 * wts l + 2 := by
  rw [mks_eq]
  cases l with
  | nil => simp
  | cons x r => have := mkA_le (x :: r); simp only [List.length_append, List.length_cons, List.length_nil]; omega
theorem f23_eq {N : Nat} {h : Heap} {s : SL} {l : List Bs} (x : Strs h s l) (hw : wts l ≤ 2000000) : f23 N s h = some (mks l, h) := by
  have hl := x.len
  have hlw := length_le_wts l
  have hj := joinL_le [44, 32, 39] l
  simp only [List.length_cons, List.length_nil] at hj
  unfold f23 f30
  cases l with
  | nil =>
    have e : eqInt (Int.ofNat s.len) 0 = true := by rw [hl]; rfl
    simp only [e, cond_true]; rfl
  | cons y r =>
    have e : eqInt (Int.ofNat s.len) 0 = false := by rw [hl, eqInt_dec]; simp; omega
    simp only [e, cond_false]
    rw [join_eq x _ (by omega) (by omega), bind2_some, bindV_add (by simp only [List.length_cons, List.length_nil]; omega), bindV_add (by simp only [List.length_append, List.length_cons, List.length_nil]; omega)]
    rfl
theorem ofInt_lt (i n : Nat) : ltInt (i : Int) (Int.ofNat n) = decide (i < n) := by
  rw [ltInt_dec]
  by_cases q : i < n
  · simp only [q, decide_true, decide_eq_true_eq]; exact Int.ofNat_lt.2 q
  · simp only [q, decide_false, decide_eq_false_iff_not]; intro r; exact q (Int.ofNat_lt.1 r)
theorem wts_take : ∀ (l : List Bs) (i : Nat), wts (l.take i) ≤ wts l
  | [], i => by simp
  | x :: r, 0 => by simp [wts]
  | x :: r, i + 1 => by have := wts_take r i; simp only [List.take_succ_cons, wts]; omega
theorem wts_get : ∀ (l : List Bs) (i : Nat) (h : i < l.length), l[i].length ≤ wts l
  | x :: r, 0, h => by simp only [List.getElem_cons_zero, wts]; omega
  | x :: r, i + 1, h => by have := wts_get r i (by simpa using h); simp only [List.getElem_cons_succ, wts]; omega
theorem mkA_snoc {l : List Bs} {i : Nat} (hi : i < l.length) : mkA (l.take (i + 1)) = if 0 < i then mkA (l.take i) ++ [44, 32] ++ [39] ++ l[i] else [39] ++ l[i] := by
  rw [List.take_succ_eq_append_getElem hi]
  cases l with
  | nil => simp at hi
  | cons x r =>
    cases i with
    | zero => simp [mkA, mkT]
    | succ i =>
      simp only [List.take_succ_cons, List.cons_append, mkA, List.getElem_cons_succ]
      rw [mkT_snoc, if_pos (Nat.succ_pos _)]
      simp
theorem marks_loop {N : Nat} {h : Heap} {s : SL} {l : List Bs} (x : Strs h s l) (hw : wts l ≤ 2000000) : ∀ (M i : Nat), i ≤ l.length → l.length - i < M → f29_l1 N M s (mkA (l.take i)) (i : Int) h = some (.exit 0, (mkA l, ()), h) := by
  intro M
  induction M with
  | zero => intro i _ h; omega
  | succ M ih =>
    intro i hi hM
    have hl := x.len
    have hlw := length_le_wts l
    rw [f29_l1_succ]
    unfold f29_l1_b
    simp only [ofInt_lt, hl]
    by_cases q : i < l.length
    · have hg : ∀ {β : Type} (K : Bs → Option β), (ixK s.a l.length (i : Int) 1 fun q => bindV (.val (.one .str)) (h.cell q) K) = K l[i] := fun K => by
        have := One.str x.1 (x := (i : Int)) (by omega) (by omega) K
        rw [hl] at this
        rw [this, Int.toNat_natCast, getD_lt _ _ q]
      have hw1 : wrapA .i64 ((i : Int) + 1) = ((i + 1 : Nat) : Int) := by rw [wrapA_small (by omega) (by omega)]; rfl
      have h1 := mkA_le (l.take i)
      have h2 := wts_take l i
      have h3 := wts_get l i q
      simp only [q, decide_true, cond_true]
      have z : ltInt 0 (i : Int) = decide (0 < i) := by
        rw [ltInt_dec]; by_cases z : 0 < i <;> simp [z] <;> omega
      rw [z]
      by_cases z : 0 < i
      · simp only [z, decide_true, cond_true]
        rw [bindV_add (by simp only [List.length_cons, List.length_nil]; omega), bindV_add (by simp only [List.length_append, List.length_cons, List.length_nil]; omega)]
        rw [hg, bindV_add (by simp only [List.length_append, List.length_cons, List.length_nil]; omega), hw1]
        have := ih (i + 1) q (by omega)
        rw [mkA_snoc q, if_pos z] at this
        exact this
      · simp only [z, decide_false, cond_false]
        have z0 : i = 0 := by omega
        subst z0
        rw [bindV_add (by simp [mkA])]
        rw [hg, bindV_add (by simp only [List.take_zero, mkA, List.length_append, List.length_cons, List.length_nil]; omega), hw1]
        have := ih 1 q (by omega)
        rw [mkA_snoc q, if_neg z] at this
        simpa [mkA] using this
    · simp only [q, decide_false, cond_false]
      rw [List.take_of_length_le (by omega)]
theorem f29_eq {N : Nat} {h : Heap} {s : SL} {l : List Bs} (x : Strs h s l) (hw : wts l ≤ 2000000) (hN : 2000001 ≤ N) : f29 N s h = some (mks l, h) := by
  have hlw := length_le_wts l
  unfold f29
  have := marks_loop (N := N) x hw N 0 (Nat.zero_le _) (by omega)
  simp only [List.take_zero] at this
  have e0 : mkA [] = [] := rfl
  rw [e0] at this
  rw [show ((0 : Nat) : Int) = 0 from rfl] at this
  rw [this, bind3_some]
  rw [mks_eq]
  have h1 := mkA_le l
  cases l with
  | nil => rfl
  | cons y r =>
    have e : eqBytes (mkA (y :: r)) [] = false := by simp [mkA, eqBytes]
    simp only [e, cond_false]
    rw [bindV_add (by simp only [List.length_cons, List.length_nil]; omega), bindV_add (by simp only [List.length_append, List.length_cons, List.length_nil]; omega)]
end Go.Proofs.YtghlcagikpdfiaaGreatDoor.Pq

set_option linter.unusedVariables false
set_option linter.unusedSimpArgs false
open Go Go.Proofs.YtghlcagikpdfiaaGreatDoor.Ai Go.Proofs
namespace Go.Proofs.YtghlcagikpdfiaaGreatDoor.Pq
/-! types -/
inductive GT where
  | leaf (k : Int) (nm : Bs) (ll : List Bs)
  | node (k : Int) (nm : Bs) (ll : List Bs) (t : GT)
abbrev TV := Int × List UInt8 × SL × SL × Unit
def cellsT (a : TV) : List AV := [.int .i64 a.1, .str a.2.1, .slice a.2.2.1.a a.2.2.1.len a.2.2.1.cap a.2.2.1.sz, .slice a.2.2.2.1.a a.2.2.2.1.len a.2.2.2.1.cap a.2.2.2.1.sz]
def TyIn (h : Heap) : GT → TV → Prop
  | .leaf k nm ll, a => a.1 = k ∧ a.2.1 = nm ∧ Strs h a.2.2.1 ll ∧ a.2.2.2.1.len = 0
  | .node k nm ll t, a => a.1 = k ∧ a.2.1 = nm ∧ Strs h a.2.2.1 ll ∧ 0 < a.2.2.2.1.len ∧ ∃ (e : TV) (rest : List AV), a.2.2.2.1.sz = 4 ∧ Sees h a.2.2.2.1 (cellsT e ++ rest) ∧ TyIn h t e
theorem TyIn.keep {h h' : Heap} (hk : Keep h.next h h') : ∀ {g : GT} {a : TV}, TyIn h g a → TyIn h' g a
  | .leaf k nm ll, a, ⟨h1, h2, h3, h4⟩ => ⟨h1, h2, h3.keep h3.under hk, h4⟩
  | .node k nm ll t, a, ⟨h1, h2, h3, h4, e, r, h5, h6, h7⟩ => ⟨h1, h2, h3.keep h3.under hk, h4, e, r, h5, h6.keep hk h6.under, TyIn.keep hk h7⟩
def hd (ll : List Bs) : Bs := match ll with
  | [] => [38]
  | x :: _ => [38] ++ [39] ++ x ++ [32]
def mt (k : Int) (s : Bs) : Bs := if k = 5 then s ++ [109, 117, 116, 32] else s
def small (k : Int) (nm : Bs) (ll : List Bs) (r : Bs) : Bs := if k = 1 then [105, 110, 116] else if k = 2 then [98, 111, 111, 108] else if k = 3 then nm ++ mks ll else if k = 4 then r else if k = 5 then r else []
def txt : GT → Bs
  | .leaf k nm ll => small k nm ll []
  | .node k nm ll t => small k nm ll (mt k (hd ll) ++ txt t)
def wt : GT → Nat
  | .leaf k nm ll => nm.length + wts ll + 5
  | .node k nm ll t => nm.length + wts ll + 5 + wt t
def dep : GT → Nat
  | .leaf .. => 1
  | .node _ _ _ t => dep t + 1
theorem dep_le : ∀ g, dep g ≤ wt g
  | .leaf .. => by simp only [dep, wt]; omega
  | .node k nm ll t => by have := dep_le t; simp only [dep, wt]; omega
theorem hd_le (ll : List Bs) : (hd ll).length ≤ wts ll + 3 := by
  cases ll with
  | nil => simp [hd]
  | cons x r => simp only [hd, wts, List.length_append, List.length_cons, List.length_nil]; omega
theorem mt_le (k : Int) (s : Bs) : (mt k s).length ≤ s.length + 4 := by
  unfold mt; split
  · simp
  · omega
theorem small_le (k : Int) (nm : Bs) (ll : List Bs) (r : Bs) : (small k nm ll r).length ≤ nm.length + 4 * wts ll + 6 + r.length := by
  have := mks_le ll
  unfold small
  split
  · simp; omega
  · split
    · simp; omega
    · split
      · simp; omega
      · split
        · omega
        · split
          · omega
          · simp
theorem txt_le : ∀ g, (txt g).length ≤ 6 * wt g
  | .leaf k nm ll => by
    have := small_le k nm ll []
    simp only [txt, wt, List.length_nil] at this ⊢; omega
  | .node k nm ll t => by
    have h1 := small_le k nm ll (mt k (hd ll) ++ txt t)
    have h2 := txt_le t
    have h3 := mt_le k (hd ll)
    have h4 := hd_le ll
    simp only [txt, wt, List.length_append] at h1 ⊢; omega
theorem elem_rule {h : Heap} {s : SL} {e : TV} {rest : List AV} (hx : Sees h s (cellsT e ++ rest)) (hz : s.sz = 4) (hl : 0 < s.len) {β : Type} (K : TV → Option β) :
    (ixK s.a s.len 0 4 fun q => bindV (.val (.agg [.int .i64, .str, .slice, .slice])) (h.cells q 4) K) = K e := by
  rw [ixK_z (hx.isSome hl) (Int.le_refl 0) (by omega)]
  rw [show (0 : Int).toNat = 0 from rfl, hx.cells hz hl]
  simp only [Nat.zero_mul, List.drop_zero]
  have : (cellsT e ++ rest).take 4 = cellsT e := by rw [List.take_append_of_le_length (by simp [cellsT])]; rfl
  rw [this]
  obtain ⟨k, nm, sl, se, ⟨⟩⟩ := e
  rfl
theorem one_rule {h : Heap} {s : SL} {y : Bs} {r : List Bs} (hx : Strs h s (y :: r)) {β : Type} (K : Bs → Option β) :
    (ixK s.a s.len 0 1 fun q => bindV (.val (.one .str)) (h.cell q) K) = K y := by
  rw [One.str hx.1 (Int.le_refl 0) (by simp) K]; rfl
theorem ofNat_eq (n : Nat) : eqInt (Int.ofNat n) 0 = decide (n = 0) := by
  rw [eqInt_dec]; congr 1; simp
theorem zero_lt (n : Nat) : ltInt 0 (Int.ofNat n) = decide (0 < n) := ofInt_lt 0 n
theorem push_cells {h : Heap} {cs : List AV} (j : Nat) : (h.push (.row cs .own)).cell ((h.next, 0).1, (h.next, 0).2 + j) = cs[j]? := by
  rw [Heap.cell_g]
  show cellB ((h.push (.row cs .own)).g h.next) (0 + j) = _
  rw [g_push_eq _ rfl, cellB_own, List.head?_drop, Nat.zero_add]
set_option maxHeartbeats 1000000
theorem f11_eq {N : Nat} (hN : 2000001 ≤ N) : ∀ (g : GT) (M : Nat) (a : TV) (h : Heap), dep g ≤ M → wt g ≤ 2000000 → TyIn h g a → ∃ h', f11 N M a h = some (txt g, h') ∧ Keep h.next h h' := by
  intro g
  induction g with
  | leaf k nm ll =>
    rintro M ⟨k', nm', ⟨a1, l1, c1, z1⟩, ⟨a2, l2, c2, z2⟩, ⟨⟩⟩ h hM hw ⟨e1, e2, hs, hl⟩
    simp only at e1 e2 hs hl
    subst e1 e2 hl
    obtain ⟨M, rfl⟩ : ∃ M', M = M' + 1 := ⟨M - 1, by simp only [dep] at hM; omega⟩
    simp only [wt] at hw
    rw [f11_succ]
    unfold f11_r
    dsimp only
    have k1 : Keep h.next h (h.push (.row [.int .i64 k', .str nm', .slice a1 l1 c1 z1, .slice a2 0 c2 z2] .own)) := (Keep.refl _ _).push (Nat.le_refl _) _
    have hs1 := hs.keep hs.under k1
    have d0 := push_cells (h := h) (cs := [.int .i64 k', .str nm', .slice a1 l1 c1 z1, .slice a2 0 c2 z2]) 0
    have d1 := push_cells (h := h) (cs := [.int .i64 k', .str nm', .slice a1 l1 c1 z1, .slice a2 0 c2 z2]) 1
    have d2 := push_cells (h := h) (cs := [.int .i64 k', .str nm', .slice a1 l1 c1 z1, .slice a2 0 c2 z2]) 2
    have d3 := push_cells (h := h) (cs := [.int .i64 k', .str nm', .slice a1 l1 c1 z1, .slice a2 0 c2 z2]) 3
    generalize h.push (.row [.int .i64 k', .str nm', .slice a1 l1 c1 z1, .slice a2 0 c2 z2] .own) = h1 at *
    have e23 := f23_eq (N := N) hs1 (by omega)
    have hm := mks_le ll
    simp only [d0, List.getElem?_cons_zero, ↓bindV_some, ↓cast_int, txt]
    simp only at d1 d2 d3
    have B : ∀ c : Int, k' = c → eqInt k' c = true := fun c q => by rw [eqInt_dec]; simp [q]
    have C : ∀ c : Int, k' ≠ c → eqInt k' c = false := fun c q => by rw [eqInt_dec]; simp [q]
    by_cases q1 : k' = 1
    · rw [show small k' nm' ll [] = [105, 110, 116] by simp [small, q1]]
      simp only [B 1 q1, ↓cond_true]; exact ⟨_, rfl, k1⟩
    by_cases q2 : k' = 2
    · rw [show small k' nm' ll [] = [98, 111, 111, 108] by simp [small, q2]]
      simp only [C 1 q1, B 2 q2, ↓cond_true, ↓cond_false]; exact ⟨_, rfl, k1⟩
    by_cases q3 : k' = 3
    · rw [show small k' nm' ll [] = nm' ++ mks ll by simp [small, q3]]
      simp only [C 1 q1, C 2 q2, B 3 q3, ↓cond_true, ↓cond_false]
      simp only [d1, d2, List.getElem?_cons_zero, List.getElem?_cons_succ, ↓bindV_some, ↓cast_str, ↓cast_slice, e23, ↓bind2_some]
      rw [bindV_add (by omega)]
      simp only [sameO_some, cond_true]
      exact ⟨_, rfl, k1⟩
    have t0 : small k' nm' ll [] = [] := by simp [small, q1, q2, q3]
    rw [t0]
    by_cases q4 : k' = 4
    · simp only [C 1 q1, C 2 q2, C 3 q3, B 4 q4, ↓cond_true, ↓cond_false]
      simp only [↓bind2_some, ↓cond_true, ↓need_some, d3, List.getElem?_cons_zero, List.getElem?_cons_succ, ↓bindV_some, ↓cast_slice, ofNat_eq, decide_true]
      exact ⟨_, rfl, k1⟩
    by_cases q5 : k' = 5
    · simp only [C 1 q1, C 2 q2, C 3 q3, C 4 q4, B 5 q5, ↓cond_true, ↓cond_false]
      simp only [↓bind2_some, ↓cond_true, ↓need_some, d3, List.getElem?_cons_zero, List.getElem?_cons_succ, ↓bindV_some, ↓cast_slice, ofNat_eq, decide_true]
      exact ⟨_, rfl, k1⟩
    · simp only [C 1 q1, C 2 q2, C 3 q3, C 4 q4, C 5 q5, ↓cond_true, ↓cond_false, ↓bind2_some]
      exact ⟨_, rfl, k1⟩
  | node k nm ll t ih =>
    rintro M ⟨k', nm', ⟨a1, l1, c1, z1⟩, ⟨a2, l2, c2, z2⟩, ⟨⟩⟩ h hM hw ⟨e1, e2, hs, hl, el, rest, hz, hse, ht⟩
    simp only at e1 e2 hs hl hz hse
    subst e1 e2
    obtain ⟨M, rfl⟩ : ∃ M', M = M' + 1 := ⟨M - 1, by simp only [dep] at hM; omega⟩
    simp only [wt] at hw
    simp only [dep] at hM
    rw [f11_succ]
    unfold f11_r
    dsimp only
    have k1 : Keep h.next h (h.push (.row [.int .i64 k', .str nm', .slice a1 l1 c1 z1, .slice a2 l2 c2 z2] .own)) := (Keep.refl _ _).push (Nat.le_refl _) _
    have hs1 := hs.keep hs.under k1
    have ht1 := ht.keep k1
    have hse1 := hse.keep k1 hse.under
    have hn1 : (h.push (.row [.int .i64 k', .str nm', .slice a1 l1 c1 z1, .slice a2 l2 c2 z2] .own)).next = h.next + 1 := rfl
    have d0 := push_cells (h := h) (cs := [.int .i64 k', .str nm', .slice a1 l1 c1 z1, .slice a2 l2 c2 z2]) 0
    have d1 := push_cells (h := h) (cs := [.int .i64 k', .str nm', .slice a1 l1 c1 z1, .slice a2 l2 c2 z2]) 1
    have d2 := push_cells (h := h) (cs := [.int .i64 k', .str nm', .slice a1 l1 c1 z1, .slice a2 l2 c2 z2]) 2
    have d3 := push_cells (h := h) (cs := [.int .i64 k', .str nm', .slice a1 l1 c1 z1, .slice a2 l2 c2 z2]) 3
    generalize h.push (.row [.int .i64 k', .str nm', .slice a1 l1 c1 z1, .slice a2 l2 c2 z2] .own) = h1 at *
    have e23 := f23_eq (N := N) hs1 (by omega)
    have hm := mks_le ll
    have hh := hd_le ll
    have hx := txt_le t
    obtain ⟨h', e', k2⟩ := ih M el h1 (by omega) (by omega) ht1
    have k3 : Keep h.next h h' := k1.trans (k2.mono (by omega))
    have elem := fun {β : Type} (K : TV → Option β) => elem_rule hse1 hz hl K
    simp only at elem
    simp only [d0, List.getElem?_cons_zero, ↓bindV_some, ↓cast_int, txt]
    simp only at d0 d1 d2 d3
    have B : ∀ c : Int, k' = c → eqInt k' c = true := fun c q => by rw [eqInt_dec]; simp [q]
    have C : ∀ c : Int, k' ≠ c → eqInt k' c = false := fun c q => by rw [eqInt_dec]; simp [q]
    by_cases q1 : k' = 1
    · rw [show small k' nm' ll (mt k' (hd ll) ++ txt t) = [105, 110, 116] by simp [small, q1]]
      simp only [B 1 q1, ↓cond_true]; exact ⟨_, rfl, k1⟩
    by_cases q2 : k' = 2
    · rw [show small k' nm' ll (mt k' (hd ll) ++ txt t) = [98, 111, 111, 108] by simp [small, q2]]
      simp only [C 1 q1, B 2 q2, ↓cond_true, ↓cond_false]; exact ⟨_, rfl, k1⟩
    by_cases q3 : k' = 3
    · rw [show small k' nm' ll (mt k' (hd ll) ++ txt t) = nm' ++ mks ll by simp [small, q3]]
      simp only [C 1 q1, C 2 q2, B 3 q3, ↓cond_true, ↓cond_false]
      simp only [d1, d2, List.getElem?_cons_zero, List.getElem?_cons_succ, ↓bindV_some, ↓cast_str, ↓cast_slice, e23, ↓bind2_some]
      rw [bindV_add (by omega)]
      simp only [sameO_some, cond_true]
      exact ⟨_, rfl, k1⟩
    have le2 : eqInt (Int.ofNat l2) 0 = false := by rw [ofNat_eq]; simp; omega
    have tail : ∀ (x : Bs), x.length ≤ 1099400000000 → (bindV (.val (.one .slice)) (h1.cell (h.next, 0 + 3)) fun (x37 : SL) =>
       (ixK x37.a x37.len 0 4 fun q38 =>
       (bindV (.val (.agg [(.int .i64), .str, .slice, .slice])) (h1.cells q38 4) fun (x39 : (Int × List UInt8 × SL × SL × Unit)) =>
       (bind2 (f11 N M (x39.1, x39.2.1, x39.2.2.1, x39.2.2.2.1, ()) h1) fun (x40 : List UInt8) h41 =>
       (bindV (.val (.one .str)) (binStr .add x x40) fun (x42 : List UInt8) =>
       some (x42, h41)))))) = some (x ++ txt t, h') := fun x hx' => by
      simp only [d3, List.getElem?_cons_zero, List.getElem?_cons_succ, ↓bindV_some, ↓cast_slice]
      rw [elem]
      rw [show (el.1, el.2.1, el.2.2.1, el.2.2.2.1, ()) = el from rfl, e', bind2_some, bindV_add (by omega)]
    have lst : ∀ {β : Type} (K : (Option (Nat × Nat) × List UInt8 × Unit) → Heap → Option β), (bind2 (α := (Option (Nat × Nat) × List UInt8 × Unit)) (bindV (.val (.one .slice)) (h1.cell (h.next, 0 + 2)) fun (x19 : SL) =>
        (bif ltInt 0 (Int.ofNat x19.len) then
         (bindV (.val (.one .str)) (binStr .add [38] [39]) fun (x21 : List UInt8) =>
         (bindV (.val (.one .slice)) (h1.cell (h.next, 0 + 2)) fun (x23 : SL) =>
         (ixK x23.a x23.len 0 1 fun q24 =>
         (bindV (.val (.one .str)) (h1.cell q24) fun (x25 : List UInt8) =>
         (bindV (.val (.one .str)) (binStr .add x21 x25) fun (x26 : List UInt8) =>
         (bindV (.val (.one .str)) (binStr .add x26 [32]) fun (x27 : List UInt8) =>
         some ((some (h.next, 0), x27, ()), h1)))))))
        else
         some ((some (h.next, 0), [38], ()), h1))) K) = K (some (h.next, 0), hd ll, ()) h1 := fun K => by
      simp only [d2, List.getElem?_cons_zero, List.getElem?_cons_succ, ↓bindV_some, ↓cast_slice, ↓need_some]
      have hl1 : l1 = ll.length := hs1.len
      cases ll with
      | nil =>
        simp only [hl1, zero_lt, List.length_nil, Nat.lt_irrefl, decide_false, ↓cond_false, ↓bind2_some]; rfl
      | cons y r =>
        have hy : y.length ≤ 2000000 := by simp only [wts] at hw; omega
        have one := fun {β : Type} (K : Bs → Option β) => one_rule hs1 K
        simp only at one
        simp only [zero_lt]
        have hl1' : l1 = r.length + 1 := hl1
        rw [hl1'] at one ⊢
        simp only [Nat.succ_pos, decide_true, ↓cond_true]
        rw [bindV_add (by simp)]
        rw [one, bindV_add (by simp only [List.length_append, List.length_cons, List.length_nil]; omega), bindV_add (by simp only [List.length_append, List.length_cons, List.length_nil]; omega)]
        rfl
    by_cases q4 : k' = 4
    · rw [show small k' nm' ll (mt k' (hd ll) ++ txt t) = hd ll ++ txt t by simp [small, mt, q4]]
      simp only [C 1 q1, C 2 q2, C 3 q3, B 4 q4, ↓cond_true, ↓cond_false]
      simp only [↓bind2_some, ↓cond_true, ↓need_some, d3, List.getElem?_cons_zero, List.getElem?_cons_succ, ↓bindV_some, ↓cast_slice, le2, ↓cond_false]
      rw [lst]
      simp only [↓need_some, d0, List.getElem?_cons_zero, ↓bindV_some, ↓cast_int, C 5 (by omega), ↓cond_false, ↓bind2_some]
      rw [tail (hd ll) (by omega)]
      exact ⟨_, rfl, k3⟩
    by_cases q5 : k' = 5
    · rw [show small k' nm' ll (mt k' (hd ll) ++ txt t) = (hd ll ++ [109, 117, 116, 32]) ++ txt t by simp [small, mt, q5]]
      simp only [C 1 q1, C 2 q2, C 3 q3, C 4 q4, B 5 q5, ↓cond_true, ↓cond_false]
      simp only [↓bind2_some, ↓cond_true, ↓need_some, d3, List.getElem?_cons_zero, List.getElem?_cons_succ, ↓bindV_some, ↓cast_slice, le2, ↓cond_false]
      rw [lst]
      simp only [↓need_some, d0, List.getElem?_cons_zero, ↓bindV_some, ↓cast_int, B 5 q5, ↓cond_true]
      rw [bindV_add (by simp only [List.length_cons, List.length_nil]; omega)]
      simp only [↓bind2_some, ↓need_some]
      rw [tail (hd ll ++ [109, 117, 116, 32]) (by simp only [List.length_append, List.length_cons, List.length_nil]; omega)]
      exact ⟨_, rfl, k3⟩
    · rw [show small k' nm' ll (mt k' (hd ll) ++ txt t) = [] by simp [small, q1, q2, q3, q4, q5]]
      simp only [C 1 q1, C 2 q2, C 3 q3, C 4 q4, C 5 q5, ↓cond_true, ↓cond_false, ↓bind2_some]
      exact ⟨_, rfl, k1⟩
end Go.Proofs.YtghlcagikpdfiaaGreatDoor.Pq

set_option linter.unusedVariables false
set_option linter.unusedSimpArgs false
open Go Go.Proofs.YtghlcagikpdfiaaGreatDoor.Ai Go.Proofs
namespace Go.Proofs.YtghlcagikpdfiaaGreatDoor.Pq
set_option maxHeartbeats 1000000
theorem f12_eq {N : Nat} (hN : 2000001 ≤ N) : ∀ (g : GT) (M : Nat) (a : TV) (h : Heap), dep g ≤ M → wt g ≤ 2000000 → TyIn h g a → ∃ h', f12 N M a h = some (txt g, h') ∧ Keep h.next h h' := by
  intro g
  induction g with
  | leaf k nm ll =>
    rintro M ⟨k', nm', ⟨a1, l1, c1, z1⟩, ⟨a2, l2, c2, z2⟩, ⟨⟩⟩ h hM hw ⟨e1, e2, hs, hl⟩
    simp only at e1 e2 hs hl
    subst e1 e2 hl
    obtain ⟨M, rfl⟩ : ∃ M', M = M' + 1 := ⟨M - 1, by simp only [dep] at hM; omega⟩
    simp only [wt] at hw
    rw [f12_succ]
    unfold f12_r
    dsimp only
    have k1 : Keep h.next h (h.push (.row [.int .i64 k', .str nm', .slice a1 l1 c1 z1, .slice a2 0 c2 z2] .own)) := (Keep.refl _ _).push (Nat.le_refl _) _
    have hs1 := hs.keep hs.under k1
    have d0 := push_cells (h := h) (cs := [.int .i64 k', .str nm', .slice a1 l1 c1 z1, .slice a2 0 c2 z2]) 0
    have d1 := push_cells (h := h) (cs := [.int .i64 k', .str nm', .slice a1 l1 c1 z1, .slice a2 0 c2 z2]) 1
    have d2 := push_cells (h := h) (cs := [.int .i64 k', .str nm', .slice a1 l1 c1 z1, .slice a2 0 c2 z2]) 2
    have d3 := push_cells (h := h) (cs := [.int .i64 k', .str nm', .slice a1 l1 c1 z1, .slice a2 0 c2 z2]) 3
    generalize h.push (.row [.int .i64 k', .str nm', .slice a1 l1 c1 z1, .slice a2 0 c2 z2] .own) = h1 at *
    have e23 := f29_eq (N := N) hs1 (by omega) hN
    have hm := mks_le ll
    simp only [d0, List.getElem?_cons_zero, ↓bindV_some, ↓cast_int, txt]
    simp only at d1 d2 d3
    have B : ∀ c : Int, k' = c → eqInt k' c = true := fun c q => by rw [eqInt_dec]; simp [q]
    have C : ∀ c : Int, k' ≠ c → eqInt k' c = false := fun c q => by rw [eqInt_dec]; simp [q]
    by_cases q1 : k' = 1
    · rw [show small k' nm' ll [] = [105, 110, 116] by simp [small, q1]]
      simp only [B 1 q1, ↓cond_true]; exact ⟨_, rfl, k1⟩
    by_cases q2 : k' = 2
    · rw [show small k' nm' ll [] = [98, 111, 111, 108] by simp [small, q2]]
      simp only [C 1 q1, B 2 q2, ↓cond_true, ↓cond_false]; exact ⟨_, rfl, k1⟩
    by_cases q3 : k' = 3
    · rw [show small k' nm' ll [] = nm' ++ mks ll by simp [small, q3]]
      simp only [C 1 q1, C 2 q2, B 3 q3, ↓cond_true, ↓cond_false]
      simp only [d1, d2, List.getElem?_cons_zero, List.getElem?_cons_succ, ↓bindV_some, ↓cast_str, ↓cast_slice, e23, ↓bind2_some]
      rw [bindV_add (by omega)]
      simp only [sameO_some, cond_true]
      exact ⟨_, rfl, k1⟩
    have t0 : small k' nm' ll [] = [] := by simp [small, q1, q2, q3]
    rw [t0]
    by_cases q4 : k' = 4
    · simp only [C 1 q1, C 2 q2, C 3 q3, B 4 q4, ↓cond_true, ↓cond_false]
      simp only [↓bind2_some, ↓cond_true, ↓need_some, d3, List.getElem?_cons_zero, List.getElem?_cons_succ, ↓bindV_some, ↓cast_slice, ofNat_eq, decide_true]
      exact ⟨_, rfl, k1⟩
    by_cases q5 : k' = 5
    · simp only [C 1 q1, C 2 q2, C 3 q3, C 4 q4, B 5 q5, ↓cond_true, ↓cond_false]
      simp only [↓bind2_some, ↓cond_true, ↓need_some, d3, List.getElem?_cons_zero, List.getElem?_cons_succ, ↓bindV_some, ↓cast_slice, ofNat_eq, decide_true]
      exact ⟨_, rfl, k1⟩
    · simp only [C 1 q1, C 2 q2, C 3 q3, C 4 q4, C 5 q5, ↓cond_true, ↓cond_false, ↓bind2_some]
      exact ⟨_, rfl, k1⟩
  | node k nm ll t ih =>
    rintro M ⟨k', nm', ⟨a1, l1, c1, z1⟩, ⟨a2, l2, c2, z2⟩, ⟨⟩⟩ h hM hw ⟨e1, e2, hs, hl, el, rest, hz, hse, ht⟩
    simp only at e1 e2 hs hl hz hse
    subst e1 e2
    obtain ⟨M, rfl⟩ : ∃ M', M = M' + 1 := ⟨M - 1, by simp only [dep] at hM; omega⟩
    simp only [wt] at hw
    simp only [dep] at hM
    rw [f12_succ]
    unfold f12_r
    dsimp only
    have k1 : Keep h.next h (h.push (.row [.int .i64 k', .str nm', .slice a1 l1 c1 z1, .slice a2 l2 c2 z2] .own)) := (Keep.refl _ _).push (Nat.le_refl _) _
    have hs1 := hs.keep hs.under k1
    have ht1 := ht.keep k1
    have hse1 := hse.keep k1 hse.under
    have hn1 : (h.push (.row [.int .i64 k', .str nm', .slice a1 l1 c1 z1, .slice a2 l2 c2 z2] .own)).next = h.next + 1 := rfl
    have d0 := push_cells (h := h) (cs := [.int .i64 k', .str nm', .slice a1 l1 c1 z1, .slice a2 l2 c2 z2]) 0
    have d1 := push_cells (h := h) (cs := [.int .i64 k', .str nm', .slice a1 l1 c1 z1, .slice a2 l2 c2 z2]) 1
    have d2 := push_cells (h := h) (cs := [.int .i64 k', .str nm', .slice a1 l1 c1 z1, .slice a2 l2 c2 z2]) 2
    have d3 := push_cells (h := h) (cs := [.int .i64 k', .str nm', .slice a1 l1 c1 z1, .slice a2 l2 c2 z2]) 3
    generalize h.push (.row [.int .i64 k', .str nm', .slice a1 l1 c1 z1, .slice a2 l2 c2 z2] .own) = h1 at *
    have e23 := f29_eq (N := N) hs1 (by omega) hN
    have hm := mks_le ll
    have hh := hd_le ll
    have hx := txt_le t
    obtain ⟨h', e', k2⟩ := ih M el h1 (by omega) (by omega) ht1
    have k3 : Keep h.next h h' := k1.trans (k2.mono (by omega))
    have elem := fun {β : Type} (K : TV → Option β) => elem_rule hse1 hz hl K
    simp only at elem
    simp only [d0, List.getElem?_cons_zero, ↓bindV_some, ↓cast_int, txt]
    simp only at d0 d1 d2 d3
    have B : ∀ c : Int, k' = c → eqInt k' c = true := fun c q => by rw [eqInt_dec]; simp [q]
    have C : ∀ c : Int, k' ≠ c → eqInt k' c = false := fun c q => by rw [eqInt_dec]; simp [q]
    by_cases q1 : k' = 1
    · rw [show small k' nm' ll (mt k' (hd ll) ++ txt t) = [105, 110, 116] by simp [small, q1]]
      simp only [B 1 q1, ↓cond_true]; exact ⟨_, rfl, k1⟩
    by_cases q2 : k' = 2
    · rw [show small k' nm' ll (mt k' (hd ll) ++ txt t) = [98, 111, 111, 108] by simp [small, q2]]
      simp only [C 1 q1, B 2 q2, ↓cond_true, ↓cond_false]; exact ⟨_, rfl, k1⟩
    by_cases q3 : k' = 3
    · rw [show small k' nm' ll (mt k' (hd ll) ++ txt t) = nm' ++ mks ll by simp [small, q3]]
      simp only [C 1 q1, C 2 q2, B 3 q3, ↓cond_true, ↓cond_false]
      simp only [d1, d2, List.getElem?_cons_zero, List.getElem?_cons_succ, ↓bindV_some, ↓cast_str, ↓cast_slice, e23, ↓bind2_some]
      rw [bindV_add (by omega)]
      simp only [sameO_some, cond_true]
      exact ⟨_, rfl, k1⟩
    have le2 : eqInt (Int.ofNat l2) 0 = false := by rw [ofNat_eq]; simp; omega
    have tail : ∀ (x : Bs), x.length ≤ 1099400000000 → (bindV (.val (.one .slice)) (h1.cell (h.next, 0 + 3)) fun (x37 : SL) =>
       (ixK x37.a x37.len 0 4 fun q38 =>
       (bindV (.val (.agg [(.int .i64), .str, .slice, .slice])) (h1.cells q38 4) fun (x39 : (Int × List UInt8 × SL × SL × Unit)) =>
       (bind2 (f12 N M (x39.1, x39.2.1, x39.2.2.1, x39.2.2.2.1, ()) h1) fun (x40 : List UInt8) h41 =>
       (bindV (.val (.one .str)) (binStr .add x x40) fun (x42 : List UInt8) =>
       some (x42, h41)))))) = some (x ++ txt t, h') := fun x hx' => by
      simp only [d3, List.getElem?_cons_zero, List.getElem?_cons_succ, ↓bindV_some, ↓cast_slice]
      rw [elem]
      rw [show (el.1, el.2.1, el.2.2.1, el.2.2.2.1, ()) = el from rfl, e', bind2_some, bindV_add (by omega)]
    have lst : ∀ {β : Type} (K : (Option (Nat × Nat) × List UInt8 × Unit) → Heap → Option β), (bind2 (α := (Option (Nat × Nat) × List UInt8 × Unit)) (bindV (.val (.one .slice)) (h1.cell (h.next, 0 + 2)) fun (x19 : SL) =>
        (bif ltInt 0 (Int.ofNat x19.len) then
         (bindV (.val (.one .str)) (binStr .add [38] [39]) fun (x21 : List UInt8) =>
         (bindV (.val (.one .slice)) (h1.cell (h.next, 0 + 2)) fun (x23 : SL) =>
         (ixK x23.a x23.len 0 1 fun q24 =>
         (bindV (.val (.one .str)) (h1.cell q24) fun (x25 : List UInt8) =>
         (bindV (.val (.one .str)) (binStr .add x21 x25) fun (x26 : List UInt8) =>
         (bindV (.val (.one .str)) (binStr .add x26 [32]) fun (x27 : List UInt8) =>
         some ((some (h.next, 0), x27, ()), h1)))))))
        else
         some ((some (h.next, 0), [38], ()), h1))) K) = K (some (h.next, 0), hd ll, ()) h1 := fun K => by
      simp only [d2, List.getElem?_cons_zero, List.getElem?_cons_succ, ↓bindV_some, ↓cast_slice, ↓need_some]
      have hl1 : l1 = ll.length := hs1.len
      cases ll with
      | nil =>
        simp only [hl1, zero_lt, List.length_nil, Nat.lt_irrefl, decide_false, ↓cond_false, ↓bind2_some]; rfl
      | cons y r =>
        have hy : y.length ≤ 2000000 := by simp only [wts] at hw; omega
        have one := fun {β : Type} (K : Bs → Option β) => one_rule hs1 K
        simp only at one
        simp only [zero_lt]
        have hl1' : l1 = r.length + 1 := hl1
        rw [hl1'] at one ⊢
        simp only [Nat.succ_pos, decide_true, ↓cond_true]
        rw [bindV_add (by simp)]
        rw [one, bindV_add (by simp only [List.length_append, List.length_cons, List.length_nil]; omega), bindV_add (by simp only [List.length_append, List.length_cons, List.length_nil]; omega)]
        rfl
    by_cases q4 : k' = 4
    · rw [show small k' nm' ll (mt k' (hd ll) ++ txt t) = hd ll ++ txt t by simp [small, mt, q4]]
      simp only [C 1 q1, C 2 q2, C 3 q3, B 4 q4, ↓cond_true, ↓cond_false]
      simp only [↓bind2_some, ↓cond_true, ↓need_some, d3, List.getElem?_cons_zero, List.getElem?_cons_succ, ↓bindV_some, ↓cast_slice, le2, ↓cond_false]
      rw [lst]
      simp only [↓need_some, d0, List.getElem?_cons_zero, ↓bindV_some, ↓cast_int, C 5 (by omega), ↓cond_false, ↓bind2_some]
      rw [tail (hd ll) (by omega)]
      exact ⟨_, rfl, k3⟩
    by_cases q5 : k' = 5
    · rw [show small k' nm' ll (mt k' (hd ll) ++ txt t) = (hd ll ++ [109, 117, 116, 32]) ++ txt t by simp [small, mt, q5]]
      simp only [C 1 q1, C 2 q2, C 3 q3, C 4 q4, B 5 q5, ↓cond_true, ↓cond_false]
      simp only [↓bind2_some, ↓cond_true, ↓need_some, d3, List.getElem?_cons_zero, List.getElem?_cons_succ, ↓bindV_some, ↓cast_slice, le2, ↓cond_false]
      rw [lst]
      simp only [↓need_some, d0, List.getElem?_cons_zero, ↓bindV_some, ↓cast_int, B 5 q5, ↓cond_true]
      rw [bindV_add (by simp only [List.length_cons, List.length_nil]; omega)]
      simp only [↓bind2_some, ↓need_some]
      rw [tail (hd ll ++ [109, 117, 116, 32]) (by simp only [List.length_append, List.length_cons, List.length_nil]; omega)]
      exact ⟨_, rfl, k3⟩
    · rw [show small k' nm' ll (mt k' (hd ll) ++ txt t) = [] by simp [small, q1, q2, q3, q4, q5]]
      simp only [C 1 q1, C 2 q2, C 3 q3, C 4 q4, C 5 q5, ↓cond_true, ↓cond_false, ↓bind2_some]
      exact ⟨_, rfl, k1⟩
end Go.Proofs.YtghlcagikpdfiaaGreatDoor.Pq

set_option linter.unusedVariables false
set_option linter.unusedSimpArgs false
open Go Go.Proofs.YtghlcagikpdfiaaGreatDoor.Ai Go.Proofs
namespace Go.Proofs.YtghlcagikpdfiaaGreatDoor.Pq
theorem und35 : E.und 35 = some (.slice 9) := by kernel_rfl
theorem app35 : App1 E 35 9 := App1.of und35 (by kernel_rfl) (by kernel_rfl)
theorem Keep.but {h h' : Heap} (k : Keep h.next h h') : But none h h' := ⟨fun A hA _ => k.g A hA, k.next⟩
theorem But.put (h : Heap) (A : Nat) (b : Blk) : But (some A) h (h.put A b) := ⟨fun C _ hne => g_put_ne b (fun e => hne (by rw [e])), Nat.le_refl _⟩
theorem own_strs {B : Nat} {h : Heap} {s : SL} {l : List Bs} (x : Own1 B h s (l.map AV.str)) : Strs h s l := by
  refine ⟨x.one, ?_⟩
  rcases x with ⟨h1, h2, h3, h4⟩ | ⟨A, cs, st, h1, h2, h3, h4, h5, h6, h7, h8, h9, h10⟩
  · omega
  · exact h9
/-! joined texts -/
theorem joinL_snoc (sep : Bs) : ∀ (l : List Bs) (x : Bs), Np.joinL (l ++ [x]) sep = if l = [] then x else Np.joinL l sep ++ sep ++ x
  | [], x => by simp [Np.joinL]
  | [y], x => by simp [Np.joinL]
  | y :: z :: r, x => by
    have ih := joinL_snoc sep (z :: r) x
    simp only [List.cons_append, Np.joinL] at ih ⊢
    rw [ih]; simp
/-! fields -/
structure FD where
  m : Bool
  nm : Bs
  tv : TV
  g : GT
def cellsF (f : FD) : List AV := .bool f.m :: .str f.nm :: cellsT f.tv
def flatF (l : List FD) : List AV := (l.map cellsF).flatten
structure FdIn (h : Heap) (s : SL) (l : List FD) : Prop where
  len : s.len = l.length
  sz : s.sz = 6 ∨ s.len = 0
  sees : Sees h s (flatF l)
  ty : ∀ f ∈ l, TyIn h f.g f.tv
theorem FdIn.keep {h h' : Heap} {s : SL} {l : List FD} (x : FdIn h s l) (hk : Keep h.next h h') : FdIn h' s l := ⟨x.len, x.sz, x.sees.keep hk x.sees.under, fun f hf => (x.ty f hf).keep hk⟩
theorem flatF_at : ∀ (l : List FD) (i : Nat) (hi : i < l.length), (flatF l).drop (i * 6) = cellsF l[i] ++ flatF (l.drop (i + 1))
  | f :: r, 0, _ => by simp [flatF]
  | f :: r, i + 1, hi => by
    have ih := flatF_at r i (by simpa using hi)
    have e : flatF (f :: r) = cellsF f ++ flatF r := by simp [flatF]
    rw [e, List.drop_append]
    have h6 : (cellsF f).length = 6 := rfl
    rw [List.drop_eq_nil_of_le (by rw [h6]; omega), List.nil_append, h6, show (i + 1) * 6 - 6 = i * 6 from by omega, ih]
    simp
theorem flatF_get {l : List FD} {i j : Nat} (hi : i < l.length) (hj : j < 6) : (flatF l)[i * 6 + j]? = (cellsF l[i])[j]? := by
  have := flatF_at l i hi
  rw [← List.getElem?_drop, this, List.getElem?_append_left (by show j < 6; exact hj)]
theorem FdIn.cell {h : Heap} {s : SL} {l : List FD} (x : FdIn h s l) {i j : Nat} (hi : i < l.length) (hj : j < 6) : h.cell ((s.at i 6).1, (s.at i 6).2 + j) = (cellsF l[i])[j]? := by
  have hz : s.sz = 6 := x.sz.resolve_right (by have := x.len; omega)
  rw [Sees.sub x.sees hz (by rw [x.len]; exact hi) hj, flatF_get hi hj]
theorem FdIn.cells {h : Heap} {s : SL} {l : List FD} (x : FdIn h s l) {i j m : Nat} (hi : i < l.length) (hj : j + m ≤ 6) : h.cells ((s.at i 6).1, (s.at i 6).2 + j) m = some (.agg (((cellsF l[i]).drop j).take m)) := by
  have hz : s.sz = 6 := x.sz.resolve_right (by have := x.len; omega)
  rw [Sees.subs x.sees hz (by rw [x.len]; exact hi) hj, ← List.drop_drop, flatF_at l i hi]
  congr 2
  have h6 : (cellsF l[i]).length = 6 := rfl
  rw [List.drop_append, List.take_append_of_le_length (by rw [List.length_drop, h6]; omega)]
theorem FdIn.ix {h : Heap} {s : SL} {l : List FD} (x : FdIn h s l) {i : Nat} (hi : i < l.length) {β : Type} (K : Nat × Nat → Option β) : ixK s.a s.len (i : Int) 6 K = K (s.at i 6) :=
  ixK_at (x.sees.isSome (by have := x.len; omega)) (by have := x.len; omega) K
def itm (f : FD) : Bs := (if f.m then [109, 117, 116, 32] else []) ++ ((f.nm ++ [58, 32]) ++ txt f.g)
def wtF : List FD → Nat
  | [] => 0
  | f :: r => f.nm.length + wt f.g + 3 + wtF r
theorem itm_le (f : FD) : (itm f).length ≤ f.nm.length + 6 + 6 * wt f.g := by
  have := txt_le f.g
  unfold itm
  simp only [List.length_append, List.length_cons, List.length_nil]
  split <;> simp <;> omega
theorem wtF_get : ∀ (l : List FD) (i : Nat) (h : i < l.length), l[i].nm.length + wt l[i].g + 3 ≤ wtF l
  | f :: r, 0, _ => by simp only [List.getElem_cons_zero, wtF]; omega
  | f :: r, i + 1, h => by have := wtF_get r i (by simpa using h); simp only [List.getElem_cons_succ, wtF]; omega
theorem wts_itm : ∀ (l : List FD) (i : Nat), wts ((l.map itm).take i) ≤ 7 * wtF l
  | [], i => by simp [wts]
  | f :: r, 0 => by simp [wts]
  | f :: r, i + 1 => by
    have := wts_itm r i
    have h1 := itm_le f
    simp only [List.map_cons, List.take_succ_cons, wts, wtF]; omega
def jn (l : List FD) (i : Nat) : Bs := Np.joinL ((l.map itm).take i) [44, 32]
theorem jn_le (l : List FD) (i : Nat) : (jn l i).length ≤ 21 * wtF l := by
  have h1 := joinL_le [44, 32] ((l.map itm).take i)
  have h2 := wts_itm l i
  simp only [List.length_cons, List.length_nil] at h1
  unfold jn; omega
theorem jn_succ {l : List FD} {i : Nat} (hi : i < l.length) : jn l (i + 1) = if 0 < i then jn l i ++ [44, 32] ++ itm l[i] else itm l[i] := by
  unfold jn
  rw [List.take_succ_eq_append_getElem (by simpa using hi), joinL_snoc]
  cases i with
  | zero => simp
  | succ i =>
    have : ¬ (List.take (i + 1) (List.map itm l) = []) := by
      intro e
      have h0 : (List.take (i + 1) (List.map itm l)).length = i + 1 := by rw [List.length_take, List.length_map]; omega
      rw [e] at h0; simp at h0
    rw [if_neg this, if_pos (Nat.succ_pos _)]; simp
end Go.Proofs.YtghlcagikpdfiaaGreatDoor.Pq

set_option linter.unusedVariables false
set_option linter.unusedSimpArgs false
open Go Go.Proofs.YtghlcagikpdfiaaGreatDoor.Ai Go.Proofs
namespace Go.Proofs.YtghlcagikpdfiaaGreatDoor.Pq
set_option maxHeartbeats 1000000
theorem guardB_true {β : Type} (k : Option β) : guardB true k = k := rfl
variable {N : Nat} {s : SL} {l : List FD}
/-- the program's fields -/
theorem fields_loop (hN : 2000001 ≤ N) {h0 : Heap} (x : FdIn h0 s l) (hw : wtF l ≤ 1100000) : ∀ (M i : Nat) (h : Heap) (v : SL), i ≤ l.length → l.length - i < M → l.length ≤ 70 → Keep h0.next h0 h → Own1 h0.next h v (((l.map itm).take i).map AV.str) →
    ∃ h' v', f20_l1 N M v s (Int.ofNat s.len) (i : Int) h = some (.exit 0, (v', ()), h') ∧ Keep h0.next h0 h' ∧ Own1 h0.next h' v' ((l.map itm).map AV.str) := by
  intro M
  induction M with
  | zero => intro i h v _ h; omega
  | succ M ih =>
    intro i h v hi hM h70 hk ho
    have hl := x.len
    rw [f20_l1_succ]
    unfold f20_l1_b
    simp only [ofInt_lt, hl]
    by_cases q : i < l.length
    · simp only [q, decide_true, cond_true]
      have xh : FdIn h s l := ⟨x.len, x.sz, x.sees.keep hk x.sees.under, fun f hf => (x.ty f hf).keep hk⟩
      have ix := fun {β : Type} (K : Nat × Nat → Option β) => xh.ix q K
      rw [hl] at ix
      have hcs := xh.cells (i := i) (j := 0) (m := 6) q (by omega)
      simp only [Nat.add_zero, List.drop_zero] at hcs
      have hc6 : (cellsF l[i]).take 6 = cellsF l[i] := rfl
      rw [hc6] at hcs
      rw [ix]
      have hs' : ((s.at i 6).1, (s.at i 6).2) = s.at i 6 := rfl
      rw [hs'] at hcs
      rw [hcs]
      have hty := x.ty l[i] (List.getElem_mem q)
      have hwi := wtF_get l i q
      have hit := itm_le l[i]
      have htx := txt_le l[i].g
      have itmE : itm l[i] = (if l[i].m then [109, 117, 116, 32] else []) ++ ((l[i].nm ++ [58, 32]) ++ txt l[i].g) := rfl
      have itmM : (l.map itm)[i]? = some (itm l[i]) := by rw [List.getElem?_map, List.getElem?_eq_getElem q]; rfl
      have htake : ((l.map itm).take (i + 1)).map AV.str = ((l.map itm).take i).map AV.str ++ [AV.str (itm l[i])] := by
        rw [List.take_add_one, itmM]; simp
      have hln : (((l.map itm).take i).map AV.str).length ≤ 100000 := by
        rw [List.length_map, List.length_take]; omega
      generalize l[i] = f at *
      obtain ⟨m, nm, ⟨k, tn, ⟨a1, l1, c1, z1⟩, ⟨a2, l2, c2, z2⟩, ⟨⟩⟩, g⟩ := f
      simp only [cellsF, cellsT, ↓bindV_some, ↓cast_agg, ↓casts_bool, ↓casts_str, ↓casts_int, ↓casts_slice, ↓casts_nil]
      simp only at hty hwi hit htx itmE
      -- the copy
      have hst : (h.push (.row [.bool false, .str [], .int .i64 0, .str [], .slice none 0 0 0, .slice none 0 0 0] .own)).store (h.next, 0) [.bool m, .str nm, .int .i64 k, .str tn, .slice a1 l1 c1 z1, .slice a2 l2 c2 z2] = some ((h.push (.row [.bool false, .str [], .int .i64 0, .str [], .slice none 0 0 0, .slice none 0 0 0] .own)).put h.next (.row [.bool m, .str nm, .int .i64 k, .str tn, .slice a1 l1 c1 z1, .slice a2 l2 c2 z2] .own)) :=
        (Heap.is_push h _).store 0 _ rfl
      have his := (Heap.is_push h [.bool false, .str [], .int .i64 0, .str [], .slice none 0 0 0, .slice none 0 0 0]).put_same [.bool m, .str nm, .int .i64 k, .str tn, .slice a1 l1 c1 z1, .slice a2 l2 c2 z2]
      have k5 : Keep h0.next h0 ((h.push (.row [.bool false, .str [], .int .i64 0, .str [], .slice none 0 0 0, .slice none 0 0 0] .own)).put h.next (.row [.bool m, .str nm, .int .i64 k, .str tn, .slice a1 l1 c1 z1, .slice a2 l2 c2 z2] .own)) := (hk.push (Nat.le_refl _) _).put hk.next _
      have o5 : Own1 h0.next ((h.push (.row [.bool false, .str [], .int .i64 0, .str [], .slice none 0 0 0, .slice none 0 0 0] .own)).put h.next (.row [.bool m, .str nm, .int .i64 k, .str tn, .slice a1 l1 c1 z1, .slice a2 l2 c2 z2] .own)) v (((l.map itm).take i).map AV.str) :=
        (ho.push _).but (But.put _ h.next _) (fun A hA e => by have := (ho.ge A hA).2; cases e; omega)
      have n5 : ((h.push (.row [.bool false, .str [], .int .i64 0, .str [], .slice none 0 0 0, .slice none 0 0 0] .own)).put h.next (.row [.bool m, .str nm, .int .i64 k, .str tn, .slice a1 l1 c1 z1, .slice a2 l2 c2 z2] .own)).next = h.next + 1 := rfl
      rw [hst]
      generalize (h.push (.row [.bool false, .str [], .int .i64 0, .str [], .slice none 0 0 0, .slice none 0 0 0] .own)).put h.next (.row [.bool m, .str nm, .int .i64 k, .str tn, .slice a1 l1 c1 z1, .slice a2 l2 c2 z2] .own) = h5 at *
      have d0 := his.cell 0
      have d1 := his.cell 1
      have d2 := his.cells 2 4
      obtain ⟨h10, e10, k10⟩ := f11_eq hN g N (k, tn, ⟨a1, l1, c1, z1⟩, ⟨a2, l2, c2, z2⟩, ()) h5 (by have := dep_le g; omega) (by omega) (hty.keep k5)
      have g10 : h10.g h.next = h5.g h.next := k10.g h.next (by omega)
      have d0' : h10.cell (h.next, 0) = h5.cell (h.next, 0) := by rw [Heap.cell_g, Heap.cell_g, g10]
      have d1' : h10.cell (h.next, 1) = h5.cell (h.next, 1) := by rw [Heap.cell_g, Heap.cell_g, g10]
      have o10 := o5.but (Keep.but k10) (fun A _ e => by cases e)
      have kk10 : Keep h0.next h0 h10 := k5.trans (k10.mono (by rw [n5]; have := hk.next; omega))
      simp only [↓need_some, Nat.zero_add, d0, d1, d2, d0', d1', List.drop_succ_cons, List.drop_zero, List.head?_cons, ↓bindV_some, ↓cast_str]
      rw [bindV_add (by simp only [List.length_cons, List.length_nil]; omega)]
      have t4 : (takeN 4 [AV.int .i64 k, .str tn, .slice a1 l1 c1 z1, .slice a2 l2 c2 z2]).map AV.agg = some (.agg [AV.int .i64 k, .str tn, .slice a1 l1 c1 z1, .slice a2 l2 c2 z2]) := rfl
      simp only [t4, ↓bindV_some, ↓cast_agg, ↓casts_bool, ↓casts_str, ↓casts_int, ↓casts_slice, ↓casts_nil]
      rw [e10]
      simp only [↓bind2_some]
      rw [bindV_add (by simp only [List.length_append, List.length_cons, List.length_nil]; omega)]
      simp only [d0', d1', d0, d1, List.drop_succ_cons, List.drop_zero, List.head?_cons, sameO_some, cond_true, guardB_true, ↓bindV_some, ↓cast_bool]
      have hw1 : wrapA .i64 ((i : Int) + 1) = ((i + 1 : Nat) : Int) := by rw [wrapA_small (by omega) (by omega)]; rfl
      have hb10 : h0.next ≤ h10.next := kk10.next
      have fin : ∀ z : Bs, z = itm ⟨m, nm, (k, tn, ⟨a1, l1, c1, z1⟩, ⟨a2, l2, c2, z2⟩, ()), g⟩ → ∃ h' v', (bindT (.val (.one .slice)) (appendA E 35 35 (.slice v.a v.len v.cap v.sz) (.slice (some (h10.next, 0)) 1 1 1) (h10.push (.row [.str z] .own))) fun (x19 : SL) h20 => f20_l1 N M x19 s (Int.ofNat l.length) (wrapA .i64 ((i : Int) + 1)) h20) = some (.exit 0, (v', ()), h') ∧ Keep h0.next h0 h' ∧ Own1 h0.next h' v' ((l.map itm).map AV.str) := by
        intro z hz
        obtain ⟨v1, h11, e11, o11, b11, _⟩ := append_own1 app35 (v := AV.str z) rfl o10 hb10 hln
        rw [e11, bindT_some, cast_slice, hw1]
        rw [hz, ← htake] at o11
        have := ih (i + 1) h11 v1 q (by omega) h70 (kk10.trans (b11.keep hb10 (fun A hA => (o10.ge A hA).1))) o11
        rw [hl] at this
        exact this
      have itmE' : itm ⟨m, nm, (k, tn, ⟨a1, l1, c1, z1⟩, ⟨a2, l2, c2, z2⟩, ()), g⟩ = (if m then [109, 117, 116, 32] else []) ++ ((nm ++ [58, 32]) ++ txt g) := rfl
      cases m with
      | true =>
        show ∃ h' v', (bindV _ (binStr .add _ _) _) = _ ∧ _
        rw [bindV_add (by simp only [List.length_append, List.length_cons, List.length_nil]; omega)]
        exact fin _ (by rw [itmE']; simp)
      | false =>
        have this := fin (nm ++ [58, 32] ++ txt g) (by rw [itmE']; simp)
        simp only [cond_false]
        exact this
    · simp only [q, decide_false, cond_false]
      rw [List.take_of_length_le (by rw [List.length_map]; omega)] at ho
      exact ⟨h, v, rfl, hk, ho⟩
end Go.Proofs.YtghlcagikpdfiaaGreatDoor.Pq

set_option linter.unusedVariables false
set_option linter.unusedSimpArgs false
open Go Go.Proofs.YtghlcagikpdfiaaGreatDoor.Ai Go.Proofs
namespace Go.Proofs.YtghlcagikpdfiaaGreatDoor.Pq
set_option maxHeartbeats 1000000
variable {N : Nat} {s : SL} {l : List FD}
theorem f20_eq (hN : 2000001 ≤ N) {h : Heap} (x : FdIn h s l) (hw : wtF l ≤ 1100000) (h70 : l.length ≤ 70) : ∃ h', f20 N s h = some (jn l l.length, h') ∧ Keep h.next h h' := by
  obtain ⟨h1, v, e, k, o⟩ := fields_loop hN x hw N 0 h ⟨none, 0, 0, 0⟩ (Nat.zero_le _) (by omega) h70 (Keep.refl _ _) (Own1.nil _ _ _)
  have hs := own_strs o
  have hj := jn_le l l.length
  have ht : (l.map itm).take l.length = l.map itm := List.take_of_length_le (by rw [List.length_map]; exact Nat.le_refl _)
  unfold jn at hj
  rw [ht] at hj
  refine ⟨h1, ?_, k⟩
  unfold f20 f30
  rw [show ((0 : Nat) : Int) = 0 from rfl] at e
  rw [e, bind3_some]
  rw [join_eq hs _ (by rw [List.length_map]; omega) (by omega), bind2_some]
  unfold jn
  rw [ht]
/-- the document's fields -/
theorem ref_loop (hN : 2000001 ≤ N) {h0 : Heap} (x : FdIn h0 s l) (hw : wtF l ≤ 1100000) : ∀ (M i : Nat) (h : Heap), i ≤ l.length → l.length - i < M → l.length ≤ 70 → Keep h0.next h0 h →
    ∃ h', f32_l1 N M s (jn l i) (i : Int) h = some (.exit 0, (jn l l.length, ()), h') ∧ Keep h0.next h0 h' := by
  intro M
  induction M with
  | zero => intro i h _ h; omega
  | succ M ih =>
    intro i h hi hM h70 hk
    have hl := x.len
    rw [f32_l1_succ]
    unfold f32_l1_b
    simp only [ofInt_lt, hl]
    by_cases q : i < l.length
    · simp only [q, decide_true, cond_true]
      have xh : FdIn h s l := x.keep hk
      have ix := fun {β : Type} (K : Nat × Nat → Option β) => xh.ix q K
      have b0 := xh.cell (i := i) (j := 0) q (by omega)
      have b1 := xh.cell (i := i) (j := 1) q (by omega)
      have b2 := xh.cells (i := i) (j := 2) (m := 4) q (by omega)
      have b1' := xh.cell (i := i) (j := 1) q (by omega)
      have hty := x.ty l[i] (List.getElem_mem q)
      have hwi := wtF_get l i q
      have hit := itm_le l[i]
      have htx := txt_le l[i].g
      have hji := jn_le l i
      have hjs := jn_succ q
      have hat : (s.at i 6).1 < h.next := by
        have := xh.sees.isSome (by omega)
        obtain ⟨p, hp⟩ := Option.isSome_iff_exists.1 this
        simp only [SL.at, hp, Option.getD_some]
        exact (xh.sees.2.2 p.1 p.2 hp).1
      generalize s.at i 6 = p at *
      generalize l[i] = f at *
      obtain ⟨m, nm, ⟨k, tn, ⟨a1, l1, c1, z1⟩, ⟨a2, l2, c2, z2⟩, ⟨⟩⟩, g⟩ := f
      simp only [cellsF, cellsT, List.getElem?_cons_zero, List.getElem?_cons_succ, List.drop_succ_cons, List.drop_zero, List.take_succ_cons, List.take_zero] at b0 b1 b2 b1'
      simp only at hty hwi hit htx
      obtain ⟨h10, e10, k10⟩ := f12_eq hN g N (k, tn, ⟨a1, l1, c1, z1⟩, ⟨a2, l2, c2, z2⟩, ()) h (by have := dep_le g; omega) (by omega) (hty.keep hk)
      have g10 : h10.cell (p.1, p.2 + 1) = some (.str nm) := by rw [Heap.cell_g, k10.g p.1 hat, ← Heap.cell_g]; exact b1'
      have kk10 : Keep h0.next h0 h10 := hk.trans (k10.mono hk.next)
      have z : ltInt 0 (i : Int) = decide (0 < i) := by
        rw [ltInt_dec]; by_cases z : 0 < i <;> simp [z] <;> omega
      have hw1 : wrapA .i64 ((i : Int) + 1) = ((i + 1 : Nat) : Int) := by rw [wrapA_small (by omega) (by omega)]; rfl
      -- the comma
      have r1 : ∀ {β : Type} (K : (SL × List UInt8 × Int × Unit) → Heap → Option β), (bind2 (α := (SL × List UInt8 × Int × Unit)) (
          (bif ltInt 0 (i : Int) then
          (bindV (.val (.one .str)) (binStr .add (jn l i) [44, 32]) fun (x3 : List UInt8) =>
          some ((s, x3, (i : Int), ()), h))
         else
          some ((s, jn l i, (i : Int), ()), h))) K) = K (s, (if 0 < i then jn l i ++ [44, 32] else jn l i), (i : Int), ()) h := fun K => by
        rw [z]
        by_cases zz : 0 < i
        · simp only [zz, decide_true, cond_true, if_true]
          rw [bindV_add (by simp only [List.length_cons, List.length_nil]; omega), bind2_some]
        · simp only [zz, decide_false, cond_false, if_false, bind2_some]
      have hsep : (if 0 < i then jn l i ++ [44, 32] else jn l i).length ≤ 30000000 := by
        split
        · simp only [List.length_append, List.length_cons, List.length_nil]; omega
        · omega
      have hnew : jn l (i + 1) = ((if 0 < i then jn l i ++ [44, 32] else jn l i) ++ (if m then [109, 117, 116, 32] else [])) ++ nm ++ [58, 32] ++ txt g := by
        rw [hjs]
        by_cases zz : 0 < i
        · rw [if_pos zz, if_pos zz]; simp only [itm, List.append_assoc]
        · have : jn l i = [] := by rw [show i = 0 from by omega]; rfl
          simp only [zz, if_false, itm, List.append_assoc, this, List.nil_append]
      rw [r1]
      generalize (if 0 < i then jn l i ++ [44, 32] else jn l i) = J at *
      -- the word
      have ixl := fun {β : Type} (K : Nat × Nat → Option β) => ix K
      have r2 : ∀ {β : Type} (K : (SL × List UInt8 × Int × Unit) → Heap → Option β), (bind2 (α := (SL × List UInt8 × Int × Unit)) (
         (ixK s.a s.len (i : Int) 6 fun q6 =>
         (bindV (.val (.one .bool)) (h.cell (q6.1, q6.2 + 0)) fun (x7 : Bool) =>
         (bif x7 then
          (bindV (.val (.one .str)) (binStr .add J [109, 117, 116, 32]) fun (x8 : List UInt8) =>
          some ((s, x8, (i : Int), ()), h))
         else
          some ((s, J, (i : Int), ()), h))))) K) = K (s, J ++ (if m then [109, 117, 116, 32] else []), (i : Int), ()) h := fun K => by
        rw [ix, b0, bindV_some, cast_bool]
        cases m with
        | true =>
          simp only [cond_true, if_true]
          rw [bindV_add (by simp only [List.length_cons, List.length_nil]; omega), bind2_some]
        | false => simp [bind2_some]
      have hJ2 : (J ++ (if m then [109, 117, 116, 32] else [])).length ≤ 30000010 := by
        cases m <;> simp <;> omega
      have r3 : ∀ {β : Type} (K : (SL × List UInt8 × Int × Unit) → Heap → Option β) (W : Bs), W.length ≤ 30000010 → (bind2 (α := (SL × List UInt8 × Int × Unit))
        (ixK s.a s.len (i : Int) 6 fun q11 =>
        (bindV (.val (.one .str)) (h.cell (q11.1, q11.2 + 1)) fun (x12 : List UInt8) =>
        (bindV (.val (.one .str)) (binStr .add W x12) fun (x13 : List UInt8) =>
        (bindV (.val (.one .str)) (binStr .add x13 [58, 32]) fun (x14 : List UInt8) =>
        (ixK s.a s.len (i : Int) 6 fun q15 =>
        (bindV (.val (.agg [(.int .i64), .str, .slice, .slice])) (h.cells (q15.1, q15.2 + 2) 4) fun (x16 : (Int × List UInt8 × SL × SL × Unit)) =>
        (bind2 (f12 N N (x16.1, x16.2.1, x16.2.2.1, x16.2.2.2.1, ()) h) fun (x17 : List UInt8) h18 =>
        (bindV (.val (.one .str)) (binStr .add x14 x17) fun (x19 : List UInt8) =>
        (guardB (bif (sameO (h.cells (q15.1, q15.2 + 2) 4) (.agg [(.int .i64 x16.1), (.str x16.2.1), (.slice x16.2.2.1.a x16.2.2.1.len x16.2.2.1.cap x16.2.2.1.sz), (.slice x16.2.2.2.1.a x16.2.2.2.1.len x16.2.2.2.1.cap x16.2.2.2.1.sz)])) then (bif (sameO (h18.cell (q11.1, q11.2 + 1)) (.str x12)) then (bif (sameO (h.cell (q11.1, q11.2 + 1)) (.str x12)) then true else false) else false) else false) (
        some ((s, x19, (i : Int), ()), h18))))))))))) K) = K (s, W ++ nm ++ [58, 32] ++ txt g, (i : Int), ()) h10 := fun K W hW => by
        rw [ix, b1', bindV_some, cast_str, bindV_add (by omega), bindV_add (by simp only [List.length_append, List.length_cons, List.length_nil]; omega), ix]
        simp only [b2, b1', ↓bindV_some, ↓cast_agg, ↓casts_str, ↓casts_int, ↓casts_slice, ↓casts_nil]
        rw [e10]
        simp only [↓bind2_some]
        rw [bindV_add (by simp only [List.length_append, List.length_cons, List.length_nil]; omega)]
        simp only [g10, sameO_some, cond_true, guardB_true, bind2_some]
      dsimp only
      rw [r2]
      dsimp only
      rw [r3 _ _ hJ2]
      dsimp only
      rw [hw1, ← hnew]
      exact ih (i + 1) h10 q (by omega) h70 kk10
    · simp only [q, decide_false, cond_false]
      refine ⟨h, ?_, hk⟩
      have : jn l i = jn l l.length := by rw [show i = l.length from by omega]
      rw [this]
end Go.Proofs.YtghlcagikpdfiaaGreatDoor.Pq

set_option linter.unusedVariables false
set_option linter.unusedSimpArgs false
open Go Go.Proofs.YtghlcagikpdfiaaGreatDoor.Ai Go.Proofs
namespace Go.Proofs.YtghlcagikpdfiaaGreatDoor.Pq
set_option maxHeartbeats 1000000
theorem f32_eq {N : Nat} {s : SL} {l : List FD} (hN : 2000001 ≤ N) {h : Heap} (x : FdIn h s l) (hw : wtF l ≤ 1100000) (h70 : l.length ≤ 70) : ∃ h', f32 N s h = some (jn l l.length, h') ∧ Keep h.next h h' := by
  obtain ⟨h1, e, k⟩ := ref_loop hN x hw N 0 h (Nat.zero_le _) (by omega) h70 (Keep.refl _ _)
  refine ⟨h1, ?_, k⟩
  unfold f32
  rw [show ((0 : Nat) : Int) = 0 from rfl, show jn l 0 = [] from rfl] at e
  rw [e, bind3_some]
/-! lifetimes of functions -/
structure LD where
  nm : Bs
  ov : SL
  ol : List Bs
def cellsL (f : LD) : List AV := [.str f.nm, .slice f.ov.a f.ov.len f.ov.cap f.ov.sz]
def flatL (l : List LD) : List AV := (l.map cellsL).flatten
structure LfIn (h : Heap) (s : SL) (l : List LD) : Prop where
  len : s.len = l.length
  sz : s.sz = 2 ∨ s.len = 0
  sees : Sees h s (flatL l)
  ty : ∀ f ∈ l, Strs h f.ov f.ol
theorem LfIn.keep {h h' : Heap} {s : SL} {l : List LD} (x : LfIn h s l) (hk : Keep h.next h h') : LfIn h' s l := ⟨x.len, x.sz, x.sees.keep hk x.sees.under, fun f hf => (x.ty f hf).keep (x.ty f hf).under hk⟩
theorem flatL_at : ∀ (l : List LD) (i : Nat) (hi : i < l.length), (flatL l).drop (i * 2) = cellsL l[i] ++ flatL (l.drop (i + 1))
  | f :: r, 0, _ => by simp [flatL]
  | f :: r, i + 1, hi => by
    have ih := flatL_at r i (by simpa using hi)
    have e : flatL (f :: r) = cellsL f ++ flatL r := by simp [flatL]
    rw [e, List.drop_append]
    have h6 : (cellsL f).length = 2 := rfl
    rw [List.drop_eq_nil_of_le (by rw [h6]; omega), List.nil_append, h6, show (i + 1) * 2 - 2 = i * 2 from by omega, ih]
    simp
theorem flatL_get {l : List LD} {i j : Nat} (hi : i < l.length) (hj : j < 2) : (flatL l)[i * 2 + j]? = (cellsL l[i])[j]? := by
  have := flatL_at l i hi
  rw [← List.getElem?_drop, this, List.getElem?_append_left (by show j < 2; exact hj)]
theorem LfIn.cell {h : Heap} {s : SL} {l : List LD} (x : LfIn h s l) {i j : Nat} (hi : i < l.length) (hj : j < 2) : h.cell ((s.at i 2).1, (s.at i 2).2 + j) = (cellsL l[i])[j]? := by
  have hz : s.sz = 2 := x.sz.resolve_right (by have := x.len; omega)
  rw [Sees.sub x.sees hz (by rw [x.len]; exact hi) hj, flatL_get hi hj]
theorem LfIn.cells {h : Heap} {s : SL} {l : List LD} (x : LfIn h s l) {i : Nat} (hi : i < l.length) : h.cells (s.at i 2) 2 = some (.agg (cellsL l[i])) := by
  have hz : s.sz = 2 := x.sz.resolve_right (by have := x.len; omega)
  have := Sees.subs x.sees hz (i := i) (j := 0) (m := 2) (by rw [x.len]; exact hi) (by omega)
  simp only [Nat.add_zero] at this
  rw [show ((s.at i 2).1, (s.at i 2).2) = s.at i 2 from rfl] at this
  rw [this, flatL_at l i hi]
  rfl
theorem LfIn.ix {h : Heap} {s : SL} {l : List LD} (x : LfIn h s l) {i : Nat} (hi : i < l.length) {β : Type} (K : Nat × Nat → Option β) : ixK s.a s.len (i : Int) 2 K = K (s.at i 2) :=
  ixK_at (x.sees.isSome (by have := x.len; omega)) (by have := x.len; omega) K
def ovR : List Bs → Bs
  | [] => []
  | y :: r => [32, 43, 32] ++ [39] ++ y ++ ovR r
def ovT (l : List Bs) : Bs := match l with
  | [] => []
  | x :: r => [58, 32] ++ [39] ++ x ++ ovR r
theorem join_ovR : ∀ (x : Bs) (r : List Bs), Np.joinL (x :: r) [32, 43, 32, 39] = x ++ ovR r
  | x, [] => by simp [Np.joinL, ovR]
  | x, y :: r => by
    show x ++ ([32, 43, 32, 39] ++ Np.joinL (y :: r) [32, 43, 32, 39]) = _
    rw [join_ovR y r]; simp [ovR]
theorem ovR_snoc : ∀ (l : List Bs) (x : Bs), ovR (l ++ [x]) = ovR l ++ ([32, 43, 32] ++ [39] ++ x)
  | [], x => by simp [ovR]
  | y :: r, x => by simp only [List.cons_append, ovR, ovR_snoc r x, List.append_assoc]
theorem ovR_le : ∀ l : List Bs, (ovR l).length ≤ 5 * wts l
  | [] => by simp [ovR]
  | y :: r => by have := ovR_le r; simp only [ovR, wts, List.length_append, List.length_cons, List.length_nil]; omega
theorem ovT_le : ∀ l : List Bs, (ovT l).length ≤ 5 * wts l
  | [] => by simp [ovT]
  | y :: r => by have := ovR_le r; simp only [ovT, wts, List.length_append, List.length_cons, List.length_nil]; omega
theorem ovT_snoc {l : List Bs} {i : Nat} (hi : i < l.length) : ovT (l.take (i + 1)) = ovT (l.take i) ++ (if i = 0 then [58, 32] else [32, 43, 32]) ++ [39] ++ l[i] := by
  rw [List.take_succ_eq_append_getElem hi]
  cases l with
  | nil => simp at hi
  | cons x r =>
    cases i with
    | zero => simp [ovT, ovR]
    | succ i =>
      simp only [List.take_succ_cons, List.cons_append, ovT, List.getElem_cons_succ]
      rw [ovR_snoc, if_neg (Nat.succ_ne_zero _)]
      simp
def itl (f : LD) : Bs := [39] ++ f.nm ++ ovT f.ol
def wtL : List LD → Nat
  | [] => 0
  | f :: r => f.nm.length + wts f.ol + 3 + wtL r
theorem itl_le (f : LD) : (itl f).length ≤ f.nm.length + 1 + 5 * wts f.ol := by
  have := ovT_le f.ol
  unfold itl
  simp only [List.length_append, List.length_cons, List.length_nil]; omega
theorem wtL_get : ∀ (l : List LD) (i : Nat) (h : i < l.length), l[i].nm.length + wts l[i].ol + 3 ≤ wtL l
  | f :: r, 0, _ => by simp only [List.getElem_cons_zero, wtL]; omega
  | f :: r, i + 1, h => by have := wtL_get r i (by simpa using h); simp only [List.getElem_cons_succ, wtL]; omega
theorem wts_itl : ∀ (l : List LD) (i : Nat), wts ((l.map itl).take i) ≤ 5 * wtL l
  | [], i => by simp [wts]
  | f :: r, 0 => by simp [wts]
  | f :: r, i + 1 => by
    have := wts_itl r i
    have h1 := itl_le f
    simp only [List.map_cons, List.take_succ_cons, wts, wtL]; omega
def jl (l : List LD) (i : Nat) : Bs := Np.joinL ((l.map itl).take i) [44, 32]
theorem jl_le (l : List LD) (i : Nat) : (jl l i).length ≤ 15 * wtL l := by
  have h1 := joinL_le [44, 32] ((l.map itl).take i)
  have h2 := wts_itl l i
  simp only [List.length_cons, List.length_nil] at h1
  unfold jl; omega
theorem jl_succ {l : List LD} {i : Nat} (hi : i < l.length) : jl l (i + 1) = if 0 < i then jl l i ++ [44, 32] ++ itl l[i] else itl l[i] := by
  unfold jl
  rw [List.take_succ_eq_append_getElem (by simpa using hi), joinL_snoc]
  cases i with
  | zero => simp
  | succ i =>
    have : ¬ (List.take (i + 1) (List.map itl l) = []) := by
      intro e
      have h0 : (List.take (i + 1) (List.map itl l)).length = i + 1 := by rw [List.length_take, List.length_map]; omega
      rw [e] at h0; simp at h0
    rw [if_neg this, if_pos (Nat.succ_pos _)]; simp
variable {N : Nat} {s : SL} {l : List LD}
/-- the program's loop over lifetimes -/
theorem lives_loop (hN : 2000001 ≤ N) {h0 : Heap} (x : LfIn h0 s l) (hw : wtL l ≤ 1100000) (p : Option (Nat × Nat)) : ∀ (M i : Nat) (h : Heap) (v : SL), i ≤ l.length → l.length - i < M → l.length ≤ 70 → Keep h0.next h0 h → Own1 h0.next h v (((l.map itl).take i).map AV.str) →
    ∃ h' v', f13_l1 N M p v s (Int.ofNat s.len) (i : Int) h = some (.exit 0, (p, v', ()), h') ∧ Keep h0.next h0 h' ∧ Own1 h0.next h' v' ((l.map itl).map AV.str) := by
  intro M
  induction M with
  | zero => intro i h v _ h; omega
  | succ M ih =>
    intro i h v hi hM h70 hk ho
    have hl := x.len
    rw [f13_l1_succ]
    unfold f13_l1_b
    simp only [ofInt_lt, hl]
    by_cases q : i < l.length
    · simp only [q, decide_true, cond_true]
      have xh : LfIn h s l := x.keep hk
      have ix := fun {β : Type} (K : Nat × Nat → Option β) => xh.ix q K
      rw [hl] at ix
      have hcs := xh.cells q
      rw [ix, hcs]
      have hty := x.ty l[i] (List.getElem_mem q)
      have hwi := wtL_get l i q
      have hit := itl_le l[i]
      have itmM : (l.map itl)[i]? = some (itl l[i]) := by rw [List.getElem?_map, List.getElem?_eq_getElem q]; rfl
      have htake : ((l.map itl).take (i + 1)).map AV.str = ((l.map itl).take i).map AV.str ++ [AV.str (itl l[i])] := by
        rw [List.take_add_one, itmM]; simp
      have hln : (((l.map itl).take i).map AV.str).length ≤ 100000 := by
        rw [List.length_map, List.length_take]; omega
      generalize l[i] = f at *
      obtain ⟨nm, ⟨a1, l1, c1, z1⟩, ol⟩ := f
      simp only [cellsL, ↓bindV_some, ↓cast_agg, ↓casts_str, ↓casts_slice, ↓casts_nil]
      simp only at hty hwi hit
      have hst : (h.push (.row [.str [], .slice none 0 0 0] .own)).store (h.next, 0) [.str nm, .slice a1 l1 c1 z1] = some ((h.push (.row [.str [], .slice none 0 0 0] .own)).put h.next (.row [.str nm, .slice a1 l1 c1 z1] .own)) :=
        (Heap.is_push h _).store 0 _ rfl
      have his := (Heap.is_push h [.str [], .slice none 0 0 0]).put_same [.str nm, .slice a1 l1 c1 z1]
      have k5 : Keep h0.next h0 ((h.push (.row [.str [], .slice none 0 0 0] .own)).put h.next (.row [.str nm, .slice a1 l1 c1 z1] .own)) := (hk.push (Nat.le_refl _) _).put hk.next _
      have o5 : Own1 h0.next ((h.push (.row [.str [], .slice none 0 0 0] .own)).put h.next (.row [.str nm, .slice a1 l1 c1 z1] .own)) v (((l.map itl).take i).map AV.str) :=
        (ho.push _).but (But.put _ h.next _) (fun A hA e => by have := (ho.ge A hA).2; cases e; omega)
      have n5 : ((h.push (.row [.str [], .slice none 0 0 0] .own)).put h.next (.row [.str nm, .slice a1 l1 c1 z1] .own)).next = h.next + 1 := rfl
      rw [hst]
      generalize (h.push (.row [.str [], .slice none 0 0 0] .own)).put h.next (.row [.str nm, .slice a1 l1 c1 z1] .own) = h5 at *
      have d0 := his.cell 0
      have d1 := his.cell 1
      have hs5 := hty.keep hty.under k5
      have hb5 : h0.next ≤ h5.next := k5.next
      have hw1 : wrapA .i64 ((i : Int) + 1) = ((i + 1 : Nat) : Int) := by rw [wrapA_small (by omega) (by omega)]; rfl
      have fin : ∀ z : Bs, z = itl ⟨nm, ⟨a1, l1, c1, z1⟩, ol⟩ → ∃ h' v', (bindT (.val (.one .slice)) (appendA E 35 35 (.slice v.a v.len v.cap v.sz) (.slice (some (h5.next, 0)) 1 1 1) (h5.push (.row [.str z] .own))) fun (x19 : SL) h20 => f13_l1 N M p x19 s (Int.ofNat l.length) (wrapA .i64 ((i : Int) + 1)) h20) = some (.exit 0, (p, v', ()), h') ∧ Keep h0.next h0 h' ∧ Own1 h0.next h' v' ((l.map itl).map AV.str) := by
        intro z hz
        obtain ⟨v1, h11, e11, o11, b11, _⟩ := append_own1 app35 (v := AV.str z) rfl o5 hb5 hln
        rw [e11, bindT_some, cast_slice, hw1]
        rw [hz, ← htake] at o11
        have := ih (i + 1) h11 v1 q (by omega) h70 (k5.trans (b11.keep hb5 (fun A hA => (o5.ge A hA).1))) o11
        rw [hl] at this
        exact this
      simp only [↓need_some, Nat.add_zero, Nat.zero_add, d0, d1, List.drop_succ_cons, List.drop_zero, List.head?_cons, ↓bindV_some, ↓cast_str, ↓cast_slice]
      rw [bindV_add (by simp only [List.length_cons, List.length_nil]; omega)]
      have hl1 : l1 = ol.length := hs5.len
      rw [zero_lt]
      cases ol with
      | nil =>
        have e0 : decide (0 < l1) = false := by rw [hl1]; rfl
        rw [e0]
        have := fin ([39] ++ nm) (by simp [itl, ovT])
        simp only [cond_false]
        exact this
      | cons y r =>
        have e0 : decide (0 < l1) = true := by rw [hl1]; simp
        rw [e0]
        simp only [cond_true]
        have hj := joinL_le [32, 43, 32, 39] (y :: r)
        have hlw := length_le_wts (y :: r)
        simp only [List.length_cons, List.length_nil] at hj
        rw [bindV_add (by simp only [List.length_append, List.length_cons, List.length_nil]; omega)]
        unfold f30
        rw [join_eq hs5 _ (by omega) (by omega), bind2_some]
        rw [bindV_add (by simp only [List.length_append, List.length_cons, List.length_nil]; omega)]
        have := fin ([39] ++ nm ++ [58, 32, 39] ++ Np.joinL (y :: r) [32, 43, 32, 39]) (by rw [join_ovR]; simp [itl, ovT])
        exact this
    · simp only [q, decide_false, cond_false]
      rw [List.take_of_length_le (by rw [List.length_map]; omega)] at ho
      exact ⟨h, v, rfl, hk, ho⟩
end Go.Proofs.YtghlcagikpdfiaaGreatDoor.Pq

set_option linter.unusedVariables false
set_option linter.unusedSimpArgs false
open Go Go.Proofs.YtghlcagikpdfiaaGreatDoor.Ai Go.Proofs
namespace Go.Proofs.YtghlcagikpdfiaaGreatDoor.Pq
set_option maxHeartbeats 1000000
variable {N : Nat} {s : SL} {l : List LD}
theorem over_loop {h : Heap} (x : LfIn h s l) {A : Nat} (hc : h.cell (A, 0 + 2) = some (.slice s.a s.len s.cap s.sz)) {i : Nat} (q : i < l.length) (hw : wts l[i].ol ≤ 1100000) (W : Bs) (hW : W.length ≤ 100000000) : ∀ (M k : Nat), k ≤ l[i].ol.length → l[i].ol.length - k < M →
    f14_l2 N M (some (A, 0)) (W ++ ovT (l[i].ol.take k)) (i : Int) (k : Int) h = some (.exit 2, (some (A, 0), W ++ ovT l[i].ol, (i : Int), ()), h) := by
  have ix := fun {β : Type} (K : Nat × Nat → Option β) => x.ix q K
  have c1 := x.cell q (j := 1) (by omega)
  have hs := x.ty l[i] (List.getElem_mem q)
  generalize l[i] = f at *
  obtain ⟨nm, ⟨a1, l1, d1, z1⟩, ol⟩ := f
  simp only [cellsL, List.getElem?_cons_zero, List.getElem?_cons_succ] at c1
  simp only at hs hw ⊢
  have hl1 : l1 = ol.length := hs.len
  have hlw := length_le_wts ol
  intro M
  induction M with
  | zero => intro k _ h; omega
  | succ M ih =>
    intro k hk hM
    rw [f14_l2_succ]
    unfold f14_l2_b
    simp only [↓need_some, hc, ↓bindV_some, ↓cast_slice]
    rw [ix]
    simp only [c1, ↓bindV_some, ↓cast_slice, ofInt_lt, hl1]
    have h1 := ovT_le (ol.take k)
    have h2 := wts_take ol k
    by_cases z : k < ol.length
    · simp only [z, decide_true, cond_true]
      have h3 := wts_get ol k z
      have hsn := ovT_snoc z
      have hg : ∀ {β : Type} (K : Bs → Option β), (ixK a1 ol.length (k : Int) 1 fun q => bindV (.val (.one .str)) (h.cell q) K) = K ol[k] := fun K => by
        have := One.str hs.1 (x := (k : Int)) (by omega) (by omega) K
        simp only at this
        rw [hl1] at this
        rw [this, Int.toNat_natCast, getD_lt _ _ z]
      have r1 : ∀ {β : Type} (K : (Option (Nat × Nat) × List UInt8 × Int × Int × Unit) → Heap → Option β), (bind2 (α := (Option (Nat × Nat) × List UInt8 × Int × Int × Unit)) (
           (bif eqInt (k : Int) 0 then
            (bindV (.val (.one .str)) (binStr .add (W ++ ovT (ol.take k)) [58, 32]) fun (x21 : List UInt8) =>
            some ((some (A, 0), x21, (i : Int), (k : Int), ()), h))
           else
            (bindV (.val (.one .str)) (binStr .add (W ++ ovT (ol.take k)) [32, 43, 32]) fun (x22 : List UInt8) =>
            some ((some (A, 0), x22, (i : Int), (k : Int), ()), h)))) K) = K (some (A, 0), (W ++ ovT (ol.take k)) ++ (if k = 0 then [58, 32] else [32, 43, 32]), (i : Int), (k : Int), ()) h := fun K => by
        by_cases zz : k = 0
        · have : eqInt (k : Int) 0 = true := by rw [eqInt_dec, zz]; rfl
          rw [this, cond_true, if_pos zz, bindV_add (by simp only [List.length_append, List.length_cons, List.length_nil]; omega), bind2_some]
        · have : eqInt (k : Int) 0 = false := by rw [eqInt_dec]; simp; omega
          rw [this, cond_false, if_neg zz, bindV_add (by simp only [List.length_append, List.length_cons, List.length_nil]; omega), bind2_some]
      have hsep : ((W ++ ovT (ol.take k)) ++ (if k = 0 then [58, 32] else [32, 43, 32])).length ≤ 120000000 := by
        simp only [List.length_append]
        split <;> simp only [List.length_cons, List.length_nil] <;> omega
      rw [r1]
      have hnew : W ++ ovT (ol.take (k + 1)) = ((W ++ ovT (ol.take k)) ++ (if k = 0 then [58, 32] else [32, 43, 32])) ++ [39] ++ ol[k] := by
        rw [hsn]; simp only [List.append_assoc]
      generalize (W ++ ovT (ol.take k)) ++ (if k = 0 then [58, 32] else [32, 43, 32]) = J at *
      dsimp only
      rw [bindV_add (by simp only [List.length_cons, List.length_nil]; omega)]
      simp only [↓need_some, hc, ↓bindV_some, ↓cast_slice]
      rw [ix]
      simp only [c1, ↓bindV_some, ↓cast_slice, hl1]
      rw [hg, bindV_add (by simp only [List.length_append, List.length_cons, List.length_nil]; omega)]
      simp only [↓bind2_some]
      have hw1 : wrapA .i64 ((k : Int) + 1) = ((k + 1 : Nat) : Int) := by rw [wrapA_small (by omega) (by omega)]; rfl
      rw [hw1, ← hnew]
      exact ih (k + 1) z (by omega)
    · simp only [z, decide_false, cond_false]
      rw [List.take_of_length_le (by omega)]
theorem refl_loop (hN : 2000001 ≤ N) {h : Heap} (x : LfIn h s l) (hw : wtL l ≤ 1100000) {A : Nat} (hc : h.cell (A, 0 + 2) = some (.slice s.a s.len s.cap s.sz)) : ∀ (M i : Nat), i ≤ l.length → l.length - i < M →
    f14_l1 N M (some (A, 0)) (jl l i) (i : Int) h = some (.exit 0, (some (A, 0), jl l l.length, ()), h) := by
  have hl := x.len
  intro M
  induction M with
  | zero => intro i _ h; omega
  | succ M ih =>
    intro i hi hM
    rw [f14_l1_succ]
    unfold f14_l1_b
    simp only [↓need_some, hc, ↓bindV_some, ↓cast_slice, ofInt_lt, hl]
    have hwl : l.length ≤ wtL l := by
      clear hc x hw hi hM ih hl
      induction l with
      | nil => exact Nat.le_refl _
      | cons f r ih => simp only [List.length_cons, wtL]; omega
    by_cases q : i < l.length
    · simp only [q, decide_true, cond_true]
      have ix := fun {β : Type} (K : Nat × Nat → Option β) => x.ix q K
      rw [hl] at ix
      have c0 := x.cell q (j := 0) (by omega)
      have hwi := wtL_get l i q
      have hji := jl_le l i
      have hjs := jl_succ q
      have ov := over_loop (N := N) x hc q (by omega)
      have hol := length_le_wts l[i].ol
      have e0 : (cellsL l[i])[0]? = some (AV.str l[i].nm) := rfl
      rw [e0] at c0
      have z : ltInt 0 (i : Int) = decide (0 < i) := by
        rw [ltInt_dec]; by_cases z : 0 < i <;> simp [z] <;> omega
      have hw1 : wrapA .i64 ((i : Int) + 1) = ((i + 1 : Nat) : Int) := by rw [wrapA_small (by omega) (by omega)]; rfl
      have r1 : ∀ {β : Type} (K : (Option (Nat × Nat) × List UInt8 × Int × Unit) → Heap → Option β), (bind2 (α := (Option (Nat × Nat) × List UInt8 × Int × Unit)) (
          (bif ltInt 0 (i : Int) then
          (bindV (.val (.one .str)) (binStr .add (jl l i) [44, 32]) fun (x3 : List UInt8) =>
          some ((some (A, 0), x3, (i : Int), ()), h))
         else
          some ((some (A, 0), jl l i, (i : Int), ()), h))) K) = K (some (A, 0), (if 0 < i then jl l i ++ [44, 32] else jl l i), (i : Int), ()) h := fun K => by
        rw [z]
        by_cases zz : 0 < i
        · simp only [zz, decide_true, cond_true, if_true]
          rw [bindV_add (by simp only [List.length_cons, List.length_nil]; omega), bind2_some]
        · simp only [zz, decide_false, cond_false, if_false, bind2_some]
      have hsep : (if 0 < i then jl l i ++ [44, 32] else jl l i).length ≤ 30000000 := by
        split
        · simp only [List.length_append, List.length_cons, List.length_nil]; omega
        · omega
      have hnew : jl l (i + 1) = (if 0 < i then jl l i ++ [44, 32] else jl l i) ++ [39] ++ l[i].nm ++ ovT l[i].ol := by
        rw [hjs]
        by_cases zz : 0 < i
        · rw [if_pos zz, if_pos zz]; simp only [itl, List.append_assoc]
        · have : jl l i = [] := by rw [show i = 0 from by omega]; rfl
          rw [if_neg zz, if_neg zz, this]; simp only [itl, List.append_assoc, List.nil_append]
      rw [r1]
      generalize (if 0 < i then jl l i ++ [44, 32] else jl l i) = J at *
      dsimp only
      rw [bindV_add (by simp only [List.length_cons, List.length_nil]; omega)]
      simp only [↓need_some, hc, ↓bindV_some, ↓cast_slice, hl]
      rw [ix, c0]
      simp only [↓bindV_some, ↓cast_str]
      rw [bindV_add (by simp only [List.length_append, List.length_cons, List.length_nil]; omega)]
      have o1 := ov (J ++ [39] ++ l[i].nm) (by simp only [List.length_append, List.length_cons, List.length_nil]; omega) N 0 (Nat.zero_le _) (by omega)
      rw [show ((0 : Nat) : Int) = 0 from rfl, List.take_zero, show ovT [] = [] from rfl, List.append_nil] at o1
      rw [o1]
      simp only [↓bind3_some, ↓bind2_some]
      rw [hw1, ← hnew]
      exact ih (i + 1) q (by omega)
    · simp only [q, decide_false, cond_false]
      have : jl l i = jl l l.length := by rw [show i = l.length from by omega]
      rw [this]
end Go.Proofs.YtghlcagikpdfiaaGreatDoor.Pq

set_option linter.unusedVariables false
set_option linter.unusedSimpArgs false
open Go Go.Proofs.YtghlcagikpdfiaaGreatDoor.Ai Go.Proofs
namespace Go.Proofs.YtghlcagikpdfiaaGreatDoor.Pq
set_option maxHeartbeats 2000000
abbrev HV := Bool × List UInt8 × SL × SL × Int × List UInt8 × SL × SL × SL × Int × Unit
def cellsH (a : HV) : List AV := [.bool a.1, .str a.2.1, .slice a.2.2.1.a a.2.2.1.len a.2.2.1.cap a.2.2.1.sz, .slice a.2.2.2.1.a a.2.2.2.1.len a.2.2.2.1.cap a.2.2.2.1.sz, .int .i64 a.2.2.2.2.1, .str a.2.2.2.2.2.1, .slice a.2.2.2.2.2.2.1.a a.2.2.2.2.2.2.1.len a.2.2.2.2.2.2.1.cap a.2.2.2.2.2.2.1.sz, .slice a.2.2.2.2.2.2.2.1.a a.2.2.2.2.2.2.2.1.len a.2.2.2.2.2.2.2.1.cap a.2.2.2.2.2.2.2.1.sz, .slice a.2.2.2.2.2.2.2.2.1.a a.2.2.2.2.2.2.2.2.1.len a.2.2.2.2.2.2.2.2.1.cap a.2.2.2.2.2.2.2.2.1.sz, .int .i64 a.2.2.2.2.2.2.2.2.2.1]
structure HdIn (h : Heap) (a : HV) (ll : List LD) (pl : List FD) (g : GT) : Prop where
  l : LfIn h a.2.2.1 ll
  p : FdIn h a.2.2.2.1 pl
  t : TyIn h g (a.2.2.2.2.1, a.2.2.2.2.2.1, a.2.2.2.2.2.2.1, a.2.2.2.2.2.2.2.1, ())
theorem HdIn.keep {h h' : Heap} {a : HV} {ll : List LD} {pl : List FD} {g : GT} (x : HdIn h a ll pl g) (hk : Keep h.next h h') : HdIn h' a ll pl g := ⟨x.l.keep hk, x.p.keep hk, x.t.keep hk⟩
def pubs (b : Bool) : Bs := if b then [112, 117, 98, 32] else []
theorem f22_eq (N : Nat) (b : Bool) (h : Heap) : f22 N b h = some (pubs b, h) := by cases b <;> rfl
theorem f31_eq (N : Nat) (b : Bool) (h : Heap) : f31 N b h = some (pubs b, h) := by cases b <;> rfl
theorem pubs_le (b : Bool) : (pubs b).length ≤ 4 := by cases b <;> simp [pubs]
def lvs (ll : List LD) : Bs := match ll with
  | [] => []
  | _ => [60] ++ jl ll ll.length ++ [62]
def res (k : Int) (s : Bs) (g : GT) : Bs := if k = 0 then s else s ++ [32, 45, 62, 32] ++ txt g
def txtH (b : Bool) (nm : Bs) (ll : List LD) (pl : List FD) (k : Int) (g : GT) : Bs := res k (pubs b ++ [102, 110, 32] ++ nm ++ lvs ll ++ [40] ++ jn pl pl.length ++ [41]) g
theorem jl_full (ll : List LD) : jl ll ll.length = Np.joinL (ll.map itl) [44, 32] := by
  unfold jl; rw [List.take_of_length_le (by rw [List.length_map]; exact Nat.le_refl _)]
theorem jl_ne (f : LD) (r : List LD) : eqBytes (jl (f :: r) (f :: r).length) [] = false := by
  rw [jl_full]
  cases r with
  | nil => simp [Np.joinL, itl, eqBytes]
  | cons y r => simp [Np.joinL, itl, eqBytes]
theorem f13_eq {N : Nat} (hN : 2000001 ≤ N) {h : Heap} {a : HV} {ll : List LD} {pl : List FD} {g : GT} (x : HdIn h a ll pl g) (hnm : a.2.1.length ≤ 1100000) (hwl : wtL ll ≤ 1100000) (hwp : wtF pl ≤ 1100000) (hwg : wt g ≤ 1100000) (h70 : ll.length ≤ 70) (p70 : pl.length ≤ 70) :
    ∃ h', f13 N a h = some (txtH a.1 a.2.1 ll pl a.2.2.2.2.1 g, h') ∧ Keep h.next h h' := by
  obtain ⟨b, nm, ⟨a1, l1, c1, z1⟩, ⟨a2, l2, c2, z2⟩, k, tn, ⟨a3, l3, c3, z3⟩, ⟨a4, l4, c4, z4⟩, ⟨a5, l5, c5, z5⟩, at', ⟨⟩⟩ := a
  unfold f13
  dsimp only at hnm ⊢
  have k1 : Keep h.next h (h.push (.row (cellsH (b, nm, ⟨a1, l1, c1, z1⟩, ⟨a2, l2, c2, z2⟩, k, tn, ⟨a3, l3, c3, z3⟩, ⟨a4, l4, c4, z4⟩, ⟨a5, l5, c5, z5⟩, at', ())) .own)) := (Keep.refl _ _).push (Nat.le_refl _) _
  have d := fun j => push_cells (h := h) (cs := cellsH (b, nm, ⟨a1, l1, c1, z1⟩, ⟨a2, l2, c2, z2⟩, k, tn, ⟨a3, l3, c3, z3⟩, ⟨a4, l4, c4, z4⟩, ⟨a5, l5, c5, z5⟩, at', ())) j
  have ds : (h.push (.row (cellsH (b, nm, ⟨a1, l1, c1, z1⟩, ⟨a2, l2, c2, z2⟩, k, tn, ⟨a3, l3, c3, z3⟩, ⟨a4, l4, c4, z4⟩, ⟨a5, l5, c5, z5⟩, at', ())) .own)).cells (h.next, 0 + 4) 4 = some (.agg (cellsT (k, tn, ⟨a3, l3, c3, z3⟩, ⟨a4, l4, c4, z4⟩, ()))) := by
    have := (Heap.is_push h (cellsH (b, nm, ⟨a1, l1, c1, z1⟩, ⟨a2, l2, c2, z2⟩, k, tn, ⟨a3, l3, c3, z3⟩, ⟨a4, l4, c4, z4⟩, ⟨a5, l5, c5, z5⟩, at', ()))).cells 4 4
    exact this
  have n1 : (h.push (.row (cellsH (b, nm, ⟨a1, l1, c1, z1⟩, ⟨a2, l2, c2, z2⟩, k, tn, ⟨a3, l3, c3, z3⟩, ⟨a4, l4, c4, z4⟩, ⟨a5, l5, c5, z5⟩, at', ())) .own)).next = h.next + 1 := rfl
  have x1 := x.keep k1
  have d0 := d 0
  have d1 := d 1
  have d2 := d 2
  have d3 := d 3
  have d4 := d 4
  clear d x
  simp only [cellsH] at *
  generalize h.push (.row [.bool b, .str nm, .slice a1 l1 c1 z1, .slice a2 l2 c2 z2, .int .i64 k, .str tn, .slice a3 l3 c3 z3, .slice a4 l4 c4 z4, .slice a5 l5 c5 z5, .int .i64 at'] .own) = h1 at *
  simp only [List.getElem?_cons_zero, List.getElem?_cons_succ] at d0 d1 d2 d3 d4
  have cK : ∀ (j : Nat) (hx : Heap), Keep h1.next h1 hx → hx.cell (h.next, j) = h1.cell (h.next, j) := fun j hx hk => by
    rw [Heap.cell_g, Heap.cell_g, hk.g h.next (by omega)]
  have sK : ∀ (hx : Heap), Keep h1.next h1 hx → hx.cells (h.next, 0 + 4) 4 = h1.cells (h.next, 0 + 4) 4 := fun hx hk => by
    rw [Heap.cells_g, Heap.cells_g, hk.g h.next (by omega)]
  obtain ⟨h2, v, e2, k2, o2⟩ := lives_loop hN x1.l hwl (some (h.next, 0)) N 0 h1 ⟨none, 0, 0, 0⟩ (Nat.zero_le _) (by omega) h70 (Keep.refl _ _) (Own1.nil _ _ _)
  rw [show ((0 : Nat) : Int) = 0 from rfl] at e2
  have hs2 := own_strs o2
  have hv : v.len = ll.length := by have := hs2.len; rw [this, List.length_map]
  have hjl := jl_le ll ll.length
  have hjn := jn_le pl pl.length
  have htx := txt_le g
  have hp := pubs_le b
  obtain ⟨h3, e3, k3⟩ := f20_eq hN (x1.p.keep k2) hwp p70
  have kk3 : Keep h1.next h1 h3 := k2.trans (k3.mono k2.next)
  obtain ⟨h4, e4, k4⟩ := f11_eq hN g N (k, tn, ⟨a3, l3, c3, z3⟩, ⟨a4, l4, c4, z4⟩, ()) h3 (by have := dep_le g; omega) (by omega) (x1.t.keep kk3)
  have kk4 : Keep h1.next h1 h4 := kk3.trans (k4.mono kk3.next)
  have fin : ∀ hx, Keep h1.next h1 hx → Keep h.next h hx := fun hx hk => k1.trans (hk.mono (by omega))
  simp only at e2 e3 e4
  have g0 := (cK (0 + 0) h2 k2).trans d0
  have g1 := (cK (0 + 1) h2 k2).trans d1
  have g3 := (cK (0 + 3) h2 k2).trans d3
  have g4 := (cK (0 + 4 + 0) h3 kk3).trans d4
  have gs := (sK h3 kk3).trans ds
  simp only [d2, ↓bindV_some, ↓cast_slice]
  rw [e2]
  simp only [↓bind3_some, ↓need_some, g0, ↓bindV_some, ↓cast_bool, f22_eq, ↓bind2_some]
  rw [bindV_add (by simp only [List.length_cons, List.length_nil]; omega)]
  simp only [g1, ↓bindV_some, ↓cast_str]
  rw [bindV_add (by simp only [List.length_append, List.length_cons, List.length_nil]; omega)]
  simp only [sameO_some, cond_true, guardB_true, zero_lt, hv]
  -- what stands behind the parameters
  have tail : ∀ W : Bs, W.length ≤ 500000000 → ∃ h', (bindV (.val (.one (.int .i64))) (h3.cell (h.next, 0 + 4 + 0)) fun (x66 : Int) =>
   (bif !eqInt x66 0 then
    (bindV (.val (.one .str)) (binStr .add W [32, 45, 62, 32]) fun (x68 : List UInt8) =>
    (bindV (.val (.agg [(.int .i64), .str, .slice, .slice])) (h3.cells (h.next, 0 + 4) 4) fun (x70 : (Int × List UInt8 × SL × SL × Unit)) =>
    (bind2 (f11 N N (x70.1, x70.2.1, x70.2.2.1, x70.2.2.2.1, ()) h3) fun (x71 : List UInt8) h72 =>
    (bindV (.val (.one .str)) (binStr .add x68 x71) fun (x73 : List UInt8) =>
    some (x73, h72)))))
   else
    some (W, h3))) = some (res k W g, h') ∧ Keep h.next h h' := fun W hW => by
    simp only [g4, ↓bindV_some, ↓cast_int]
    by_cases q : k = 0
    · have : eqInt k 0 = true := by rw [eqInt_dec]; simp [q]
      simp only [this, Bool.not_true, cond_false]
      exact ⟨h3, by simp [res, q], fin _ kk3⟩
    · have : eqInt k 0 = false := by rw [eqInt_dec]; simp [q]
      simp only [this, Bool.not_false, cond_true]
      rw [bindV_add (by simp only [List.length_cons, List.length_nil]; omega)]
      simp only [gs, cellsT, ↓bindV_some, ↓cast_agg, ↓casts_str, ↓casts_int, ↓casts_slice, ↓casts_nil]
      rw [e4]
      simp only [↓bind2_some]
      rw [bindV_add (by simp only [List.length_append, List.length_cons, List.length_nil]; omega)]
      exact ⟨h4, by simp [res, q], fin _ kk4⟩
  cases hll : ll with
  | nil =>
    have e0 : decide (0 < ll.length) = false := by rw [hll]; rfl
    rw [← hll, e0]
    simp only [cond_false]
    rw [bindV_add (by simp only [List.length_append, List.length_cons, List.length_nil]; omega)]
    simp only [↓need_some, g3, ↓bindV_some, ↓cast_slice]
    rw [e3]
    simp only [↓bind2_some]
    rw [bindV_add (by simp only [List.length_append, List.length_cons, List.length_nil]; omega), bindV_add (by simp only [List.length_append, List.length_cons, List.length_nil]; omega)]
    obtain ⟨h', e, kf⟩ := tail (pubs b ++ [102, 110, 32] ++ nm ++ [40] ++ jn pl pl.length ++ [41]) (by simp only [List.length_append, List.length_cons, List.length_nil]; omega)
    refine ⟨h', ?_, kf⟩
    have ht : txtH b nm ll pl k g = res k (pubs b ++ [102, 110, 32] ++ nm ++ [40] ++ jn pl pl.length ++ [41]) g := by rw [hll]; simp [txtH, lvs]
    rw [ht, ← e]
  | cons f r =>
    have e0 : decide (0 < ll.length) = true := by rw [hll]; simp
    rw [← hll, e0]
    simp only [cond_true]
    have hw5 := wts_itl ll ll.length
    rw [List.take_of_length_le (by rw [List.length_map]; exact Nat.le_refl _)] at hw5
    have hlw := length_le_wts (ll.map itl)
    rw [jl_full] at hjl
    rw [bindV_add (by simp only [List.length_append, List.length_cons, List.length_nil]; omega)]
    unfold f30
    rw [join_eq hs2 _ (by omega) (by omega)]
    simp only [↓bind2_some]
    rw [bindV_add (by simp only [List.length_append, List.length_cons, List.length_nil]; omega), bindV_add (by simp only [List.length_append, List.length_cons, List.length_nil]; omega), bindV_add (by simp only [List.length_append, List.length_cons, List.length_nil]; omega)]
    simp only [↓need_some, g3, ↓bindV_some, ↓cast_slice]
    rw [e3]
    simp only [↓bind2_some]
    rw [bindV_add (by simp only [List.length_append, List.length_cons, List.length_nil]; omega), bindV_add (by simp only [List.length_append, List.length_cons, List.length_nil]; omega)]
    obtain ⟨h', e, kf⟩ := tail (pubs b ++ [102, 110, 32] ++ nm ++ [60] ++ Np.joinL (ll.map itl) [44, 32] ++ [62] ++ [40] ++ jn pl pl.length ++ [41]) (by simp only [List.length_append, List.length_cons, List.length_nil]; omega)
    refine ⟨h', ?_, kf⟩
    have ht : txtH b nm ll pl k g = res k (pubs b ++ [102, 110, 32] ++ nm ++ [60] ++ Np.joinL (ll.map itl) [44, 32] ++ [62] ++ [40] ++ jn pl pl.length ++ [41]) g := by
      have hlv : lvs ll = [60] ++ Np.joinL (ll.map itl) [44, 32] ++ [62] := by rw [← jl_full, hll]; rfl
      unfold txtH
      rw [hlv]; simp only [List.append_assoc]
    rw [ht, ← e]
end Go.Proofs.YtghlcagikpdfiaaGreatDoor.Pq

set_option linter.unusedVariables false
set_option linter.unusedSimpArgs false
open Go Go.Proofs.YtghlcagikpdfiaaGreatDoor.Ai Go.Proofs
namespace Go.Proofs.YtghlcagikpdfiaaGreatDoor.Pq
set_option maxHeartbeats 2000000
theorem f14_eq {N : Nat} (hN : 2000001 ≤ N) {h : Heap} {a : HV} {ll : List LD} {pl : List FD} {g : GT} (x : HdIn h a ll pl g) (hnm : a.2.1.length ≤ 1100000) (hwl : wtL ll ≤ 1100000) (hwp : wtF pl ≤ 1100000) (hwg : wt g ≤ 1100000) (h70 : ll.length ≤ 70) (p70 : pl.length ≤ 70) :
    ∃ h', f14 N a h = some (txtH a.1 a.2.1 ll pl a.2.2.2.2.1 g, h') ∧ Keep h.next h h' := by
  obtain ⟨b, nm, ⟨a1, l1, c1, z1⟩, ⟨a2, l2, c2, z2⟩, k, tn, ⟨a3, l3, c3, z3⟩, ⟨a4, l4, c4, z4⟩, ⟨a5, l5, c5, z5⟩, at', ⟨⟩⟩ := a
  unfold f14
  dsimp only at hnm ⊢
  have k1 : Keep h.next h (h.push (.row (cellsH (b, nm, ⟨a1, l1, c1, z1⟩, ⟨a2, l2, c2, z2⟩, k, tn, ⟨a3, l3, c3, z3⟩, ⟨a4, l4, c4, z4⟩, ⟨a5, l5, c5, z5⟩, at', ())) .own)) := (Keep.refl _ _).push (Nat.le_refl _) _
  have d := fun j => push_cells (h := h) (cs := cellsH (b, nm, ⟨a1, l1, c1, z1⟩, ⟨a2, l2, c2, z2⟩, k, tn, ⟨a3, l3, c3, z3⟩, ⟨a4, l4, c4, z4⟩, ⟨a5, l5, c5, z5⟩, at', ())) j
  have ds : (h.push (.row (cellsH (b, nm, ⟨a1, l1, c1, z1⟩, ⟨a2, l2, c2, z2⟩, k, tn, ⟨a3, l3, c3, z3⟩, ⟨a4, l4, c4, z4⟩, ⟨a5, l5, c5, z5⟩, at', ())) .own)).cells (h.next, 0 + 4) 4 = some (.agg (cellsT (k, tn, ⟨a3, l3, c3, z3⟩, ⟨a4, l4, c4, z4⟩, ()))) := by
    have := (Heap.is_push h (cellsH (b, nm, ⟨a1, l1, c1, z1⟩, ⟨a2, l2, c2, z2⟩, k, tn, ⟨a3, l3, c3, z3⟩, ⟨a4, l4, c4, z4⟩, ⟨a5, l5, c5, z5⟩, at', ()))).cells 4 4
    exact this
  have n1 : (h.push (.row (cellsH (b, nm, ⟨a1, l1, c1, z1⟩, ⟨a2, l2, c2, z2⟩, k, tn, ⟨a3, l3, c3, z3⟩, ⟨a4, l4, c4, z4⟩, ⟨a5, l5, c5, z5⟩, at', ())) .own)).next = h.next + 1 := rfl
  have x1 := x.keep k1
  have d0 := d 0
  have d1 := d 1
  have d2 := d 2
  have d3 := d 3
  have d4 := d 4
  clear d x
  simp only [cellsH] at *
  generalize h.push (.row [.bool b, .str nm, .slice a1 l1 c1 z1, .slice a2 l2 c2 z2, .int .i64 k, .str tn, .slice a3 l3 c3 z3, .slice a4 l4 c4 z4, .slice a5 l5 c5 z5, .int .i64 at'] .own) = h1 at *
  simp only [List.getElem?_cons_zero, List.getElem?_cons_succ] at d0 d1 d2 d3 d4
  have cK : ∀ (j : Nat) (hx : Heap), Keep h1.next h1 hx → hx.cell (h.next, j) = h1.cell (h.next, j) := fun j hx hk => by
    rw [Heap.cell_g, Heap.cell_g, hk.g h.next (by omega)]
  have sK : ∀ (hx : Heap), Keep h1.next h1 hx → hx.cells (h.next, 0 + 4) 4 = h1.cells (h.next, 0 + 4) 4 := fun hx hk => by
    rw [Heap.cells_g, Heap.cells_g, hk.g h.next (by omega)]
  have e2 := refl_loop (N := N) hN x1.l hwl d2 N 0 (Nat.zero_le _) (by omega)
  rw [show ((0 : Nat) : Int) = 0 from rfl, show jl ll 0 = [] by simp [jl, Np.joinL]] at e2
  have hjl := jl_le ll ll.length
  have hjn := jn_le pl pl.length
  have htx := txt_le g
  have hp := pubs_le b
  obtain ⟨h3, e3, k3⟩ := f32_eq hN x1.p hwp p70
  obtain ⟨h4, e4, k4⟩ := f12_eq hN g N (k, tn, ⟨a3, l3, c3, z3⟩, ⟨a4, l4, c4, z4⟩, ()) h3 (by have := dep_le g; omega) (by omega) (x1.t.keep k3)
  have kk4 : Keep h1.next h1 h4 := k3.trans (k4.mono k3.next)
  have fin : ∀ hx, Keep h1.next h1 hx → Keep h.next h hx := fun hx hk => k1.trans (hk.mono (by omega))
  simp only at e2 e3 e4
  have g1 := (cK (0 + 1) h3 k3).trans d1
  have g4 := (cK (0 + 4 + 0) h3 k3).trans d4
  have gs := (sK h3 k3).trans ds
  rw [e2]
  have hlv : (lvs ll).length ≤ 15 * wtL ll + 2 := by
    cases hll : ll with
    | nil => simp [lvs]
    | cons f r => rw [hll] at hjl; simp only [lvs, List.length_append, List.length_cons, List.length_nil] at hjl ⊢; omega
  have r1 : ∀ {β : Type} (K : (Option (Nat × Nat) × List UInt8 × Unit) → Heap → Option β), (bind2 (α := (Option (Nat × Nat) × List UInt8 × Unit)) (
     (bif !eqBytes (jl ll ll.length) [] then
      (bindV (.val (.one .str)) (binStr .add [60] (jl ll ll.length)) fun (x46 : List UInt8) =>
      (bindV (.val (.one .str)) (binStr .add x46 [62]) fun (x47 : List UInt8) =>
      some ((some (h.next, 0), x47, ()), h1)))
     else
      some ((some (h.next, 0), jl ll ll.length, ()), h1))) K) = K (some (h.next, 0), lvs ll, ()) h1 := fun K => by
    cases hll : ll with
    | nil => rfl
    | cons f r =>
      rw [hll] at hjl hwl
      rw [jl_ne]
      simp only [Bool.not_false, cond_true]
      rw [bindV_add (by simp only [List.length_cons, List.length_nil] at hjl ⊢; omega), bindV_add (by simp only [List.length_append, List.length_cons, List.length_nil] at hjl ⊢; omega)]
      rfl
  simp only [↓bind3_some]
  rw [r1]
  simp only [↓need_some, d0, ↓bindV_some, ↓cast_bool, f31_eq, ↓bind2_some]
  rw [bindV_add (by simp only [List.length_cons, List.length_nil]; omega)]
  simp only [d1, ↓bindV_some, ↓cast_str]
  rw [bindV_add (by simp only [List.length_append, List.length_cons, List.length_nil]; omega), bindV_add (by simp only [List.length_append, List.length_cons, List.length_nil]; omega), bindV_add (by simp only [List.length_append, List.length_cons, List.length_nil]; omega)]
  simp only [↓need_some, d3, ↓bindV_some, ↓cast_slice]
  rw [e3]
  simp only [↓bind2_some]
  rw [bindV_add (by simp only [List.length_append, List.length_cons, List.length_nil]; omega), bindV_add (by simp only [List.length_append, List.length_cons, List.length_nil]; omega)]
  simp only [g1, d0, d1, d3, sameO_some, cond_true, guardB_true, ↓need_some, g4, ↓bindV_some, ↓cast_int]
  by_cases q : k = 0
  · have : eqInt k 0 = true := by rw [eqInt_dec]; simp [q]
    simp only [this, Bool.not_true, cond_false, ↓bind2_some]
    exact ⟨h3, by simp [txtH, res, q], fin _ k3⟩
  · have : eqInt k 0 = false := by rw [eqInt_dec]; simp [q]
    simp only [this, Bool.not_false, cond_true]
    rw [bindV_add (by simp only [List.length_append, List.length_cons, List.length_nil]; omega)]
    simp only [gs, cellsT, ↓bindV_some, ↓cast_agg, ↓casts_str, ↓casts_int, ↓casts_slice, ↓casts_nil]
    rw [e4]
    simp only [↓bind2_some]
    rw [bindV_add (by simp only [List.length_append, List.length_cons, List.length_nil]; omega)]
    simp only [↓bind2_some]
    exact ⟨h4, by simp [txtH, res, q], fin _ kk4⟩
end Go.Proofs.YtghlcagikpdfiaaGreatDoor.Pq

set_option linter.unusedVariables false
set_option linter.unusedSimpArgs false
open Go Go.Proofs.YtghlcagikpdfiaaGreatDoor.Ai Go.Proofs
namespace Go.Proofs.YtghlcagikpdfiaaGreatDoor.Pq
set_option maxHeartbeats 2000000
theorem cells_keep {h h' : Heap} (k : Keep h.next h h') {A i n : Nat} (hA : A < h.next) : h'.cells (A, i) n = h.cells (A, i) n := by
  rw [Heap.cells_g, Heap.cells_g, k.g A hA]
theorem cell_keep {h h' : Heap} (k : Keep h.next h h') {A i : Nat} (hA : A < h.next) : h'.cell (A, i) = h.cell (A, i) := by
  rw [Heap.cell_g, Heap.cell_g, k.g A hA]
theorem told_eq (N : Nat) (h : Heap) : f7 N h = some (true, h) := rfl
theorem heads_true {N : Nat} (hN : 2000001 ≤ N) {h : Heap} {t : TV} {f : HV} {g0 g : GT} {ll : List LD} {pl : List FD} (xt : TyIn h g0 t) (x : HdIn h f ll pl g) (hw0 : wt g0 ≤ 1100000)
    (hnm : f.2.1.length ≤ 1100000) (hwl : wtL ll ≤ 1100000) (hwp : wtF pl ≤ 1100000) (hwg : wt g ≤ 1100000) : ∃ h', f4 N t f h = some (true, h') := by
  obtain ⟨tk, tn, ⟨b1, m1, e1, y1⟩, ⟨b2, m2, e2, y2⟩, ⟨⟩⟩ := t
  obtain ⟨b, nm, ⟨a1, l1, c1, z1⟩, ⟨a2, l2, c2, z2⟩, k, rn, ⟨a3, l3, c3, z3⟩, ⟨a4, l4, c4, z4⟩, ⟨a5, l5, c5, z5⟩, at', ⟨⟩⟩ := f
  unfold f4
  dsimp only at hnm ⊢
  have k1 : Keep h.next h (h.push (.row [.int .i64 tk, .str tn, .slice b1 m1 e1 y1, .slice b2 m2 e2 y2] .own)) := (Keep.refl _ _).push (Nat.le_refl _) _
  have n1 : (h.push (.row [.int .i64 tk, .str tn, .slice b1 m1 e1 y1, .slice b2 m2 e2 y2] .own)).next = h.next + 1 := rfl
  have q1 := (Heap.is_push h [.int .i64 tk, .str tn, .slice b1 m1 e1 y1, .slice b2 m2 e2 y2]).cells 0 4
  change _ = some (AV.agg [.int .i64 tk, .str tn, .slice b1 m1 e1 y1, .slice b2 m2 e2 y2]) at q1
  have xt1 := xt.keep k1
  have x1 := x.keep k1
  generalize h.push (.row [.int .i64 tk, .str tn, .slice b1 m1 e1 y1, .slice b2 m2 e2 y2] .own) = h1 at *
  have k2 : Keep h1.next h1 (h1.push (.row [.bool b, .str nm, .slice a1 l1 c1 z1, .slice a2 l2 c2 z2, .int .i64 k, .str rn, .slice a3 l3 c3 z3, .slice a4 l4 c4 z4, .slice a5 l5 c5 z5, .int .i64 at'] .own)) := (Keep.refl _ _).push (Nat.le_refl _) _
  have n2 : (h1.push (.row [.bool b, .str nm, .slice a1 l1 c1 z1, .slice a2 l2 c2 z2, .int .i64 k, .str rn, .slice a3 l3 c3 z3, .slice a4 l4 c4 z4, .slice a5 l5 c5 z5, .int .i64 at'] .own)).next = h1.next + 1 := rfl
  have q2 := (Heap.is_push h1 [.bool b, .str nm, .slice a1 l1 c1 z1, .slice a2 l2 c2 z2, .int .i64 k, .str rn, .slice a3 l3 c3 z3, .slice a4 l4 c4 z4, .slice a5 l5 c5 z5, .int .i64 at']).cells 0 10
  change _ = some (AV.agg [.bool b, .str nm, .slice a1 l1 c1 z1, .slice a2 l2 c2 z2, .int .i64 k, .str rn, .slice a3 l3 c3 z3, .slice a4 l4 c4 z4, .slice a5 l5 c5 z5, .int .i64 at']) at q2
  have d := fun j => push_cells (h := h1) (cs := [.bool b, .str nm, .slice a1 l1 c1 z1, .slice a2 l2 c2 z2, .int .i64 k, .str rn, .slice a3 l3 c3 z3, .slice a4 l4 c4 z4, .slice a5 l5 c5 z5, .int .i64 at']) j
  have d2 := d 2
  have d3 := d 3
  clear d
  have xt2 := xt1.keep k2
  have x2 := x1.keep k2
  rw [← cells_keep k2 (show h.next < h1.next by omega)] at q1
  generalize h1.push (.row [.bool b, .str nm, .slice a1 l1 c1 z1, .slice a2 l2 c2 z2, .int .i64 k, .str rn, .slice a3 l3 c3 z3, .slice a4 l4 c4 z4, .slice a5 l5 c5 z5, .int .i64 at'] .own) = h2 at *
  have l70 : ∀ n : Nat, ltInt 70 (Int.ofNat n) = decide (70 < n) := fun n => ofInt_lt 70 n
  have hll : l1 = ll.length := x.l.len
  have hpl : l2 = pl.length := x.p.len
  simp only [d2, d3, List.getElem?_cons_zero, List.getElem?_cons_succ, ↓bindV_some, ↓cast_slice, l70, told_eq, ↓bind2_some]
  by_cases c70 : 70 < l1
  · simp only [c70, decide_true, cond_true]; exact ⟨_, rfl⟩
  by_cases p70 : 70 < l2
  · simp only [c70, p70, decide_true, decide_false, cond_true, cond_false]; exact ⟨_, rfl⟩
  obtain ⟨h3, e3, k3⟩ := f11_eq hN g0 N (tk, tn, ⟨b1, m1, e1, y1⟩, ⟨b2, m2, e2, y2⟩, ()) h2 (by have := dep_le g0; omega) (by omega) xt2
  obtain ⟨h4, e4, k4⟩ := f12_eq hN g0 N (tk, tn, ⟨b1, m1, e1, y1⟩, ⟨b2, m2, e2, y2⟩, ()) h3 (by have := dep_le g0; omega) (by omega) (xt2.keep k3)
  obtain ⟨h5, e5, k5⟩ := f13_eq hN ((x2.keep k3).keep k4) hnm hwl hwp hwg (by omega) (by omega)
  obtain ⟨h6, e6, k6⟩ := f14_eq hN (((x2.keep k3).keep k4).keep k5) hnm hwl hwp hwg (by omega) (by omega)
  have r3 := (cells_keep (i := 0) (n := 4) k3 (show h.next < h2.next by omega)).trans q1
  have s3 := (cells_keep (i := 0) (n := 10) k3 (show h1.next < h2.next by omega)).trans q2
  have s4 := (cells_keep (i := 0) (n := 10) k4 (show h1.next < h3.next by have := k3.next; omega)).trans s3
  have s5 := (cells_keep (i := 0) (n := 10) k5 (show h1.next < h4.next by have := k3.next; have := k4.next; omega)).trans s4
  simp only at e3 e4 e5 e6
  simp only [c70, p70, decide_false, cond_true, cond_false]
  simp only [q1, r3, s4, s5, ↓bindV_some, ↓cast_agg, ↓casts_int, ↓casts_str, ↓casts_slice, ↓casts_bool, ↓casts_nil, e3, e4, e5, e6, ↓bind2_some, eqBytes_refl, ↓cond_true, sameO_some, guardB_true]
  exact ⟨_, rfl⟩
end Go.Proofs.YtghlcagikpdfiaaGreatDoor.Pq

set_option linter.unusedVariables false
set_option linter.unusedSimpArgs false
set_option maxRecDepth 100000
open Go Go.Proofs.YtghlcagikpdfiaaGreatDoor.Ai Go.Proofs
open Go.ChangeShapes Go.WideShapes
namespace Go.Proofs.YtghlcagikpdfiaaGreatDoor.Pq
open Go.Proofs.YtghlcagikpdfiaaGreatDoor
theorem undP35 : Tryz.prog.underlying 35 = some (.slice 9) := by kernel_rfl
theorem undP36 : Tryz.prog.underlying 36 = some (.slice 38) := by kernel_rfl
theorem undP39 : Tryz.prog.underlying 39 = some (.slice 50) := by kernel_rfl
theorem undP40 : Tryz.prog.underlying 40 = some (.slice 91) := by kernel_rfl
theorem undP41 : Tryz.prog.underlying 41 = some (.slice 85) := by kernel_rfl
theorem undP9 : Tryz.prog.underlying 9 = some .string := by kernel_rfl
theorem undP4 : Tryz.prog.underlying 4 = some .bool := by kernel_rfl
theorem undP3 : Tryz.prog.underlying 3 = some (.int .i64) := by kernel_rfl
theorem cells9 : Tryz.prog.cellsOf 9 = 1 := by kernel_rfl
theorem cells38 : Tryz.prog.cellsOf 38 = 4 := by kernel_rfl
theorem cells50 : Tryz.prog.cellsOf 50 = 2 := by kernel_rfl
theorem cells91 : Tryz.prog.cellsOf 91 = 6 := by kernel_rfl
theorem st38 : isStruct Tryz.prog 38 [3, 9, 35, 36] = true := by kernel_rfl
theorem st43 : isStruct Tryz.prog 43 [4, 9, 39, 40, 38, 41, 3] = true := by kernel_rfl
theorem st50 : isStruct Tryz.prog 50 [9, 35] = true := by kernel_rfl
theorem st91 : isStruct Tryz.prog 91 [4, 9, 38] = true := by kernel_rfl
section
variable {H : Type} {h : Heap}
theorem part_le {d : DataW H} : ∀ {l : List (DataW H)}, d ∈ l → Rows.uptoBulk d ≤ Rows.uptoBulkAll l
  | x :: r, h => by
    simp only [Rows.uptoBulkAll]
    rcases List.mem_cons.1 h with rfl | e
    · omega
    · have := part_le e; omega
/-- a slice of the arguments, by its elements -/
theorem slice_of {t e n : Nat} {A : Nat} {ass : List (List AV)} {m : Nat} {css : List (List AV)} (h1 : h.t.get A = some (.row ass.flatten .ro)) (h2 : A < h.next) (hl : css.length = m) (hass : ass = css) (hn : ∀ c ∈ css, c.length = n) :
    Sees h ⟨some (A, 0), m, m, n⟩ css.flatten := by
  subst hass
  refine ⟨?_, fun ha => by simp at ha, fun A' off ha => ?_⟩
  · have : ∀ (l : List (List AV)), (∀ a ∈ l, a.length = n) → l.flatten.length = l.length * n := by
      intro l
      induction l with
      | nil => intro _; simp
      | cons a r ih => intro hl; rw [List.flatten_cons, List.length_append, ih (fun x hx => hl x (by simp [hx])), hl a (by simp), List.length_cons, Nat.succ_mul, Nat.add_comm]
    rw [this ass hn, hl]
  · simp only [Option.some.injEq, Prod.mk.injEq] at ha
    obtain ⟨rfl, rfl⟩ := ha
    refine ⟨h2, ass.flatten, ?_, by rw [List.drop_zero, List.take_length]⟩
    show rowB (h.t.get A) = _
    rw [h1]; rfl
theorem list_ext {α : Type} (f : α → List AV) {ass : List (List AV)} {xs : List α} (hl : xs.length = ass.length) (h : ∀ (i : Nat) x a, xs[i]? = some x → ass[i]? = some a → a = f x) : ass = xs.map f := by
  apply List.ext_getElem?
  intro i
  rw [List.getElem?_map]
  by_cases q : i < ass.length
  · have q' : i < xs.length := by omega
    rw [List.getElem?_eq_getElem q, List.getElem?_eq_getElem q', Option.map_some]
    exact congrArg some (h i _ _ (List.getElem?_eq_getElem q') (List.getElem?_eq_getElem q))
  · rw [List.getElem?_eq_none (by omega), List.getElem?_eq_none (by omega)]; rfl
theorem strs_inv {cs : List AV} {d : DataW H} (hx : Rd Tryz.prog h 35 cs d) : ∃ (s : SL) (l : List Bs), cs = [.slice s.a s.len s.cap s.sz] ∧ Strs h s l ∧ wts l + 1 ≤ Rows.uptoBulk d := by
  rcases Rd.slice_inv undP35 hx with ⟨rfl, rfl⟩ | ⟨A, ass, ds, sp, rfl, rfl, h1, h2, h3, h4, h5⟩
  · exact ⟨⟨none, 0, 0, 0⟩, [], rfl, ⟨One.nil h, Nat.le_refl _⟩, Nat.le_refl _⟩
  · have : ∀ (ass : List (List AV)) (ds : List (DataW H)), ass.length = ds.length → (∀ (i : Nat) a d, ass[i]? = some a → ds[i]? = some d → Rd Tryz.prog h 9 a d) →
        ∃ xs : List Bs, ass.flatten = xs.map AV.str ∧ xs.length = ass.length ∧ wts xs ≤ Rows.uptoBulkAll ds := by
      intro ass
      induction ass with
      | nil => intro ds _ _; exact ⟨[], rfl, rfl, Nat.zero_le _⟩
      | cons a r ih =>
        intro ds hl hx
        match ds, hl with
        | d :: q, hl =>
        obtain ⟨z, rfl, rfl, _⟩ := Rd.str_inv undP9 (hx 0 a d rfl rfl)
        obtain ⟨xs, h1, h2, h3⟩ := ih q (by simpa using hl) fun i a d h1 h2 => hx (i + 1) a d (by simpa using h1) (by simpa using h2)
        refine ⟨z :: xs, by simp [h1], by simp [h2], ?_⟩
        simp only [wts, Rows.uptoBulkAll, Rows.uptoBulk]
        omega
    obtain ⟨xs, h6, h7, h8⟩ := this ass ds h4 h5
    rw [cells9]
    have hlen : xs.length = ds.length := by omega
    refine ⟨⟨some (A, 0), ds.length, ds.length, 1⟩, xs, rfl, ⟨⟨by rw [List.length_map]; exact hlen.symm, .inl rfl, by rw [List.length_map, hlen]; exact (Nat.mul_one _).symm, fun ha => by simp at ha, fun A' off ha => ?_⟩, Nat.le_refl _⟩, ?_⟩
    · simp only [Option.some.injEq, Prod.mk.injEq] at ha
      obtain ⟨rfl, rfl⟩ := ha
      refine ⟨h2, ass.flatten, ?_, by rw [h6, List.drop_zero, List.take_length]⟩
      show rowB (h.t.get A) = _
      rw [h1]; rfl
    · simp only [Rows.uptoBulk]; omega
theorem cellsT_len (a : TV) : (cellsT a).length = 4 := rfl
theorem type_inv : ∀ (n : Nat) {cs : List AV} {d : DataW H}, Rows.uptoBulk d ≤ n → Rd Tryz.prog h 38 cs d → ∃ (a : TV) (g : GT), cs = cellsT a ∧ TyIn h g a ∧ wt g ≤ Rows.uptoBulk d := by
  intro n
  induction n with
  | zero =>
    intro cs d hn hx
    obtain ⟨ass, ds, rfl, rfl, _⟩ := Rd.fields st38 hx
    simp only [Rows.uptoBulk] at hn; omega
  | succ n ih =>
    intro cs d hn hx
    obtain ⟨ass, ds, rfl, rfl, hf⟩ := Rd.fields st38 hx
    obtain ⟨c1, _, d1, _, rfl, rfl, x1, hf⟩ := hf.cons_inv
    obtain ⟨c2, _, d2, _, rfl, rfl, x2, hf⟩ := hf.cons_inv
    obtain ⟨c3, _, d3, _, rfl, rfl, x3, hf⟩ := hf.cons_inv
    obtain ⟨c4, _, d4, _, rfl, rfl, x4, hf⟩ := hf.cons_inv
    obtain ⟨rfl, rfl⟩ := hf.nil_inv
    obtain ⟨k, rfl, rfl, _⟩ := Rd.int_inv undP3 x1
    obtain ⟨nm, rfl, rfl, _⟩ := Rd.str_inv undP9 x2
    obtain ⟨s, l, rfl, hs, hw⟩ := strs_inv x3
    simp only [Rows.uptoBulk, Rows.uptoBulkAll] at hn ⊢
    rcases Rd.slice_inv undP36 x4 with ⟨rfl, rfl⟩ | ⟨A, ass, ds, sp, rfl, rfl, h1, h2, h3, h4, h5⟩
    · refine ⟨(k, nm, s, ⟨none, 0, 0, 0⟩, ()), .leaf k nm l, rfl, ⟨rfl, rfl, hs, rfl⟩, ?_⟩
      simp only [wt, Rows.uptoBulk]; omega
    · rw [cells38]
      match ass, ds, h4, h5 with
      | [], [], _, _ =>
        refine ⟨(k, nm, s, ⟨some (A, 0), 0, 0, 4⟩, ()), .leaf k nm l, rfl, ⟨rfl, rfl, hs, rfl⟩, ?_⟩
        simp only [wt, Rows.uptoBulk]; omega
      | a :: r, d :: q, h4, h5 =>
        simp only [Rows.uptoBulk, Rows.uptoBulkAll] at hn ⊢
        have hl4 : ∀ c ∈ a :: r, c.length = 4 := by
          intro c hc
          obtain ⟨i, hi⟩ := List.mem_iff_getElem?.1 hc
          have hlt : i < (d :: q).length := by rw [← h4]; exact (List.getElem?_eq_some_iff.1 hi).1
          have hb := part_le (List.getElem_mem hlt)
          simp only [Rows.uptoBulkAll] at hb
          obtain ⟨a', g', e, _⟩ := ih (by omega) (h5 i c _ hi (List.getElem?_eq_getElem hlt))
          rw [e]; rfl
        obtain ⟨e, g, e1, e2, e3⟩ := ih (d := d) (by omega) (h5 0 a d rfl rfl)
        subst e1
        have hse := slice_of (t := 0) (e := 0) (n := 4) (m := (d :: q).length) h1 h2 h4 rfl hl4
        refine ⟨(k, nm, s, ⟨some (A, 0), (d :: q).length, (d :: q).length, 4⟩, ()), .node k nm l g, rfl, ⟨rfl, rfl, hs, Nat.succ_pos _, e, r.flatten, rfl, hse, e2⟩, ?_⟩
        simp only [wt]; omega
/-- lifetimes of a head -/
theorem lives_inv {cs : List AV} {d : DataW H} (hx : Rd Tryz.prog h 39 cs d) : ∃ (s : SL) (l : List LD), cs = [.slice s.a s.len s.cap s.sz] ∧ LfIn h s l ∧ wtL l + 1 ≤ Rows.uptoBulk d := by
  rcases Rd.slice_inv undP39 hx with ⟨rfl, rfl⟩ | ⟨A, ass, ds, sp, rfl, rfl, h1, h2, h3, h4, h5⟩
  · exact ⟨⟨none, 0, 0, 0⟩, [], rfl, ⟨rfl, .inr rfl, Sees.nil h, fun f hf => by simp at hf⟩, Nat.le_refl _⟩
  · have : ∀ (ass : List (List AV)) (ds : List (DataW H)), ass.length = ds.length → (∀ (i : Nat) a d, ass[i]? = some a → ds[i]? = some d → Rd Tryz.prog h 50 a d) →
        ∃ xs : List LD, ass = xs.map cellsL ∧ xs.length = ass.length ∧ (∀ f ∈ xs, Strs h f.ov f.ol) ∧ wtL xs ≤ Rows.uptoBulkAll ds := by
      intro ass
      induction ass with
      | nil => intro ds _ _; exact ⟨[], rfl, rfl, fun f hf => by simp at hf, Nat.zero_le _⟩
      | cons a r ih =>
        intro ds hl hx
        match ds, hl with
        | d :: q, hl =>
        obtain ⟨as1, ds1, rfl, rfl, hf⟩ := Rd.fields st50 (hx 0 a d rfl rfl)
        obtain ⟨c1, _, d1, _, rfl, rfl, x1, hf⟩ := hf.cons_inv
        obtain ⟨c2, _, d2, _, rfl, rfl, x2, hf⟩ := hf.cons_inv
        obtain ⟨rfl, rfl⟩ := hf.nil_inv
        obtain ⟨nm, rfl, rfl, _⟩ := Rd.str_inv undP9 x1
        obtain ⟨s, l, rfl, hs, hw⟩ := strs_inv x2
        obtain ⟨xs, g1, g2, g3, g4⟩ := ih q (by simpa using hl) fun i a d h1 h2 => hx (i + 1) a d (by simpa using h1) (by simpa using h2)
        refine ⟨⟨nm, s, l⟩ :: xs, by rw [g1]; rfl, by simp [g2], ?_, ?_⟩
        · intro f hf
          rcases List.mem_cons.1 hf with rfl | hf
          · exact hs
          · exact g3 f hf
        · simp only [wtL, Rows.uptoBulkAll, Rows.uptoBulk]
          omega
    obtain ⟨xs, h6, h7, h8, h9⟩ := this ass ds h4 h5
    rw [cells50]
    have hlen : xs.length = ds.length := by omega
    refine ⟨⟨some (A, 0), ds.length, ds.length, 2⟩, xs, rfl, ⟨hlen.symm, .inl rfl, slice_of (t := 0) (e := 0) h1 h2 (by rw [List.length_map]; exact hlen) h6 ?_, h8⟩, ?_⟩
    · intro c hc
      obtain ⟨x, _, rfl⟩ := List.mem_map.1 hc; rfl
    · simp only [Rows.uptoBulk]; omega
/-- parameters -/
theorem params_inv {cs : List AV} {d : DataW H} (hx : Rd Tryz.prog h 40 cs d) : ∃ (s : SL) (l : List FD), cs = [.slice s.a s.len s.cap s.sz] ∧ FdIn h s l ∧ wtF l + 1 ≤ Rows.uptoBulk d := by
  rcases Rd.slice_inv undP40 hx with ⟨rfl, rfl⟩ | ⟨A, ass, ds, sp, rfl, rfl, h1, h2, h3, h4, h5⟩
  · exact ⟨⟨none, 0, 0, 0⟩, [], rfl, ⟨rfl, .inr rfl, Sees.nil h, fun f hf => by simp at hf⟩, Nat.le_refl _⟩
  · have : ∀ (ass : List (List AV)) (ds : List (DataW H)), ass.length = ds.length → (∀ (i : Nat) a d, ass[i]? = some a → ds[i]? = some d → Rd Tryz.prog h 91 a d) →
        ∃ xs : List FD, ass = xs.map cellsF ∧ xs.length = ass.length ∧ (∀ f ∈ xs, TyIn h f.g f.tv) ∧ wtF xs ≤ Rows.uptoBulkAll ds := by
      intro ass
      induction ass with
      | nil => intro ds _ _; exact ⟨[], rfl, rfl, fun f hf => by simp at hf, Nat.zero_le _⟩
      | cons a r ih =>
        intro ds hl hx
        match ds, hl with
        | d :: q, hl =>
        obtain ⟨as1, ds1, rfl, rfl, hf⟩ := Rd.fields st91 (hx 0 a d rfl rfl)
        obtain ⟨c1, _, d1, _, rfl, rfl, x1, hf⟩ := hf.cons_inv
        obtain ⟨c2, _, d2, _, rfl, rfl, x2, hf⟩ := hf.cons_inv
        obtain ⟨c3, _, d3, _, rfl, rfl, x3, hf⟩ := hf.cons_inv
        obtain ⟨rfl, rfl⟩ := hf.nil_inv
        obtain ⟨m, rfl, rfl⟩ := Rd.bool_inv undP4 x1
        obtain ⟨nm, rfl, rfl, _⟩ := Rd.str_inv undP9 x2
        obtain ⟨tv, g, rfl, hg, hw⟩ := type_inv _ (Nat.le_refl _) x3
        obtain ⟨xs, g1, g2, g3, g4⟩ := ih q (by simpa using hl) fun i a d h1 h2 => hx (i + 1) a d (by simpa using h1) (by simpa using h2)
        refine ⟨⟨m, nm, tv, g⟩ :: xs, by rw [g1]; simp [cellsF], by simp [g2], ?_, ?_⟩
        · intro f hf
          rcases List.mem_cons.1 hf with rfl | hf
          · exact hg
          · exact g3 f hf
        · simp only [wtF, Rows.uptoBulkAll, Rows.uptoBulk]
          omega
    obtain ⟨xs, h6, h7, h8, h9⟩ := this ass ds h4 h5
    rw [cells91]
    have hlen : xs.length = ds.length := by omega
    refine ⟨⟨some (A, 0), ds.length, ds.length, 6⟩, xs, rfl, ⟨hlen.symm, .inl rfl, slice_of (t := 0) (e := 0) h1 h2 (by rw [List.length_map]; exact hlen) h6 ?_, h8⟩, ?_⟩
    · intro c hc
      obtain ⟨x, _, rfl⟩ := List.mem_map.1 hc; rfl
    · simp only [Rows.uptoBulk]; omega
theorem head_inv {cs : List AV} {d : DataW H} (hx : Rd Tryz.prog h 43 cs d) : ∃ (a : HV) (ll : List LD) (pl : List FD) (g : GT), cs = cellsH a ∧ HdIn h a ll pl g ∧ a.2.1.length ≤ Rows.uptoBulk d ∧ wtL ll ≤ Rows.uptoBulk d ∧ wtF pl ≤ Rows.uptoBulk d ∧ wt g ≤ Rows.uptoBulk d := by
  obtain ⟨ass, ds, rfl, rfl, hf⟩ := Rd.fields st43 hx
  obtain ⟨c1, _, d1, _, rfl, rfl, x1, hf⟩ := hf.cons_inv
  obtain ⟨c2, _, d2, _, rfl, rfl, x2, hf⟩ := hf.cons_inv
  obtain ⟨c3, _, d3, _, rfl, rfl, x3, hf⟩ := hf.cons_inv
  obtain ⟨c4, _, d4, _, rfl, rfl, x4, hf⟩ := hf.cons_inv
  obtain ⟨c5, _, d5, _, rfl, rfl, x5, hf⟩ := hf.cons_inv
  obtain ⟨c6, _, d6, _, rfl, rfl, x6, hf⟩ := hf.cons_inv
  obtain ⟨c7, _, d7, _, rfl, rfl, x7, hf⟩ := hf.cons_inv
  obtain ⟨rfl, rfl⟩ := hf.nil_inv
  obtain ⟨b, rfl, rfl⟩ := Rd.bool_inv undP4 x1
  obtain ⟨nm, rfl, rfl, _⟩ := Rd.str_inv undP9 x2
  obtain ⟨s3, ll, rfl, hl, w3⟩ := lives_inv x3
  obtain ⟨s4, pl, rfl, hp, w4⟩ := params_inv x4
  obtain ⟨tv, g, rfl, hg, w5⟩ := type_inv _ (Nat.le_refl _) x5
  obtain ⟨at', rfl, rfl, _⟩ := Rd.int_inv undP3 x7
  have e6 : ∃ s : SL, c6 = [.slice s.a s.len s.cap s.sz] := by
    rcases Rd.slice_inv undP41 x6 with ⟨rfl, _⟩ | ⟨A, ass, ds, sp, rfl, _⟩
    · exact ⟨⟨none, 0, 0, 0⟩, rfl⟩
    · exact ⟨⟨some (A, 0), ds.length, ds.length, _⟩, rfl⟩
  obtain ⟨s6, rfl⟩ := e6
  obtain ⟨tk, tn, t3, t4, ⟨⟩⟩ := tv
  simp only [Rows.uptoBulk, Rows.uptoBulkAll]
  exact ⟨(b, nm, s3, s4, tk, tn, t3, t4, s6, at', ()), ll, pl, g, rfl, ⟨hl, hp, hg⟩, by show nm.length ≤ _; omega, by omega, by omega, by omega⟩
end
end Go.Proofs.YtghlcagikpdfiaaGreatDoor.Pq

set_option linter.unusedVariables false
open Go Go.Proofs.YtghlcagikpdfiaaGreatDoor.Ai Go.Proofs
open Go.ChangeShapes Go.WideShapes
namespace Go.Proofs.YtghlcagikpdfiaaGreatDoor.Pq
open Go.Proofs.YtghlcagikpdfiaaGreatDoor
theorem agg38 (cs : List AV) : argOf Tryz.prog 38 cs = .agg cs := by
  have : (match Tryz.prog.underlying 38 with | some (.struct _) => true | _ => false) = true := by kernel_rfl
  split at this
  · rename_i fs hf; exact argOf_struct hf cs
  · cases this
theorem agg43 (cs : List AV) : argOf Tryz.prog 43 cs = .agg cs := by
  have : (match Tryz.prog.underlying 43 with | some (.struct _) => true | _ => false) = true := by kernel_rfl
  split at this
  · rename_i fs hf; exact argOf_struct hf cs
  · cases this
theorem headslaw_true {H : Type} (h : Heap) (vs : List AV) (ds : List (DataW H)) (hb : Rows.uptoBulkAll ds ≤ 1048576) (hr : RdArgs Tryz.prog h [38, 43] vs ds) :
    ∃ xs : vdens [(.agg [(.int .i64), .str, .slice, .slice]), (.agg [.bool, .str, .slice, .slice, (.int .i64), .str, .slice, .slice, .slice, (.int .i64)])], ∃ h', VTy.tos _ xs = vs ∧ (fun (x : vdens [(.agg [(.int .i64), .str, .slice, .slice]), (.agg [.bool, .str, .slice, .slice, (.int .i64), .str, .slice, .slice, .slice, (.int .i64)])]) h => f4 2000001 x.1 x.2.1 h) xs h = some (true, h') := by
  obtain ⟨cs1, d1, vs1, ds1, rfl, rfl, r1, hr⟩ := hr.cons_inv
  obtain ⟨cs2, d2, vs2, ds2, rfl, rfl, r2, hr⟩ := hr.cons_inv
  obtain ⟨rfl, rfl⟩ := hr.nil_inv
  obtain ⟨t, g0, rfl, ht, hw⟩ := type_inv _ (Nat.le_refl _) r1
  obtain ⟨a, ll, pl, g, rfl, ha, w1, w2, w3, w4⟩ := head_inv r2
  simp only [Rows.uptoBulkAll] at hb
  obtain ⟨h', e⟩ := heads_true (N := 2000001) (Nat.le_refl _) ht ha (by omega) (by omega) (by omega) (by omega) (by omega)
  refine ⟨(t, a, ()), h', ?_, e⟩
  rw [agg38, agg43]
  rfl
end Go.Proofs.YtghlcagikpdfiaaGreatDoor.Pq
