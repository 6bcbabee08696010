import Derived.Shelf.Strings.OnBuilder
import Derived.Shelf.LaysM
import Derived.Shelf.Strconv.Itoa3
import Derived.Lib.ItoaLen
import Derived.Test.YtjeaammlambkeaaDoorProg
import Derived.Test.YtjeaammlambkeaaDoorAi3
import Derived.Test.YtjeaammlambkeaaDoorAi4
/- Functions of the program as plain functions, and what they come to; part 1. -/
set_option linter.unusedVariables false
set_option linter.unusedSimpArgs false
namespace Go.Proofs
open Go.Shelf
def Tryd.lays156_ren : Go.Shelf.Ren := ⟨fun | 156 => 27 | 165 => 47 | 166 => 48 | 169 => 49 | 240 => 62 | 241 => 63 | 276 => 71 | 277 => 72 | n => n, fun | 31 => 22 | 9 => 9 | 3 => 3 | 4 => 4 | 0 => 0 | 20 => 20 | 72 => 79 | 76 => 83 | 70 => 76 | 37 => 77 | 75 => 82 | 127 => 96 | 164 => 103 | 5 => 5 | 80 => 85 | n => n, fun | n => n⟩
theorem Tryd.lays156 : Go.Proofs.Lays.n156 Tryd.prog Tryd.lays156_ren := {
  mixed := by kernel_rfl
  f156 := Tryd.func27.trans (congrArg some (by kernel_rfl))
  f165 := Tryd.func47.trans (congrArg some (by kernel_rfl))
  f166 := Tryd.func48.trans (congrArg some (by kernel_rfl))
  f169 := Tryd.func49.trans (congrArg some (by kernel_rfl))
  f240 := Tryd.func62.trans (congrArg some (by kernel_rfl))
  f241 := Tryd.func63.trans (congrArg some (by kernel_rfl))
  f276 := Tryd.func71.trans (congrArg some (by kernel_rfl))
  f277 := Tryd.func72.trans (congrArg some (by kernel_rfl))
  t0 := Tryd.underlying0
  a0 := Tryd.isAgg0
  z0 := Tryd.sizeOf0
  v0 := Tryd.zeroValue0
  t3 := Tryd.underlying3
  a3 := Tryd.isAgg3
  z3 := Tryd.sizeOf3
  v3 := Tryd.zeroValue3
  t4 := Tryd.underlying4
  a4 := Tryd.isAgg4
  z4 := Tryd.sizeOf4
  v4 := Tryd.zeroValue4
  t9 := Tryd.underlying9
  a9 := Tryd.isAgg9
  z9 := Tryd.sizeOf9
  v9 := Tryd.zeroValue9
  t20 := Tryd.underlying20
  a20 := Tryd.isAgg20
  z20 := Tryd.sizeOf20
  v20 := Tryd.zeroValue20
  t31 := Tryd.underlying22
  a31 := Tryd.isAgg22
  z31 := Tryd.sizeOf22
  v31 := Tryd.zeroValue22
  t37 := Tryd.underlying77
  a37 := Tryd.isAgg77
  z37 := Tryd.sizeOf77
  v37 := Tryd.zeroValue77
  t70 := Tryd.underlying76
  a70 := Tryd.isAgg76
  z70 := Tryd.sizeOf76
  v70 := Tryd.zeroValue76
  t72 := Tryd.underlying79
  a72 := Tryd.isAgg79
  z72 := Tryd.sizeOf79
  v72 := Tryd.zeroValue79
  t75 := Tryd.underlying82
  a75 := Tryd.isAgg82
  z75 := Tryd.sizeOf82
  v75 := Tryd.zeroValue82
  t76 := Tryd.underlying83
  a76 := Tryd.isAgg83
  z76 := Tryd.sizeOf83
  v76 := Tryd.zeroValue83
  t127 := Tryd.underlying96
  a127 := Tryd.isAgg96
  z127 := Tryd.sizeOf96
  v127 := Tryd.zeroValue96
  t164 := Tryd.underlying103
  a164 := Tryd.isAgg103
  z164 := Tryd.sizeOf103
  v164 := Tryd.zeroValue103 }
theorem Tryd.Builder_Extra_156 : Builder.Extra Tryd.prog Tryd.lays156_ren := {
  sizeBuilder := by kernel_rfl
  liesBuilder := by kernel_rfl
  t5 := Tryd.underlying5
  a5 := Tryd.isAgg5
  z5 := Tryd.sizeOf5
  v5 := Tryd.zeroValue5
  infoByte := by kernel_rfl
  cellsByte := by kernel_rfl
  sizeByte := by kernel_rfl
  neB5 := by decide }
open Go.RowKit in
/-- No element: the empty string; the world is as it was. (Whatever the slice's address and capacity: a nil slice too.) (LAID: no walk: one application.) -/
theorem Tryd.strings_Join_none (a : Option Addr) (c : Nat) (sep : ByteArray) (w : World) :
    Calls Tryd.prog 27 #[.slice a 0 c, .string sep] w fun e w' => e = .returned (.string ⟨#[]⟩) ∧ w' = w := Any.strings_Join_none Tryd.lays156 Tryd.Builder_Extra_156 a c sep w
open Go.RowKit in
/-- strings.Join: "Join concatenates the elements of its first argument to create a single string. The separator string sep is placed between elements in the resulting string.": HOWEVER MANY ELEMENTS. Below the heap's end the world is as it was. (LAID: no walk: one application.) -/
theorem Tryd.strings_Join (bk o c : Nat) (xs : List ByteArray) (sep : ByteArray) (w : World) (hcells : ∀ (j : Nat) x, xs[j]? = some x → w.cell? ⟨bk, o + j, none⟩ = some (.string x)) (hbk : bk < w.heap.size) (hN : xs.length ≤ 140737488355328) (hcap : xs.length ≤ c) (hlen : (Lib.join (xs.map (·.data.toList)) sep.data.toList).length ≤ 140737488355328) :
    Calls Tryd.prog 27 #[.slice (some ⟨bk, o, none⟩) xs.length c, .string sep] w fun e w' => e = .returned (.string ⟨(Lib.join (xs.map (·.data.toList)) sep.data.toList).toArray⟩) ∧ Below w.heap.size w w' := Any.strings_Join Tryd.lays156 Tryd.Builder_Extra_156 bk o c xs sep w hcells hbk hN hcap hlen
def Tryd.laysM171_ren : Go.Shelf.Ren := ⟨fun | 171 => 28 | 243 => 50 | 246 => 64 | 283 => 73 | 284 => 74 | 285 => 75 | 286 => 76 | 129 => 79 | 317 => 78 | 318 => 80 | 319 => 81 | 320 => 82 | 337 => 83 | 338 => 84 | n => n, fun | 3 => 3 | 9 => 9 | 2 => 2 | 4 => 4 | 171 => 106 | 0 => 0 | 53 => 107 | 37 => 77 | 5 => 5 | 173 => 110 | 212 => 115 | 51 => 116 | 20 => 20 | 213 => 117 | 46 => 118 | 232 => 121 | 233 => 122 | n => n, fun | 17 => 1 | 18 => 2 | 19 => 3 | n => n⟩
theorem Tryd.laysM171 : Go.Proofs.LaysM.n171 Tryd.prog Tryd.laysM171_ren := {
  mixed := by kernel_rfl
  f129 := Tryd.func79.trans (congrArg some (by kernel_rfl))
  f171 := Tryd.func28.trans (congrArg some (by kernel_rfl))
  f243 := Tryd.func50.trans (congrArg some (by kernel_rfl))
  f246 := Tryd.func64.trans (congrArg some (by kernel_rfl))
  f283 := Tryd.func73.trans (congrArg some (by kernel_rfl))
  f284 := Tryd.func74.trans (congrArg some (by kernel_rfl))
  f285 := Tryd.func75.trans (congrArg some (by kernel_rfl))
  f286 := Tryd.func76.trans (congrArg some (by kernel_rfl))
  f317 := Tryd.func78.trans (congrArg some (by kernel_rfl))
  f318 := Tryd.func80.trans (congrArg some (by kernel_rfl))
  f319 := Tryd.func81.trans (congrArg some (by kernel_rfl))
  f320 := Tryd.func82.trans (congrArg some (by kernel_rfl))
  f337 := Tryd.func83.trans (congrArg some (by kernel_rfl))
  f338 := Tryd.func84.trans (congrArg some (by kernel_rfl))
  t0 := Tryd.underlying0
  a0 := Tryd.isAgg0
  z0 := Tryd.sizeOf0
  v0 := Tryd.zeroValue0
  t2 := Tryd.underlying2
  a2 := Tryd.isAgg2
  z2 := Tryd.sizeOf2
  v2 := Tryd.zeroValue2
  t3 := Tryd.underlying3
  a3 := Tryd.isAgg3
  z3 := Tryd.sizeOf3
  v3 := Tryd.zeroValue3
  t4 := Tryd.underlying4
  a4 := Tryd.isAgg4
  z4 := Tryd.sizeOf4
  v4 := Tryd.zeroValue4
  t5 := Tryd.underlying5
  a5 := Tryd.isAgg5
  z5 := Tryd.sizeOf5
  v5 := Tryd.zeroValue5
  t9 := Tryd.underlying9
  a9 := Tryd.isAgg9
  z9 := Tryd.sizeOf9
  v9 := Tryd.zeroValue9
  t20 := Tryd.underlying20
  a20 := Tryd.isAgg20
  z20 := Tryd.sizeOf20
  v20 := Tryd.zeroValue20
  t37 := Tryd.underlying77
  a37 := Tryd.isAgg77
  z37 := Tryd.sizeOf77
  v37 := Tryd.zeroValue77
  t46 := Tryd.underlying118
  a46 := Tryd.isAgg118
  z46 := Tryd.sizeOf118
  v46 := Tryd.zeroValue118
  t51 := Tryd.underlying116
  a51 := Tryd.isAgg116
  z51 := Tryd.sizeOf116
  v51 := Tryd.zeroValue116
  t53 := Tryd.underlying107
  a53 := Tryd.isAgg107
  z53 := Tryd.sizeOf107
  v53 := Tryd.zeroValue107
  t171 := Tryd.underlying106
  a171 := Tryd.isAgg106
  z171 := Tryd.sizeOf106
  v171 := Tryd.zeroValue106
  t173 := Tryd.underlying110
  a173 := Tryd.isAgg110
  z173 := Tryd.sizeOf110
  v173 := Tryd.zeroValue110
  t212 := Tryd.underlying115
  a212 := Tryd.isAgg115
  z212 := Tryd.sizeOf115
  v212 := Tryd.zeroValue115
  t213 := Tryd.underlying117
  a213 := Tryd.isAgg117
  z213 := Tryd.sizeOf117
  t232 := Tryd.underlying121
  a232 := Tryd.isAgg121
  z232 := Tryd.sizeOf121
  v232 := Tryd.zeroValue121
  t233 := Tryd.underlying122
  a233 := Tryd.isAgg122
  z233 := Tryd.sizeOf122
  v233 := Tryd.zeroValue122
  g17 := by kernel_rfl
  g18 := by kernel_rfl
  g19 := by kernel_rfl
  i0 := by kernel_rfl
  i2 := by kernel_rfl
  i3 := by kernel_rfl
  i4 := by kernel_rfl
  i5 := by kernel_rfl
  i9 := by kernel_rfl
  i20 := by kernel_rfl
  i37 := by kernel_rfl
  i46 := by kernel_rfl
  i51 := by kernel_rfl
  i53 := by kernel_rfl
  i171 := by kernel_rfl
  i173 := by kernel_rfl
  i212 := by kernel_rfl
  i232 := by kernel_rfl
  i233 := by kernel_rfl
  m17 := by kernel_rfl
  m18 := by kernel_rfl
  m19 := by kernel_rfl }
open Go.RowKit Go.Sort Go.Lib in
/-- strconv.Itoa: "Itoa is equivalent to FormatInt(int64(i), 10).": i's DECIMAL NUMERAL ('Lib.itoa': a '-' where i is negative, then the digits), FOR EVERY int. The world behind the call: the world before it, new blocks behind the heap (the library's 'var a [24]byte'), draws. (LAID: no walk: one application.) -/
theorem Tryd.strconv_Itoa (n : Int) (h0 : -9223372036854775808 ≤ n) (h1 : n ≤ 9223372036854775807) (w : World) (htab : Lib.TabIs Tryd.prog w "internal/strconv.uint64pow10" .u64 Lib.pow10Tab) :
    Calls Tryd.prog 28 #[.int .i64 n] w fun e w' => e = .returned (.string ⟨(Lib.itoa n).toArray⟩) ∧ ∃ k os, w' = grow (w.drewN k) os := Any.strconv_Itoa Tryd.laysM171 n h0 h1 w htab
end Go.Proofs

open Go Go.Proofs.YtjeaammlambkeaaDoor.Ai Go.Proofs
open Go.RowKit (Below)
namespace Nj
/-! strings.Join, by the library's contract -/
def strsOf : List AV → Option (List (List UInt8))
  | [] => some []
  | .str s :: r => match strsOf r with
    | some l => some (s :: l)
    | none => none
  | _ :: _ => none
def joinL : List (List UInt8) → List UInt8 → List UInt8
  | [], _ => []
  | [x], _ => x
  | x :: y :: r, sep => x ++ (sep ++ joinL (y :: r) sep)
theorem joinL_eq : ∀ (l : List (List UInt8)) (sep : List UInt8), joinL l sep = Lib.join l sep
  | [], sep => rfl
  | [x], sep => (Lib.join_one x sep).symm
  | x :: y :: r, sep => by
    rw [Lib.join_cons]
    show x ++ (sep ++ joinL (y :: r) sep) = _
    rw [joinL_eq (y :: r) sep, Lib.join_cons]
    simp [Lib.joinTail]
def joinF (s : SL) (sep : List UInt8) (h : Heap) : Option (List UInt8 × Heap) :=
  bif Nat.beq s.len 0 then some ([], h) else
  match s.a with
  | some (A, off) => bif Nat.ble s.len s.cap then
      match h.read A off s.len with
      | some vs => match strsOf vs with
        | some xs => bif Nat.ble xs.length 140737488355328 && Nat.ble (joinL xs sep).length 140737488355328 then some (joinL xs sep, h) else none
        | none => none
      | none => none
    else none
  | none => none
def joinN : List AV → Heap → Option (AV × Heap)
  | [.slice a l c z, .str sep], h => match joinF ⟨a, l, c, z⟩ sep h with
    | some (s, h') => some (.str s, h')
    | none => none
  | _, _ => none
def nat : FuncId → Option (List AV → Heap → Option (AV × Heap)) := fun f => bif Nat.beq f 27 then some joinN else none
theorem strsOf_vrs {μ : Mu} : ∀ {vs : List AV} {xs : List (List UInt8)} {ys : List Value}, strsOf vs = some xs → VRs μ vs ys → ys = xs.map fun s => .string ⟨s.toArray⟩
  | [], xs, ys, h, hv => by simp [strsOf] at h; subst h; simpa [VRs] using hv
  | v :: r, xs, ys, h, hv => by
    cases v with
    | str s =>
      simp only [strsOf] at h
      cases hr : strsOf r with
      | none => simp [hr] at h
      | some l =>
        simp only [hr, Option.some.injEq] at h
        subst h
        simp only [VRs, VR] at hv
        obtain ⟨y, ys', rfl, rfl, h2⟩ := hv
        rw [strsOf_vrs hr h2]; rfl
    | _ => simp [strsOf] at h
theorem env0 : EnvOK (envOf Tryd.prog [] noNative) Tryd.prog := envOf_ok (by kernel_rfl) (by kernel_rfl)
theorem join_ok {s : SL} {sep r : List UInt8} {h h' : Heap} (hx : joinF s sep h = some (r, h')) {μ : Mu} {w : World} {args' : Array Value} (hr : HR μ h w) (hv : VRs μ [.slice s.a s.len s.cap s.sz, .str sep] args'.toList) :
    (callFunc 27 args').run Tryd.prog w = .ok (.enter 27 args') w ∧ Calls Tryd.prog 27 args' w fun e w' => ∃ u, e = .returned u ∧ Post μ h w (.str r) h' u w' := by
  refine ⟨enter_of env0 (fn := Tryd.f27) (by kernel_rfl) (by kernel_rfl) _ _, ?_⟩
  simp only [VRs] at hv
  obtain ⟨y, ys, e1, hy, y2, ys2, e2, hy2, e3⟩ := hv
  subst e2 e3
  simp only [VR] at hy2
  subst hy2
  have ea : args' = #[y, .string ⟨sep.toArray⟩] := by rw [← Array.toList_inj, e1]
  subst ea
  unfold joinF at hx
  cases hb : Nat.beq s.len 0 with
  | true =>
    simp only [hb, cond_true, Option.some.injEq, Prod.mk.injEq] at hx
    obtain ⟨rfl, rfl⟩ := hx
    have hl : s.len = 0 := Nat.eq_of_beq_eq_true hb
    have : ∃ a c, y = .slice a 0 c := by
      cases ha : s.a with
      | none => rw [ha] at hy; simp only [VR] at hy; exact ⟨none, 0, hy.1⟩
      | some q =>
        obtain ⟨A, off⟩ := q
        rw [ha] at hy; simp only [VR] at hy
        obtain ⟨l, a', cap', _, h2, _⟩ := hy
        exact ⟨some a', cap', by rw [h2, hl]⟩
    obtain ⟨a, c, rfl⟩ := this
    refine (Tryd.strings_Join_none a c ⟨sep.toArray⟩ w).mono ?_
    rintro e w' ⟨rfl, rfl⟩
    exact ⟨_, rfl, μ, by simp [VR], hr, Ext.refl μ h w'⟩
  | false =>
    simp only [hb, cond_false] at hx
    cases ha : s.a with
    | none => simp [ha] at hx
    | some q =>
      obtain ⟨A, off⟩ := q
      simp only [ha] at hx
      cases hc : Nat.ble s.len s.cap with
      | false => simp [hc] at hx
      | true =>
        simp only [hc, cond_true] at hx
        cases hrd : h.read A off s.len with
        | none => simp [hrd] at hx
        | some vs =>
          simp only [hrd] at hx
          cases hst : strsOf vs with
          | none => simp [hst] at hx
          | some xs =>
            simp only [hst] at hx
            cases hbd : Nat.ble xs.length 140737488355328 && Nat.ble (joinL xs sep).length 140737488355328 with
            | false => simp [hbd] at hx
            | true =>
              simp only [hbd, cond_true, Option.some.injEq, Prod.mk.injEq] at hx
              obtain ⟨rfl, rfl⟩ := hx
              simp only [Bool.and_eq_true, Nat.ble_eq] at hbd hc
              rw [ha] at hy; simp only [VR] at hy
              obtain ⟨l, a', cap', hA, rfl, h3, h4⟩ := hy
              have hpos : 0 < s.len := by
                rcases Nat.eq_zero_or_pos s.len with h0 | h0
                · rw [h0] at hb; cases hb
                · exact h0
              rcases h4 with ⟨h4, _⟩ | ⟨rfl, h5, h6, h7⟩
              · omega
              · obtain ⟨ys, _, h8, h9, h10⟩ := hr.read (P := Tryd.prog) hA hrd
                have h11 := strsOf_vrs hst h9
                have hxl : xs.length = s.len := by rw [← h8, h11, List.length_map]
                have hmap : (xs.map (fun s => (⟨s.toArray⟩ : ByteArray))).map (·.data.toList) = xs := by
                  rw [List.map_map]; simp [Function.comp_def]
                have := Tryd.strings_Join l.b (l.sh + off) cap' (xs.map fun s => ⟨s.toArray⟩) ⟨sep.toArray⟩ w (fun j x hj => by
                    refine h10 j _ ?_
                    rw [h11]
                    rw [List.getElem?_map] at hj ⊢
                    cases hq : xs[j]? with
                    | none => rw [hq] at hj; simp at hj
                    | some z => rw [hq] at hj; simp only [Option.map_some, Option.some.injEq] at hj ⊢; rw [hj])
                  (hr.dom A l hA).2 (by rw [List.length_map]; exact hbd.1) (by rw [List.length_map]; omega) (by rw [hmap]; rw [← joinL_eq]; exact hbd.2)
                rw [List.length_map, hxl, hmap] at this
                refine this.mono ?_
                rintro e w' ⟨rfl, hbel⟩
                refine ⟨_, rfl, μ, ?_, hr.below hbel, Ext.of_below hbel⟩
                simp only [VR]
                rw [joinL_eq]
theorem natOK {cmp : List TypeId} : NativeOK (envOf Tryd.prog cmp nat) Tryd.prog := by
  intro f g hg args h v h' hx μ w args' hr hv
  have hg' : nat f = some g := hg
  unfold nat at hg'
  cases hf : Nat.beq f 27 with
  | false => simp [hf] at hg'
  | true =>
    simp only [hf, cond_true, Option.some.injEq] at hg'
    subst hg'
    have : f = 27 := Nat.eq_of_beq_eq_true hf
    subst this
    refine .inr ?_
    unfold joinN at hx
    split at hx
    · rename_i a l c z sep
      cases hj : joinF ⟨a, l, c, z⟩ sep h with
      | none => simp [hj] at hx
      | some p =>
        obtain ⟨s, h2⟩ := p
        simp only [hj, Option.some.injEq, Prod.mk.injEq] at hx
        obtain ⟨rfl, rfl⟩ := hx
        exact join_ok hj hr hv
    · cases hx
theorem f27_ok (N : Nat) : FnOK Tryd.prog 27 [(.one .slice), (.one .str)] (.val (.one .str)) (fun x h => joinF x.1 x.2.1 h) := by
  intro xs h r h' hx μ w args' hr hv
  exact join_ok hx hr hv
end Nj

set_option maxRecDepth 100000
set_option linter.unusedVariables false
open Go Go.Proofs.YtjeaammlambkeaaDoor.Ai Go.Proofs
namespace Go.Proofs.YtjeaammlambkeaaDoor.My
noncomputable def E : Env := envOf Tryd.prog [60] Nj.nat
theorem envOK : EnvOK E Tryd.prog := envOf_ok (by kernel_rfl) (by kernel_rfl)
theorem natOK : NativeOK E Tryd.prog := Nj.natOK
theorem hmix : Tryd.prog.follows .mixedOrders = true := by kernel_rfl
/- usufruct/usufructlaw14.Deep -/
noncomputable def f29_l1_b (N : Nat) (rec29 : (Int × List UInt8 × SL × SL × Unit) → Int → Heap → Option (Bool × Heap)) (go : Int → Option (Nat × Nat) → Bool → Int → Heap → Option (Out × (Bool × Unit) × Heap)) (v1 : Int) (v2 : Option (Nat × Nat)) (v4 : Bool) (v5 : Int) (h : Heap) : Option (Out × (Bool × Unit) × Heap) :=
  (need v2 fun q7 =>
  (bindV (.val (.one .slice)) (h.cell (q7.1, q7.2 + 3)) fun (x8 : SL) =>
  let x9 : Bool := ltInt v5 (Int.ofNat x8.len)
  (bif x9 then
   (need v2 fun q10 =>
   (bindV (.val (.one .slice)) (h.cell (q10.1, q10.2 + 3)) fun (x11 : SL) =>
   (ixK x11.a x11.len v5 4 fun q12 =>
   (bindV (.val (.agg [(.int .i64), .str, .slice, .slice])) (h.cells q12 4) fun (x13 : (Int × List UInt8 × SL × SL × Unit)) =>
   let x14 : Int := wrapA .i64 (v1 - 1)
   (bind2 (rec29 (x13.1, x13.2.1, x13.2.2.1, x13.2.2.2.1, ()) x14 h) fun (x15 : Bool) h16 =>
   (bif x15 then
    some (Out.ret, (true, ()), h16)
   else
    let x17 : Int := wrapA .i64 (v5 + 1)
    go v1 v2 v4 x17 h16))))))
  else
   some ((Out.exit 0), (v4, ()), h))))
noncomputable def f29_l1 (N : Nat) (rec29 : (Int × List UInt8 × SL × SL × Unit) → Int → Heap → Option (Bool × Heap)) (M : Nat) (v1 : Int) (v2 : Option (Nat × Nat)) (v4 : Bool) (v5 : Int) (h : Heap) : Option (Out × (Bool × Unit) × Heap) := iter (fun go s h => f29_l1_b N rec29 (fun v1 v2 v4 v5 h => go (v1, v2, v4, v5, ()) h) s.1 s.2.1 s.2.2.1 s.2.2.2.1 h) M (v1, v2, v4, v5, ()) h
theorem f29_l1_succ (N : Nat) (rec29 : (Int × List UInt8 × SL × SL × Unit) → Int → Heap → Option (Bool × Heap)) (M : Nat) (v1 : Int) (v2 : Option (Nat × Nat)) (v4 : Bool) (v5 : Int) (h : Heap) : f29_l1 N rec29 (M + 1) v1 v2 v4 v5 h = f29_l1_b N rec29 (f29_l1 N rec29 M) v1 v2 v4 v5 h := rfl
theorem f29_l1_zero (N : Nat) (rec29 : (Int × List UInt8 × SL × SL × Unit) → Int → Heap → Option (Bool × Heap)) (v1 : Int) (v2 : Option (Nat × Nat)) (v4 : Bool) (v5 : Int) (h : Heap) : f29_l1 N rec29 0 v1 v2 v4 v5 h = none := rfl
noncomputable def f29_r (N : Nat) (rec29 : (Int × List UInt8 × SL × SL × Unit) → Int → Heap → Option (Bool × Heap)) (a0 : (Int × List UInt8 × SL × SL × Unit)) (a1 : Int) (h : Heap) : Option (Bool × Heap) :=
  let h1 : Heap := h.push (.row [(.int .i64 a0.1), (.str a0.2.1), (.slice a0.2.2.1.a a0.2.2.1.len a0.2.2.1.cap a0.2.2.1.sz), (.slice a0.2.2.2.1.a a0.2.2.2.1.len a0.2.2.2.1.cap a0.2.2.2.1.sz)] .own)
  let x2 : Bool := leInt a1 0
  (bif x2 then
   some (true, h1)
  else
   (bindV (.val (.one .slice)) (h1.cell ((h.next, 0).1, (h.next, 0).2 + 3)) fun (x3 : SL) =>
   let x4 : Bool := ltInt 2 (Int.ofNat x3.len)
   (bif x4 then
    some (true, h1)
   else
    (bindV (.val (.one .slice)) (h1.cell ((h.next, 0).1, (h.next, 0).2 + 2)) fun (x5 : SL) =>
    let x6 : Bool := ltInt 70 (Int.ofNat x5.len)
    (bif x6 then
     some (true, h1)
    else
     (bind3 (f29_l1 N rec29 N a1 (some (h.next, 0)) false 0 h1) fun o18 (j19 : (Bool × Unit)) h20 =>
     (bif eqOut o18 (.exit 0) then
      some (false, h20)
     else
      some (j19.1, h20))))))))
noncomputable def ann29 : Ann := (.two .n (.two .n (.two (.two .n (.two (.loop [(1, (.one (.int .i64))), (2, (.one .ptr)), (4, (.one .bool)), (5, (.one (.int .i64)))] [(.exit 0), .ret] [(4, (.one .bool))] .n) .n)) .n)))

noncomputable def cl_f29 (N M : Nat) : (((Int × List UInt8 × SL × SL × Unit) → Int → Heap → Option (Bool × Heap)) × Unit) := Nat.rec (fun _ _ _ => none, ()) (fun _ r => (f29_r N r.1, ())) M
noncomputable def f29 (N M : Nat) : (Int × List UInt8 × SL × SL × Unit) → Int → Heap → Option (Bool × Heap) := (cl_f29 N M).1
theorem f29_succ (N M : Nat) (a0 : (Int × List UInt8 × SL × SL × Unit)) (a1 : Int) (h : Heap) : f29 N (M + 1) a0 a1 h = f29_r N (f29 N M) a0 a1 h := rfl
theorem cl_f29_okm (N : Nat) : ∀ M : Nat, (FnOK Tryd.prog 29 [(.agg [(.int .i64), .str, .slice, .slice]), (.one (.int .i64))] (.val (.one .bool)) (fun x h => f29 N M x.1 x.2.1 h)) ∧ True
  | 0 => ⟨(fun xs h r h' hx => by cases hx), trivial⟩
  | M + 1 => ⟨runK_ok envOK hmix (addCall_ok (cl_f29_okm N M).1 noCalls_ok) (N := N) (x := ann29) (fn := Tryd.f29) (c := Tryd.f29.body.getD .skip) (by kernel_rfl) (by kernel_rfl) (by kernel_rfl) (by kernel_rfl) (fun _ _ => by kernel_rfl), trivial⟩
theorem f29_ok (N : Nat) : FnOK Tryd.prog 29 [(.agg [(.int .i64), .str, .slice, .slice]), (.one (.int .i64))] (.val (.one .bool)) (fun x h => f29 N N x.1 x.2.1 h) := (cl_f29_okm N N).1

/- usufruct/usufructlaw16.Great -/
noncomputable def f18_l2_b (N : Nat) (go : Option (Nat × Nat) → Bool → Int → Heap → Option (Out × (Bool × Unit) × Heap)) (v1 : Option (Nat × Nat)) (v2 : Bool) (v4 : Int) (h : Heap) : Option (Out × (Bool × Unit) × Heap) :=
  (need v1 fun q23 =>
  (bindV (.val (.one .slice)) (h.cell (q23.1, q23.2 + 5)) fun (x24 : SL) =>
  let x25 : Bool := ltInt v4 (Int.ofNat x24.len)
  (bif x25 then
   (need v1 fun q26 =>
   (bindV (.val (.one .slice)) (h.cell (q26.1, q26.2 + 5)) fun (x27 : SL) =>
   (ixK x27.a x27.len v4 22 fun q28 =>
   (bindV (.val (.agg [(.int .i64), (.int .i64), (.int .i64), (.int .i64), .slice, (.int .i64), (.int .i64), (.int .i64), .slice, (.int .i64), (.int .i64), .slice, (.int .i64), .str, .slice, .slice])) (h.cells (q28.1, q28.2 + 5) 16) fun (x29 : (Int × Int × Int × Int × SL × Int × Int × Int × SL × Int × Int × SL × Int × List UInt8 × SL × SL × Unit)) =>
   let h30 : Heap := h.push (.row [(.int .i64 0), (.int .i64 0), (.int .i64 0), (.int .i64 0), (.slice none 0 0 0), (.int .i64 0), (.int .i64 0), (.int .i64 0), (.slice none 0 0 0), (.int .i64 0), (.int .i64 0), (.slice none 0 0 0), (.int .i64 0), (.str []), (.slice none 0 0 0), (.slice none 0 0 0)] .own)
   (need (h30.store (h.next, 0) [(.int .i64 x29.1), (.int .i64 x29.2.1), (.int .i64 x29.2.2.1), (.int .i64 x29.2.2.2.1), (.slice x29.2.2.2.2.1.a x29.2.2.2.2.1.len x29.2.2.2.2.1.cap x29.2.2.2.2.1.sz), (.int .i64 x29.2.2.2.2.2.1), (.int .i64 x29.2.2.2.2.2.2.1), (.int .i64 x29.2.2.2.2.2.2.2.1), (.slice x29.2.2.2.2.2.2.2.2.1.a x29.2.2.2.2.2.2.2.2.1.len x29.2.2.2.2.2.2.2.2.1.cap x29.2.2.2.2.2.2.2.2.1.sz), (.int .i64 x29.2.2.2.2.2.2.2.2.2.1), (.int .i64 x29.2.2.2.2.2.2.2.2.2.2.1), (.slice x29.2.2.2.2.2.2.2.2.2.2.2.1.a x29.2.2.2.2.2.2.2.2.2.2.2.1.len x29.2.2.2.2.2.2.2.2.2.2.2.1.cap x29.2.2.2.2.2.2.2.2.2.2.2.1.sz), (.int .i64 x29.2.2.2.2.2.2.2.2.2.2.2.2.1), (.str x29.2.2.2.2.2.2.2.2.2.2.2.2.2.1), (.slice x29.2.2.2.2.2.2.2.2.2.2.2.2.2.2.1.a x29.2.2.2.2.2.2.2.2.2.2.2.2.2.2.1.len x29.2.2.2.2.2.2.2.2.2.2.2.2.2.2.1.cap x29.2.2.2.2.2.2.2.2.2.2.2.2.2.2.1.sz), (.slice x29.2.2.2.2.2.2.2.2.2.2.2.2.2.2.2.1.a x29.2.2.2.2.2.2.2.2.2.2.2.2.2.2.2.1.len x29.2.2.2.2.2.2.2.2.2.2.2.2.2.2.2.1.cap x29.2.2.2.2.2.2.2.2.2.2.2.2.2.2.2.1.sz)]) fun h31 =>
   (need v1 fun q32 =>
   (bindV (.val (.one .slice)) (h31.cell (q32.1, q32.2 + 5)) fun (x33 : SL) =>
   (ixK x33.a x33.len v4 22 fun q34 =>
   (bindV (.val (.one .slice)) (h31.cell (q34.1, q34.2 + 21)) fun (x35 : SL) =>
   let x36 : Bool := ltInt 4 (Int.ofNat x35.len)
   (bif x36 then
    some (Out.ret, (true, ()), h31)
   else
    (bindV (.val (.one .slice)) (h31.cell ((h.next, 0).1, (h.next, 0).2 + 15)) fun (x37 : SL) =>
    let x38 : Bool := ltInt 20 (Int.ofNat x37.len)
    (bif x38 then
     some (Out.ret, (true, ()), h31)
    else
     (bindV (.val (.one .slice)) (h31.cell ((h.next, 0).1, (h.next, 0).2 + 14)) fun (x39 : SL) =>
     let x40 : Bool := ltInt 20 (Int.ofNat x39.len)
     (bif x40 then
      some (Out.ret, (true, ()), h31)
     else
      (bindV (.val (.one .slice)) (h31.cell (((h.next, 0).1, (h.next, 0).2 + 10).1, ((h.next, 0).1, (h.next, 0).2 + 10).2 + 1)) fun (x41 : SL) =>
      let x42 : Bool := ltInt 20 (Int.ofNat x41.len)
      (bif x42 then
       some (Out.ret, (true, ()), h31)
      else
       (need v1 fun q43 =>
       (bindV (.val (.one .slice)) (h31.cell (q43.1, q43.2 + 5)) fun (x44 : SL) =>
       (ixK x44.a x44.len v4 22 fun q45 =>
       (bindV (.val (.one .slice)) (h31.cell ((q45.1, q45.2 + 3).1, (q45.1, q45.2 + 3).2 + 1)) fun (x46 : SL) =>
       let x47 : Bool := ltInt 20 (Int.ofNat x46.len)
       (bif x47 then
        some (Out.ret, (true, ()), h31)
       else
        let x48 : Int := wrapA .i64 (v4 + 1)
        go v1 v2 x48 h31)))))))))))))))))))))
  else
   some ((Out.exit 2), (v2, ()), h))))
noncomputable def f18_l2 (N : Nat) (M : Nat) (v1 : Option (Nat × Nat)) (v2 : Bool) (v4 : Int) (h : Heap) : Option (Out × (Bool × Unit) × Heap) := iter (fun go s h => f18_l2_b N (fun v1 v2 v4 h => go (v1, v2, v4, ()) h) s.1 s.2.1 s.2.2.1 h) M (v1, v2, v4, ()) h
theorem f18_l2_succ (N : Nat) (M : Nat) (v1 : Option (Nat × Nat)) (v2 : Bool) (v4 : Int) (h : Heap) : f18_l2 N (M + 1) v1 v2 v4 h = f18_l2_b N (f18_l2 N M) v1 v2 v4 h := rfl
theorem f18_l2_zero (N : Nat) (v1 : Option (Nat × Nat)) (v2 : Bool) (v4 : Int) (h : Heap) : f18_l2 N 0 v1 v2 v4 h = none := rfl
noncomputable def f18_l1_b (N : Nat) (go : Option (Nat × Nat) → Bool → Int → Heap → Option (Out × (Option (Nat × Nat) × Bool × Unit) × Heap)) (v1 : Option (Nat × Nat)) (v2 : Bool) (v3 : Int) (h : Heap) : Option (Out × (Option (Nat × Nat) × Bool × Unit) × Heap) :=
  (need v1 fun q10 =>
  (bindV (.val (.one .slice)) (h.cell (q10.1, q10.2 + 4)) fun (x11 : SL) =>
  let x12 : Bool := ltInt v3 (Int.ofNat x11.len)
  (bif x12 then
   (need v1 fun q13 =>
   (bindV (.val (.one .slice)) (h.cell (q13.1, q13.2 + 4)) fun (x14 : SL) =>
   (ixK x14.a x14.len v3 6 fun q15 =>
   (bindV (.val (.agg [(.int .i64), .str, .slice, .slice])) (h.cells (q15.1, q15.2 + 1) 4) fun (x16 : (Int × List UInt8 × SL × SL × Unit)) =>
   (bind2 (f29 N N (x16.1, x16.2.1, x16.2.2.1, x16.2.2.2.1, ()) 67 h) fun (x17 : Bool) h18 =>
   (bif x17 then
    some (Out.ret, (v1, true, ()), h18)
   else
    let x19 : Int := wrapA .i64 (v3 + 1)
    go v1 v2 x19 h18))))))
  else
   some ((Out.exit 0), (v1, v2, ()), h))))
noncomputable def f18_l1 (N : Nat) (M : Nat) (v1 : Option (Nat × Nat)) (v2 : Bool) (v3 : Int) (h : Heap) : Option (Out × (Option (Nat × Nat) × Bool × Unit) × Heap) := iter (fun go s h => f18_l1_b N (fun v1 v2 v3 h => go (v1, v2, v3, ()) h) s.1 s.2.1 s.2.2.1 h) M (v1, v2, v3, ()) h
theorem f18_l1_succ (N : Nat) (M : Nat) (v1 : Option (Nat × Nat)) (v2 : Bool) (v3 : Int) (h : Heap) : f18_l1 N (M + 1) v1 v2 v3 h = f18_l1_b N (f18_l1 N M) v1 v2 v3 h := rfl
theorem f18_l1_zero (N : Nat) (v1 : Option (Nat × Nat)) (v2 : Bool) (v3 : Int) (h : Heap) : f18_l1 N 0 v1 v2 v3 h = none := rfl
noncomputable def f18 (N : Nat) (a0 : (Int × Int × Int × SL × SL × SL × Unit)) (h : Heap) : Option (Bool × Heap) :=
  let h1 : Heap := h.push (.row [(.int .i64 a0.1), (.int .i64 a0.2.1), (.int .i64 a0.2.2.1), (.slice a0.2.2.2.1.a a0.2.2.2.1.len a0.2.2.2.1.cap a0.2.2.2.1.sz), (.slice a0.2.2.2.2.1.a a0.2.2.2.2.1.len a0.2.2.2.2.1.cap a0.2.2.2.2.1.sz), (.slice a0.2.2.2.2.2.1.a a0.2.2.2.2.2.1.len a0.2.2.2.2.2.1.cap a0.2.2.2.2.2.1.sz)] .own)
  (bindV (.val (.one .slice)) (h1.cell ((h.next, 0).1, (h.next, 0).2 + 5)) fun (x2 : SL) =>
  let x3 : Bool := ltInt 60 (Int.ofNat x2.len)
  (bif x3 then
   some (true, h1)
  else
   (bindV (.val (.one .slice)) (h1.cell ((h.next, 0).1, (h.next, 0).2 + 4)) fun (x4 : SL) =>
   let x5 : Bool := ltInt 30 (Int.ofNat x4.len)
   (bif x5 then
    some (true, h1)
   else
    (bindV (.val (.one (.int .i64))) (h1.cell ((h.next, 0).1, (h.next, 0).2 + 2)) fun (x6 : Int) =>
    let x7 : Bool := ltInt 200 x6
    (bif x7 then
     some (true, h1)
    else
     (bindV (.val (.one .slice)) (h1.cell ((h.next, 0).1, (h.next, 0).2 + 3)) fun (x8 : SL) =>
     let x9 : Bool := ltInt 100 (Int.ofNat x8.len)
     (bif x9 then
      some (true, h1)
     else
      (bind3 (f18_l1 N N (some (h.next, 0)) false 0 h1) fun o20 (j21 : (Option (Nat × Nat) × Bool × Unit)) h22 =>
      (bif eqOut o20 (.exit 0) then
       (bind3 (f18_l2 N N j21.1 j21.2.1 0 h22) fun o49 (j50 : (Bool × Unit)) h51 =>
       (bif eqOut o49 (.exit 2) then
        some (false, h51)
       else
        some (j50.1, h51)))
      else
       some (j21.2.1, h22)))))))))))
noncomputable def ann18 : Ann := (.two .n (.two .n (.two (.two .n (.two (.loop [(1, (.one .ptr)), (2, (.one .bool)), (3, (.one (.int .i64)))] [(.exit 0), .ret] [(1, (.one .ptr)), (2, (.one .bool))] .n) .n)) (.two (.two .n (.two (.loop [(1, (.one .ptr)), (2, (.one .bool)), (4, (.one (.int .i64)))] [(.exit 2), .ret] [(2, (.one .bool))] .n) .n)) .n))))
theorem f18_ok (N : Nat) : FnOK Tryd.prog 18 [(.agg [(.int .i64), (.int .i64), (.int .i64), .slice, .slice, .slice])] (.val (.one .bool)) (fun x h => f18 N x.1 h) :=
  runK_ok envOK hmix (addCall_ok (f29_ok N) noCalls_ok) (N := N) (x := ann18) (fn := Tryd.f18) (c := Tryd.f18.body.getD .skip) (by kernel_rfl) (by kernel_rfl) (by kernel_rfl) (by kernel_rfl) (fun _ _ => by kernel_rfl)

/- usufruct/usufructref16.typ -/
noncomputable def f30_l1_b (N : Nat) (rec30 : (Int × List UInt8 × SL × SL × Unit) → Int → Int → Heap → Option (Bool × Heap)) (go : Int → Int → Option (Nat × Nat) → Bool → Int → Heap → Option (Out × (Int × Int × Option (Nat × Nat) × Bool × Unit) × Heap)) (v1 : Int) (v2 : Int) (v3 : Option (Nat × Nat)) (v6 : Bool) (v7 : Int) (h : Heap) : Option (Out × (Int × Int × Option (Nat × Nat) × Bool × Unit) × Heap) :=
  (need v3 fun q3 =>
  (bindV (.val (.one .slice)) (h.cell (q3.1, q3.2 + 2)) fun (x4 : SL) =>
  let x5 : Bool := ltInt v7 (Int.ofNat x4.len)
  (bif x5 then
   (need v3 fun q6 =>
   (bindV (.val (.one .slice)) (h.cell (q6.1, q6.2 + 2)) fun (x7 : SL) =>
   (ixK x7.a x7.len v7 1 fun q8 =>
   (bindV (.val (.one (.int .i64))) (h.cell q8) fun (x9 : Int) =>
   let x10 : Bool := ltInt x9 0
   (bif x10 then
    some (Out.ret, (v1, v2, v3, false, ()), h)
   else
    (need v3 fun q11 =>
    (bindV (.val (.one .slice)) (h.cell (q11.1, q11.2 + 2)) fun (x12 : SL) =>
    (ixK x12.a x12.len v7 1 fun q13 =>
    (bindV (.val (.one (.int .i64))) (h.cell q13) fun (x14 : Int) =>
    let x15 : Bool := leInt v1 x14
    (bif x15 then
     some (Out.ret, (v1, v2, v3, false, ()), h)
    else
     let x16 : Int := wrapA .i64 (v7 + 1)
     go v1 v2 v3 v6 x16 h))))))))))
  else
   some ((Out.exit 0), (v1, v2, v3, v6, ()), h))))
noncomputable def f30_l1 (N : Nat) (rec30 : (Int × List UInt8 × SL × SL × Unit) → Int → Int → Heap → Option (Bool × Heap)) (M : Nat) (v1 : Int) (v2 : Int) (v3 : Option (Nat × Nat)) (v6 : Bool) (v7 : Int) (h : Heap) : Option (Out × (Int × Int × Option (Nat × Nat) × Bool × Unit) × Heap) := iter (fun go s h => f30_l1_b N rec30 (fun v1 v2 v3 v6 v7 h => go (v1, v2, v3, v6, v7, ()) h) s.1 s.2.1 s.2.2.1 s.2.2.2.1 s.2.2.2.2.1 h) M (v1, v2, v3, v6, v7, ()) h
theorem f30_l1_succ (N : Nat) (rec30 : (Int × List UInt8 × SL × SL × Unit) → Int → Int → Heap → Option (Bool × Heap)) (M : Nat) (v1 : Int) (v2 : Int) (v3 : Option (Nat × Nat)) (v6 : Bool) (v7 : Int) (h : Heap) : f30_l1 N rec30 (M + 1) v1 v2 v3 v6 v7 h = f30_l1_b N rec30 (f30_l1 N rec30 M) v1 v2 v3 v6 v7 h := rfl
theorem f30_l1_zero (N : Nat) (rec30 : (Int × List UInt8 × SL × SL × Unit) → Int → Int → Heap → Option (Bool × Heap)) (v1 : Int) (v2 : Int) (v3 : Option (Nat × Nat)) (v6 : Bool) (v7 : Int) (h : Heap) : f30_l1 N rec30 0 v1 v2 v3 v6 v7 h = none := rfl
noncomputable def f30_r (N : Nat) (rec30 : (Int × List UInt8 × SL × SL × Unit) → Int → Int → Heap → Option (Bool × Heap)) (a0 : (Int × List UInt8 × SL × SL × Unit)) (a1 : Int) (a2 : Int) (h : Heap) : Option (Bool × Heap) :=
  let h1 : Heap := h.push (.row [(.int .i64 a0.1), (.str a0.2.1), (.slice a0.2.2.1.a a0.2.2.1.len a0.2.2.1.cap a0.2.2.1.sz), (.slice a0.2.2.2.1.a a0.2.2.2.1.len a0.2.2.2.1.cap a0.2.2.2.1.sz)] .own)
  let x2 : Bool := ltInt 64 a2
  (bif x2 then
   some (false, h1)
  else
   (bind3 (f30_l1 N rec30 N a1 a2 (some (h.next, 0)) false 0 h1) fun o17 (j18 : (Int × Int × Option (Nat × Nat) × Bool × Unit)) h19 =>
   (bif eqOut o17 (.exit 0) then
    (need j18.2.2.1 fun q20 =>
    (bindV (.val (.one (.int .i64))) (h19.cell (q20.1, q20.2 + 0)) fun (x21 : Int) =>
    let x22 : Bool := ltInt x21 0
    (bif x22 then
     some (false, h19)
    else
     (need j18.2.2.1 fun q23 =>
     (bindV (.val (.one (.int .i64))) (h19.cell (q23.1, q23.2 + 0)) fun (x24 : Int) =>
     let x25 : Bool := ltInt 5 x24
     (bif x25 then
      some (false, h19)
     else
      (need j18.2.2.1 fun q26 =>
      (bindV (.val (.one (.int .i64))) (h19.cell (q26.1, q26.2 + 0)) fun (x27 : Int) =>
      let x28 : Bool := eqInt x27 4
      (bif x28 then
       (need j18.2.2.1 fun q29 =>
       (bindV (.val (.one .slice)) (h19.cell (q29.1, q29.2 + 3)) fun (x30 : SL) =>
       let x31 : Bool := eqInt (Int.ofNat x30.len) 1
       (bif x31 then
        (need j18.2.2.1 fun q32 =>
        (bindV (.val (.one .slice)) (h19.cell (q32.1, q32.2 + 2)) fun (x33 : SL) =>
        let x34 : Bool := eqInt (Int.ofNat x33.len) 1
        (bif x34 then
         (need j18.2.2.1 fun q35 =>
         (bindV (.val (.one .slice)) (h19.cell (q35.1, q35.2 + 3)) fun (x36 : SL) =>
         (ixK x36.a x36.len 0 4 fun q37 =>
         (bindV (.val (.agg [(.int .i64), .str, .slice, .slice])) (h19.cells q37 4) fun (x38 : (Int × List UInt8 × SL × SL × Unit)) =>
         let x39 : Int := wrapA .i64 (j18.2.1 + 1)
         (bind2 (rec30 (x38.1, x38.2.1, x38.2.2.1, x38.2.2.2.1, ()) j18.1 x39 h19) fun (x40 : Bool) h41 =>
         some (x40, h41))))))
        else
         some (false, h19))))
       else
        some (false, h19))))
      else
       (need j18.2.2.1 fun q42 =>
       (bindV (.val (.one (.int .i64))) (h19.cell (q42.1, q42.2 + 0)) fun (x43 : Int) =>
       let x44 : Bool := eqInt x43 5
       (bif x44 then
        (need j18.2.2.1 fun q45 =>
        (bindV (.val (.one .slice)) (h19.cell (q45.1, q45.2 + 3)) fun (x46 : SL) =>
        let x47 : Bool := eqInt (Int.ofNat x46.len) 1
        (bif x47 then
         (need j18.2.2.1 fun q48 =>
         (bindV (.val (.one .slice)) (h19.cell (q48.1, q48.2 + 2)) fun (x49 : SL) =>
         let x50 : Bool := eqInt (Int.ofNat x49.len) 1
         (bif x50 then
          (need j18.2.2.1 fun q51 =>
          (bindV (.val (.one .slice)) (h19.cell (q51.1, q51.2 + 3)) fun (x52 : SL) =>
          (ixK x52.a x52.len 0 4 fun q53 =>
          (bindV (.val (.agg [(.int .i64), .str, .slice, .slice])) (h19.cells q53 4) fun (x54 : (Int × List UInt8 × SL × SL × Unit)) =>
          let x55 : Int := wrapA .i64 (j18.2.1 + 1)
          (bind2 (rec30 (x54.1, x54.2.1, x54.2.2.1, x54.2.2.2.1, ()) j18.1 x55 h19) fun (x56 : Bool) h57 =>
          some (x56, h57))))))
         else
          some (false, h19))))
        else
         some (false, h19))))
       else
        (need j18.2.2.1 fun q58 =>
        (bindV (.val (.one .slice)) (h19.cell (q58.1, q58.2 + 3)) fun (x59 : SL) =>
        let x60 : Bool := eqInt (Int.ofNat x59.len) 0
        some (x60, h19)))))))))))))))
   else
    some (j18.2.2.2.1, h19))))
noncomputable def ann30 : Ann := (.two .n (.two .n (.two (.two .n (.two (.loop [(1, (.one (.int .i64))), (2, (.one (.int .i64))), (3, (.one .ptr)), (6, (.one .bool)), (7, (.one (.int .i64)))] [(.exit 0), .ret] [(1, (.one (.int .i64))), (2, (.one (.int .i64))), (3, (.one .ptr)), (6, (.one .bool))] .n) .n)) .n)))

noncomputable def cl_f30 (N M : Nat) : (((Int × List UInt8 × SL × SL × Unit) → Int → Int → Heap → Option (Bool × Heap)) × Unit) := Nat.rec (fun _ _ _ _ => none, ()) (fun _ r => (f30_r N r.1, ())) M
noncomputable def f30 (N M : Nat) : (Int × List UInt8 × SL × SL × Unit) → Int → Int → Heap → Option (Bool × Heap) := (cl_f30 N M).1
theorem f30_succ (N M : Nat) (a0 : (Int × List UInt8 × SL × SL × Unit)) (a1 : Int) (a2 : Int) (h : Heap) : f30 N (M + 1) a0 a1 a2 h = f30_r N (f30 N M) a0 a1 a2 h := rfl
theorem cl_f30_okm (N : Nat) : ∀ M : Nat, (FnOK Tryd.prog 30 [(.agg [(.int .i64), .str, .slice, .slice]), (.one (.int .i64)), (.one (.int .i64))] (.val (.one .bool)) (fun x h => f30 N M x.1 x.2.1 x.2.2.1 h)) ∧ True
  | 0 => ⟨(fun xs h r h' hx => by cases hx), trivial⟩
  | M + 1 => ⟨runK_ok envOK hmix (addCall_ok (cl_f30_okm N M).1 noCalls_ok) (N := N) (x := ann30) (fn := Tryd.f30) (c := Tryd.f30.body.getD .skip) (by kernel_rfl) (by kernel_rfl) (by kernel_rfl) (by kernel_rfl) (fun _ _ => by kernel_rfl), trivial⟩
theorem f30_ok (N : Nat) : FnOK Tryd.prog 30 [(.agg [(.int .i64), .str, .slice, .slice]), (.one (.int .i64)), (.one (.int .i64))] (.val (.one .bool)) (fun x h => f30 N N x.1 x.2.1 x.2.2.1 h) := (cl_f30_okm N N).1

/- usufruct/usufructref16.Opers -/
noncomputable def f51 (N : Nat) (a0 : (Int × Int × Int × Int × SL × Int × Int × Int × SL × Int × Int × SL × Int × List UInt8 × SL × SL × Unit)) (h : Heap) : Option (SL × Heap) :=
  let h1 : Heap := h.push (.row [(.int .i64 a0.1), (.int .i64 a0.2.1), (.int .i64 a0.2.2.1), (.int .i64 a0.2.2.2.1), (.slice a0.2.2.2.2.1.a a0.2.2.2.2.1.len a0.2.2.2.2.1.cap a0.2.2.2.2.1.sz), (.int .i64 a0.2.2.2.2.2.1), (.int .i64 a0.2.2.2.2.2.2.1), (.int .i64 a0.2.2.2.2.2.2.2.1), (.slice a0.2.2.2.2.2.2.2.2.1.a a0.2.2.2.2.2.2.2.2.1.len a0.2.2.2.2.2.2.2.2.1.cap a0.2.2.2.2.2.2.2.2.1.sz), (.int .i64 a0.2.2.2.2.2.2.2.2.2.1), (.int .i64 a0.2.2.2.2.2.2.2.2.2.2.1), (.slice a0.2.2.2.2.2.2.2.2.2.2.2.1.a a0.2.2.2.2.2.2.2.2.2.2.2.1.len a0.2.2.2.2.2.2.2.2.2.2.2.1.cap a0.2.2.2.2.2.2.2.2.2.2.2.1.sz), (.int .i64 a0.2.2.2.2.2.2.2.2.2.2.2.2.1), (.str a0.2.2.2.2.2.2.2.2.2.2.2.2.2.1), (.slice a0.2.2.2.2.2.2.2.2.2.2.2.2.2.2.1.a a0.2.2.2.2.2.2.2.2.2.2.2.2.2.2.1.len a0.2.2.2.2.2.2.2.2.2.2.2.2.2.2.1.cap a0.2.2.2.2.2.2.2.2.2.2.2.2.2.2.1.sz), (.slice a0.2.2.2.2.2.2.2.2.2.2.2.2.2.2.2.1.a a0.2.2.2.2.2.2.2.2.2.2.2.2.2.2.2.1.len a0.2.2.2.2.2.2.2.2.2.2.2.2.2.2.2.1.cap a0.2.2.2.2.2.2.2.2.2.2.2.2.2.2.2.1.sz)] .own)
  (bindV (.val (.one (.int .i64))) (h1.cell ((h.next, 0).1, (h.next, 0).2 + 0)) fun (x2 : Int) =>
  (bind2 (α := (Option (Nat × Nat) × Int × Bool × Unit)) (
   let x3 : Bool := eqInt x2 1
   (bif x3 then
    some (((some (h.next, 0)), x2, x3, ()), h1)
   else
    let x4 : Bool := eqInt x2 4
    some (((some (h.next, 0)), x2, x4, ()), h1))) fun (j5 : (Option (Nat × Nat) × Int × Bool × Unit)) h6 =>
  (bif j5.2.2.1 then
   (need j5.1 fun q7 =>
   (bindV (.val (.agg [(.int .i64), (.int .i64), (.int .i64), .slice])) (h6.cells (q7.1, q7.2 + 1) 4) fun (x8 : (Int × Int × Int × SL × Unit)) =>
   let h9 : Heap := h6.push (.row [(.int .i64 x8.1), (.int .i64 x8.2.1), (.int .i64 x8.2.2.1), (.slice x8.2.2.2.1.a x8.2.2.2.1.len x8.2.2.2.1.cap x8.2.2.2.1.sz)] .own)
   some (⟨(some (h6.next, 0)), 1, 1, 4⟩, h9)))
  else
   let x10 : Bool := eqInt j5.2.1 5
   (bif x10 then
    (need j5.1 fun q11 =>
    (bindV (.val (.agg [(.int .i64), (.int .i64), (.int .i64), .slice])) (h6.cells (q11.1, q11.2 + 1) 4) fun (x12 : (Int × Int × Int × SL × Unit)) =>
    (need j5.1 fun q13 =>
    (bindV (.val (.agg [(.int .i64), (.int .i64), (.int .i64), .slice])) (h6.cells (q13.1, q13.2 + 5) 4) fun (x14 : (Int × Int × Int × SL × Unit)) =>
    let h15 : Heap := h6.push (.row [(.int .i64 x12.1), (.int .i64 x12.2.1), (.int .i64 x12.2.2.1), (.slice x12.2.2.2.1.a x12.2.2.2.1.len x12.2.2.2.1.cap x12.2.2.2.1.sz), (.int .i64 x14.1), (.int .i64 x14.2.1), (.int .i64 x14.2.2.1), (.slice x14.2.2.2.1.a x14.2.2.2.1.len x14.2.2.2.1.cap x14.2.2.2.1.sz)] .own)
    some (⟨(some (h6.next, 0)), 2, 2, 4⟩, h15)))))
   else
    (bind2 (α := (Option (Nat × Nat) × Bool × Unit)) (
     let x16 : Bool := eqInt j5.2.1 6
     (bif x16 then
      some ((j5.1, x16, ()), h6)
     else
      let x17 : Bool := eqInt j5.2.1 7
      some ((j5.1, x17, ()), h6))) fun (j18 : (Option (Nat × Nat) × Bool × Unit)) h19 =>
    (bif j18.2.1 then
     (need j18.1 fun q20 =>
     (bindV (.val (.one .slice)) (h19.cell (q20.1, q20.2 + 15)) fun (x21 : SL) =>
     some (x21, h19)))
    else
     some (⟨none, 0, 0, 0⟩, h19)))))))
noncomputable def ann51 : Ann := (.two .n (.two (.two .n (.two (.two (.join [(1, (.one .ptr)), (4, (.one (.int .i64))), (5, (.one .bool))] .n) (.two .n (.two .n (.two .n (.two (.join [(1, (.one .ptr)), (18, (.one .bool))] .n) .n))))) .n)) .n))
theorem f51_ok (N : Nat) : FnOK Tryd.prog 51 [(.agg [(.int .i64), (.int .i64), (.int .i64), (.int .i64), .slice, (.int .i64), (.int .i64), (.int .i64), .slice, (.int .i64), (.int .i64), .slice, (.int .i64), .str, .slice, .slice])] (.val (.one .slice)) (fun x h => f51 N x.1 h) :=
  runK_ok envOK hmix noCalls_ok (N := N) (x := ann51) (fn := Tryd.f51) (c := Tryd.f51.body.getD .skip) (by kernel_rfl) (by kernel_rfl) (by kernel_rfl) (by kernel_rfl) (fun _ _ => by kernel_rfl)

/- usufruct/usufructref16.Named -/
noncomputable def f33 (N : Nat) (a0 : (Int × Int × Int × SL × Unit)) (h : Heap) : Option (Bool × Heap) :=
  let h1 : Heap := h.push (.row [(.int .i64 a0.1), (.int .i64 a0.2.1), (.int .i64 a0.2.2.1), (.slice a0.2.2.2.1.a a0.2.2.2.1.len a0.2.2.2.1.cap a0.2.2.2.1.sz)] .own)
  (bindV (.val (.one (.int .i64))) (h1.cell ((h.next, 0).1, (h.next, 0).2 + 0)) fun (x2 : Int) =>
  let x3 : Bool := eqInt x2 3
  (bif x3 then
   some (true, h1)
  else
   (bindV (.val (.one (.int .i64))) (h1.cell ((h.next, 0).1, (h.next, 0).2 + 0)) fun (x4 : Int) =>
   let x5 : Bool := eqInt x4 4
   some (x5, h1))))
noncomputable def ann33 : Ann := .n
theorem f33_ok (N : Nat) : FnOK Tryd.prog 33 [(.agg [(.int .i64), (.int .i64), (.int .i64), .slice])] (.val (.one .bool)) (fun x h => f33 N x.1 h) :=
  runK_ok envOK hmix noCalls_ok (N := N) (x := ann33) (fn := Tryd.f33) (c := Tryd.f33.body.getD .skip) (by kernel_rfl) (by kernel_rfl) (by kernel_rfl) (by kernel_rfl) (fun _ _ => by kernel_rfl)

/- usufruct/usufructref16.local -/
noncomputable def f32 (N : Nat) (a0 : (Int × SL × Unit)) (a1 : (Int × Int × Int × SL × SL × SL × Unit)) (h : Heap) : Option (Bool × Heap) :=
  let h1 : Heap := h.push (.row [(.int .i64 a0.1), (.slice a0.2.1.a a0.2.1.len a0.2.1.cap a0.2.1.sz)] .own)
  let h2 : Heap := h1.push (.row [(.int .i64 a1.1), (.int .i64 a1.2.1), (.int .i64 a1.2.2.1), (.slice a1.2.2.2.1.a a1.2.2.2.1.len a1.2.2.2.1.cap a1.2.2.2.1.sz), (.slice a1.2.2.2.2.1.a a1.2.2.2.2.1.len a1.2.2.2.2.1.cap a1.2.2.2.2.1.sz), (.slice a1.2.2.2.2.2.1.a a1.2.2.2.2.2.1.len a1.2.2.2.2.2.1.cap a1.2.2.2.2.2.1.sz)] .own)
  (bindV (.val (.one (.int .i64))) (h2.cell ((h.next, 0).1, (h.next, 0).2 + 0)) fun (x3 : Int) =>
  let x4 : Bool := leInt 0 x3
  (bif x4 then
   (bindV (.val (.one (.int .i64))) (h2.cell ((h.next, 0).1, (h.next, 0).2 + 0)) fun (x5 : Int) =>
   (bindV (.val (.one .slice)) (h2.cell ((h1.next, 0).1, (h1.next, 0).2 + 4)) fun (x6 : SL) =>
   let x7 : Bool := ltInt x5 (Int.ofNat x6.len)
   some (x7, h2)))
  else
   some (false, h2)))
noncomputable def ann32 : Ann := .n
theorem f32_ok (N : Nat) : FnOK Tryd.prog 32 [(.agg [(.int .i64), .slice]), (.agg [(.int .i64), (.int .i64), (.int .i64), .slice, .slice, .slice])] (.val (.one .bool)) (fun x h => f32 N x.1 x.2.1 h) :=
  runK_ok envOK hmix noCalls_ok (N := N) (x := ann32) (fn := Tryd.f32) (c := Tryd.f32.body.getD .skip) (by kernel_rfl) (by kernel_rfl) (by kernel_rfl) (by kernel_rfl) (fun _ _ => by kernel_rfl)

/- usufruct/usufructref16.value -/
noncomputable def f31_l2_b (N : Nat) (go : Option (Nat × Nat) → Option (Nat × Nat) → Bool → Int → Heap → Option (Out × (Option (Nat × Nat) × Bool × Unit) × Heap)) (v2 : Option (Nat × Nat)) (v3 : Option (Nat × Nat)) (v4 : Bool) (v7 : Int) (h : Heap) : Option (Out × (Option (Nat × Nat) × Bool × Unit) × Heap) :=
  (need v2 fun q53 =>
  (bindV (.val (.one .slice)) (h.cell (q53.1, q53.2 + 14)) fun (x54 : SL) =>
  let x55 : Bool := ltInt v7 (Int.ofNat x54.len)
  (bif x55 then
   (need v2 fun q56 =>
   (bindV (.val (.one .slice)) (h.cell (q56.1, q56.2 + 14)) fun (x57 : SL) =>
   (ixK x57.a x57.len v7 1 fun q58 =>
   (bindV (.val (.one (.int .i64))) (h.cell q58) fun (x59 : Int) =>
   let x60 : Bool := ltInt x59 0
   (bif x60 then
    some (Out.ret, (v2, false, ()), h)
   else
    (need v2 fun q61 =>
    (bindV (.val (.one .slice)) (h.cell (q61.1, q61.2 + 14)) fun (x62 : SL) =>
    (ixK x62.a x62.len v7 1 fun q63 =>
    (bindV (.val (.one (.int .i64))) (h.cell q63) fun (x64 : Int) =>
    (need v3 fun q65 =>
    (bindV (.val (.one (.int .i64))) (h.cell (q65.1, q65.2 + 2)) fun (x66 : Int) =>
    let x67 : Bool := leInt x66 x64
    (bif x67 then
     some (Out.ret, (v2, false, ()), h)
    else
     let x68 : Int := wrapA .i64 (v7 + 1)
     go v2 v3 v4 x68 h))))))))))))
  else
   some ((Out.exit 3), (v2, v4, ()), h))))
noncomputable def f31_l2 (N : Nat) (M : Nat) (v2 : Option (Nat × Nat)) (v3 : Option (Nat × Nat)) (v4 : Bool) (v7 : Int) (h : Heap) : Option (Out × (Option (Nat × Nat) × Bool × Unit) × Heap) := iter (fun go s h => f31_l2_b N (fun v2 v3 v4 v7 h => go (v2, v3, v4, v7, ()) h) s.1 s.2.1 s.2.2.1 s.2.2.2.1 h) M (v2, v3, v4, v7, ()) h
theorem f31_l2_succ (N : Nat) (M : Nat) (v2 : Option (Nat × Nat)) (v3 : Option (Nat × Nat)) (v4 : Bool) (v7 : Int) (h : Heap) : f31_l2 N (M + 1) v2 v3 v4 v7 h = f31_l2_b N (f31_l2 N M) v2 v3 v4 v7 h := rfl
theorem f31_l2_zero (N : Nat) (v2 : Option (Nat × Nat)) (v3 : Option (Nat × Nat)) (v4 : Bool) (v7 : Int) (h : Heap) : f31_l2 N 0 v2 v3 v4 v7 h = none := rfl
noncomputable def f31_l1_b (N : Nat) (go : Option (Nat × Nat) → Option (Nat × Nat) → Bool → SL → Int → Heap → Option (Out × (Option (Nat × Nat) × Option (Nat × Nat) × Bool × Unit) × Heap)) (v2 : Option (Nat × Nat)) (v3 : Option (Nat × Nat)) (v4 : Bool) (v5 : SL) (v6 : Int) (h : Heap) : Option (Out × (Option (Nat × Nat) × Option (Nat × Nat) × Bool × Unit) × Heap) :=
  let x6 : Bool := ltInt v6 (Int.ofNat v5.len)
  (bif x6 then
   (ixK v5.a v5.len v6 4 fun q7 =>
   (bindV (.val (.one (.int .i64))) (h.cell (q7.1, q7.2 + 0)) fun (x8 : Int) =>
   let x9 : Bool := ltInt x8 1
   (bif x9 then
    some (Out.ret, (v2, v3, false, ()), h)
   else
    (ixK v5.a v5.len v6 4 fun q10 =>
    (bindV (.val (.one (.int .i64))) (h.cell (q10.1, q10.2 + 0)) fun (x11 : Int) =>
    let x12 : Bool := ltInt 4 x11
    (bif x12 then
     some (Out.ret, (v2, v3, false, ()), h)
    else
     (ixK v5.a v5.len v6 4 fun q13 =>
     (bindV (.val (.agg [(.int .i64), (.int .i64), (.int .i64), .slice])) (h.cells q13 4) fun (x14 : (Int × Int × Int × SL × Unit)) =>
     (bind2 (f33 N (x14.1, x14.2.1, x14.2.2.1, x14.2.2.2.1, ()) h) fun (x15 : Bool) h16 =>
     (bif x15 then
      (ixK v5.a v5.len v6 4 fun q17 =>
      (bindV (.val (.agg [(.int .i64), .slice])) (h16.cells (q17.1, q17.2 + 2) 2) fun (x18 : (Int × SL × Unit)) =>
      (need v3 fun q19 =>
      (bindV (.val (.agg [(.int .i64), (.int .i64), (.int .i64), .slice, .slice, .slice])) (h16.cells q19 6) fun (x20 : (Int × Int × Int × SL × SL × SL × Unit)) =>
      (bind2 (f32 N (x18.1, x18.2.1, ()) (x20.1, x20.2.1, x20.2.2.1, x20.2.2.2.1, x20.2.2.2.2.1, x20.2.2.2.2.2.1, ()) h16) fun (x21 : Bool) h22 =>
      let x23 : Bool := !x21
      (bif x23 then
       some (Out.ret, (v2, v3, false, ()), h22)
      else
       let x24 : Int := wrapA .i64 (v6 + 1)
       go v2 v3 v4 v5 x24 h22))))))
     else
      let x25 : Int := wrapA .i64 (v6 + 1)
      go v2 v3 v4 v5 x25 h16))))))))))
  else
   some ((Out.exit 0), (v2, v3, v4, ()), h))
noncomputable def f31_l1 (N : Nat) (M : Nat) (v2 : Option (Nat × Nat)) (v3 : Option (Nat × Nat)) (v4 : Bool) (v5 : SL) (v6 : Int) (h : Heap) : Option (Out × (Option (Nat × Nat) × Option (Nat × Nat) × Bool × Unit) × Heap) := iter (fun go s h => f31_l1_b N (fun v2 v3 v4 v5 v6 h => go (v2, v3, v4, v5, v6, ()) h) s.1 s.2.1 s.2.2.1 s.2.2.2.1 s.2.2.2.2.1 h) M (v2, v3, v4, v5, v6, ()) h
theorem f31_l1_succ (N : Nat) (M : Nat) (v2 : Option (Nat × Nat)) (v3 : Option (Nat × Nat)) (v4 : Bool) (v5 : SL) (v6 : Int) (h : Heap) : f31_l1 N (M + 1) v2 v3 v4 v5 v6 h = f31_l1_b N (f31_l1 N M) v2 v3 v4 v5 v6 h := rfl
theorem f31_l1_zero (N : Nat) (v2 : Option (Nat × Nat)) (v3 : Option (Nat × Nat)) (v4 : Bool) (v5 : SL) (v6 : Int) (h : Heap) : f31_l1 N 0 v2 v3 v4 v5 v6 h = none := rfl
noncomputable def f31 (N : Nat) (a0 : (Int × Int × Int × Int × SL × Int × Int × Int × SL × Int × Int × SL × Int × List UInt8 × SL × SL × Unit)) (a1 : (Int × Int × Int × SL × SL × SL × Unit)) (h : Heap) : Option (Bool × Heap) :=
  let h1 : Heap := h.push (.row [(.int .i64 a0.1), (.int .i64 a0.2.1), (.int .i64 a0.2.2.1), (.int .i64 a0.2.2.2.1), (.slice a0.2.2.2.2.1.a a0.2.2.2.2.1.len a0.2.2.2.2.1.cap a0.2.2.2.2.1.sz), (.int .i64 a0.2.2.2.2.2.1), (.int .i64 a0.2.2.2.2.2.2.1), (.int .i64 a0.2.2.2.2.2.2.2.1), (.slice a0.2.2.2.2.2.2.2.2.1.a a0.2.2.2.2.2.2.2.2.1.len a0.2.2.2.2.2.2.2.2.1.cap a0.2.2.2.2.2.2.2.2.1.sz), (.int .i64 a0.2.2.2.2.2.2.2.2.2.1), (.int .i64 a0.2.2.2.2.2.2.2.2.2.2.1), (.slice a0.2.2.2.2.2.2.2.2.2.2.2.1.a a0.2.2.2.2.2.2.2.2.2.2.2.1.len a0.2.2.2.2.2.2.2.2.2.2.2.1.cap a0.2.2.2.2.2.2.2.2.2.2.2.1.sz), (.int .i64 a0.2.2.2.2.2.2.2.2.2.2.2.2.1), (.str a0.2.2.2.2.2.2.2.2.2.2.2.2.2.1), (.slice a0.2.2.2.2.2.2.2.2.2.2.2.2.2.2.1.a a0.2.2.2.2.2.2.2.2.2.2.2.2.2.2.1.len a0.2.2.2.2.2.2.2.2.2.2.2.2.2.2.1.cap a0.2.2.2.2.2.2.2.2.2.2.2.2.2.2.1.sz), (.slice a0.2.2.2.2.2.2.2.2.2.2.2.2.2.2.2.1.a a0.2.2.2.2.2.2.2.2.2.2.2.2.2.2.2.1.len a0.2.2.2.2.2.2.2.2.2.2.2.2.2.2.2.1.cap a0.2.2.2.2.2.2.2.2.2.2.2.2.2.2.2.1.sz)] .own)
  let h2 : Heap := h1.push (.row [(.int .i64 a1.1), (.int .i64 a1.2.1), (.int .i64 a1.2.2.1), (.slice a1.2.2.2.1.a a1.2.2.2.1.len a1.2.2.2.1.cap a1.2.2.2.1.sz), (.slice a1.2.2.2.2.1.a a1.2.2.2.2.1.len a1.2.2.2.2.1.cap a1.2.2.2.2.1.sz), (.slice a1.2.2.2.2.2.1.a a1.2.2.2.2.2.1.len a1.2.2.2.2.2.1.cap a1.2.2.2.2.2.1.sz)] .own)
  (bindV (.val (.agg [(.int .i64), (.int .i64), (.int .i64), (.int .i64), .slice, (.int .i64), (.int .i64), (.int .i64), .slice, (.int .i64), (.int .i64), .slice, (.int .i64), .str, .slice, .slice])) (h2.cells (h.next, 0) 16) fun (x3 : (Int × Int × Int × Int × SL × Int × Int × Int × SL × Int × Int × SL × Int × List UInt8 × SL × SL × Unit)) =>
  (bind2 (f51 N (x3.1, x3.2.1, x3.2.2.1, x3.2.2.2.1, x3.2.2.2.2.1, x3.2.2.2.2.2.1, x3.2.2.2.2.2.2.1, x3.2.2.2.2.2.2.2.1, x3.2.2.2.2.2.2.2.2.1, x3.2.2.2.2.2.2.2.2.2.1, x3.2.2.2.2.2.2.2.2.2.2.1, x3.2.2.2.2.2.2.2.2.2.2.2.1, x3.2.2.2.2.2.2.2.2.2.2.2.2.1, x3.2.2.2.2.2.2.2.2.2.2.2.2.2.1, x3.2.2.2.2.2.2.2.2.2.2.2.2.2.2.1, x3.2.2.2.2.2.2.2.2.2.2.2.2.2.2.2.1, ()) h2) fun (x4 : SL) h5 =>
  (bind3 (f31_l1 N N (some (h.next, 0)) (some (h1.next, 0)) false x4 0 h5) fun o26 (j27 : (Option (Nat × Nat) × Option (Nat × Nat) × Bool × Unit)) h28 =>
  (bif eqOut o26 (.exit 0) then
   (need j27.1 fun q29 =>
   (bindV (.val (.one (.int .i64))) (h28.cell (q29.1, q29.2 + 0)) fun (x30 : Int) =>
   (bind2 (α := (Option (Nat × Nat) × Option (Nat × Nat) × Bool × Int × Bool × Unit)) (
    let x31 : Bool := eqInt x30 2
    (bif x31 then
     some ((j27.1, j27.2.1, j27.2.2.1, x30, x31, ()), h28)
    else
     let x32 : Bool := eqInt x30 3
     some ((j27.1, j27.2.1, j27.2.2.1, x30, x32, ()), h28))) fun (j33 : (Option (Nat × Nat) × Option (Nat × Nat) × Bool × Int × Bool × Unit)) h34 =>
   (bif j33.2.2.2.2.1 then
    (need j33.1 fun q35 =>
    (bindV (.val (.agg [(.int .i64), .slice])) (h34.cells (q35.1, q35.2 + 10) 2) fun (x36 : (Int × SL × Unit)) =>
    (need j33.2.1 fun q37 =>
    (bindV (.val (.agg [(.int .i64), (.int .i64), (.int .i64), .slice, .slice, .slice])) (h34.cells q37 6) fun (x38 : (Int × Int × Int × SL × SL × SL × Unit)) =>
    (bind2 (f32 N (x36.1, x36.2.1, ()) (x38.1, x38.2.1, x38.2.2.1, x38.2.2.2.1, x38.2.2.2.2.1, x38.2.2.2.2.2.1, ()) h34) fun (x39 : Bool) h40 =>
    (bif x39 then
     (need j33.1 fun q41 =>
     (bindV (.val (.one (.int .i64))) (h40.cell (q41.1, q41.2 + 12)) fun (x42 : Int) =>
     let x43 : Bool := leInt 0 x42
     (bif x43 then
      (need j33.1 fun q44 =>
      (bindV (.val (.one (.int .i64))) (h40.cell (q44.1, q44.2 + 12)) fun (x45 : Int) =>
      (need j33.2.1 fun q46 =>
      (bindV (.val (.one (.int .i64))) (h40.cell (q46.1, q46.2 + 2)) fun (x47 : Int) =>
      let x48 : Bool := ltInt x45 x47
      some (x48, h40)))))
     else
      some (false, h40))))
    else
     some (false, h40)))))))
   else
    (bind2 (α := (Option (Nat × Nat) × Option (Nat × Nat) × Bool × Bool × Unit)) (
     let x49 : Bool := eqInt j33.2.2.2.1 6
     (bif x49 then
      some ((j33.1, j33.2.1, j33.2.2.1, x49, ()), h34)
     else
      let x50 : Bool := eqInt j33.2.2.2.1 7
      some ((j33.1, j33.2.1, j33.2.2.1, x50, ()), h34))) fun (j51 : (Option (Nat × Nat) × Option (Nat × Nat) × Bool × Bool × Unit)) h52 =>
    (bif j51.2.2.2.1 then
     (bind3 (f31_l2 N N j51.1 j51.2.1 j51.2.2.1 0 h52) fun o69 (j70 : (Option (Nat × Nat) × Bool × Unit)) h71 =>
     (bif eqOut o69 (.exit 3) then
      (need j70.1 fun q72 =>
      (bindV (.val (.one (.int .i64))) (h71.cell (q72.1, q72.2 + 0)) fun (x73 : Int) =>
      let x74 : Bool := leInt 1 x73
      (bif x74 then
       (need j70.1 fun q75 =>
       (bindV (.val (.one (.int .i64))) (h71.cell (q75.1, q75.2 + 0)) fun (x76 : Int) =>
       let x77 : Bool := leInt x76 7
       some (x77, h71)))
      else
       some (false, h71))))
     else
      some (j70.2.1, h71)))
    else
     (need j51.1 fun q78 =>
     (bindV (.val (.one (.int .i64))) (h52.cell (q78.1, q78.2 + 0)) fun (x79 : Int) =>
     let x80 : Bool := leInt 1 x79
     (bif x80 then
      (need j51.1 fun q81 =>
      (bindV (.val (.one (.int .i64))) (h52.cell (q81.1, q81.2 + 0)) fun (x82 : Int) =>
      let x83 : Bool := leInt x82 7
      some (x83, h52)))
     else
      some (false, h52))))))))))
  else
   some (j27.2.2.1, h28)))))
noncomputable def ann31 : Ann := (.two .n (.two .n (.two (.two .n (.two (.loop [(2, (.one .ptr)), (3, (.one .ptr)), (4, (.one .bool)), (5, (.one .slice)), (6, (.one (.int .i64)))] [(.exit 0), .ret] [(2, (.one .ptr)), (3, (.one .ptr)), (4, (.one .bool))] .n) .n)) (.two (.two .n (.two (.two (.join [(2, (.one .ptr)), (3, (.one .ptr)), (4, (.one .bool)), (48, (.one (.int .i64))), (49, (.one .bool))] .n) (.two .n (.two (.join [(2, (.one .ptr)), (3, (.one .ptr)), (4, (.one .bool)), (68, (.one .bool))] .n) (.two (.two .n (.two (.loop [(2, (.one .ptr)), (3, (.one .ptr)), (4, (.one .bool)), (7, (.one (.int .i64)))] [(.exit 3), .ret] [(2, (.one .ptr)), (4, (.one .bool))] .n) .n)) .n)))) .n)) .n))))
theorem f31_ok (N : Nat) : FnOK Tryd.prog 31 [(.agg [(.int .i64), (.int .i64), (.int .i64), (.int .i64), .slice, (.int .i64), (.int .i64), (.int .i64), .slice, (.int .i64), (.int .i64), .slice, (.int .i64), .str, .slice, .slice]), (.agg [(.int .i64), (.int .i64), (.int .i64), .slice, .slice, .slice])] (.val (.one .bool)) (fun x h => f31 N x.1 x.2.1 h) :=
  runK_ok envOK hmix (addCall_ok (f51_ok N) (addCall_ok (f33_ok N) (addCall_ok (f32_ok N) noCalls_ok))) (N := N) (x := ann31) (fn := Tryd.f31) (c := Tryd.f31.body.getD .skip) (by kernel_rfl) (by kernel_rfl) (by kernel_rfl) (by kernel_rfl) (fun _ _ => by kernel_rfl)

/- usufruct/usufructref16.May -/
noncomputable def f19_l5_b (N : Nat) (go : Option (Nat × Nat) → Bool → Int → Option (Nat × Nat) → Int → Int → Heap → Option (Out × (Option (Nat × Nat) × Bool × Int × Unit) × Heap)) (v1 : Option (Nat × Nat)) (v2 : Bool) (v6 : Int) (v7 : Option (Nat × Nat)) (v8 : Int) (v11 : Int) (h : Heap) : Option (Out × (Option (Nat × Nat) × Bool × Int × Unit) × Heap) :=
  let x135 : Bool := ltInt v11 v8
  (bif x135 then
   (need (α := Sum ((Option (Nat × Nat) × Bool × Int × Option (Nat × Nat) × Int × Int × Unit) × Heap) (Sum ((Option (Nat × Nat) × Bool × Int × Unit) × Heap) (Empty))) (
    (need v7 fun q136 =>
    (bindV (.val (.one .slice)) (h.cell (q136.1, q136.2 + 21)) fun (x137 : SL) =>
    (ixK x137.a x137.len v11 1 fun q138 =>
    (bindV (.val (.one (.int .i64))) (h.cell q138) fun (x139 : Int) =>
    let x140 : Bool := ltInt x139 0
    (bif x140 then
     some (Sum.inr (Sum.inl ((v1, false, v6, ()), h)))
    else
     (need v7 fun q141 =>
     (bindV (.val (.one .slice)) (h.cell (q141.1, q141.2 + 21)) fun (x142 : SL) =>
     (ixK x142.a x142.len v11 1 fun q143 =>
     (bindV (.val (.one (.int .i64))) (h.cell q143) fun (x144 : Int) =>
     (need v1 fun q145 =>
     (bindV (.val (.one .slice)) (h.cell (q145.1, q145.2 + 5)) fun (x146 : SL) =>
     let x147 : Bool := leInt (Int.ofNat x146.len) x144
     (bif x147 then
      some (Sum.inr (Sum.inl ((v1, false, v6, ()), h)))
     else
      some (Sum.inl ((v1, v2, v6, v7, v8, v11, ()), h))))))))))))))) fun j148 =>
   (jcase j148 (fun (j149 : (Option (Nat × Nat) × Bool × Int × Option (Nat × Nat) × Int × Int × Unit)) h150 =>
    let x152 : Int := wrapA .i64 (j149.2.2.2.2.2.1 + 1)
    go j149.1 j149.2.1 j149.2.2.1 j149.2.2.2.1 j149.2.2.2.2.1 x152 h150) fun j151 =>
   (jcase j151 (fun (j153 : (Option (Nat × Nat) × Bool × Int × Unit)) h154 =>
    some (Out.ret, (j153.1, j153.2.1, j153.2.2.1, ()), h154)) fun _ =>
   none)))
  else
   some ((Out.exit 9), (v1, v2, v6, ()), h))
noncomputable def f19_l5 (N : Nat) (M : Nat) (v1 : Option (Nat × Nat)) (v2 : Bool) (v6 : Int) (v7 : Option (Nat × Nat)) (v8 : Int) (v11 : Int) (h : Heap) : Option (Out × (Option (Nat × Nat) × Bool × Int × Unit) × Heap) := iter (fun go s h => f19_l5_b N (fun v1 v2 v6 v7 v8 v11 h => go (v1, v2, v6, v7, v8, v11, ()) h) s.1 s.2.1 s.2.2.1 s.2.2.2.1 s.2.2.2.2.1 s.2.2.2.2.2.1 h) M (v1, v2, v6, v7, v8, v11, ()) h
theorem f19_l5_succ (N : Nat) (M : Nat) (v1 : Option (Nat × Nat)) (v2 : Bool) (v6 : Int) (v7 : Option (Nat × Nat)) (v8 : Int) (v11 : Int) (h : Heap) : f19_l5 N (M + 1) v1 v2 v6 v7 v8 v11 h = f19_l5_b N (f19_l5 N M) v1 v2 v6 v7 v8 v11 h := rfl
theorem f19_l5_zero (N : Nat) (v1 : Option (Nat × Nat)) (v2 : Bool) (v6 : Int) (v7 : Option (Nat × Nat)) (v8 : Int) (v11 : Int) (h : Heap) : f19_l5 N 0 v1 v2 v6 v7 v8 v11 h = none := rfl
noncomputable def f19_l4_b (N : Nat) (go : Option (Nat × Nat) → Bool → Int → Heap → Option (Out × (Bool × Unit) × Heap)) (v1 : Option (Nat × Nat)) (v2 : Bool) (v6 : Int) (h : Heap) : Option (Out × (Bool × Unit) × Heap) :=
  (need v1 fun q70 =>
  (bindV (.val (.one .slice)) (h.cell (q70.1, q70.2 + 5)) fun (x71 : SL) =>
  let x72 : Bool := ltInt v6 (Int.ofNat x71.len)
  (bif x72 then
   (need (α := Sum ((Option (Nat × Nat) × Bool × Int × Unit) × Heap) (Sum ((Bool × Unit) × Heap) (Empty))) (
    (need v1 fun q73 =>
    (bindV (.val (.one .slice)) (h.cell (q73.1, q73.2 + 5)) fun (x74 : SL) =>
    (ixK x74.a x74.len v6 22 fun q75 =>
    (bindV (.val (.agg [(.int .i64), (.int .i64), .bool, (.int .i64), .slice, (.int .i64), (.int .i64), (.int .i64), (.int .i64), .slice, (.int .i64), (.int .i64), (.int .i64), .slice, (.int .i64), (.int .i64), .slice, (.int .i64), .str, .slice, .slice, .slice])) (h.cells q75 22) fun (x76 : (Int × Int × Bool × Int × SL × Int × Int × Int × Int × SL × Int × Int × Int × SL × Int × Int × SL × Int × List UInt8 × SL × SL × SL × Unit)) =>
    let h77 : Heap := h.push (.row [(.int .i64 0), (.int .i64 0), (.bool false), (.int .i64 0), (.slice none 0 0 0), (.int .i64 0), (.int .i64 0), (.int .i64 0), (.int .i64 0), (.slice none 0 0 0), (.int .i64 0), (.int .i64 0), (.int .i64 0), (.slice none 0 0 0), (.int .i64 0), (.int .i64 0), (.slice none 0 0 0), (.int .i64 0), (.str []), (.slice none 0 0 0), (.slice none 0 0 0), (.slice none 0 0 0)] .own)
    (need (h77.store (h.next, 0) [(.int .i64 x76.1), (.int .i64 x76.2.1), (.bool x76.2.2.1), (.int .i64 x76.2.2.2.1), (.slice x76.2.2.2.2.1.a x76.2.2.2.2.1.len x76.2.2.2.2.1.cap x76.2.2.2.2.1.sz), (.int .i64 x76.2.2.2.2.2.1), (.int .i64 x76.2.2.2.2.2.2.1), (.int .i64 x76.2.2.2.2.2.2.2.1), (.int .i64 x76.2.2.2.2.2.2.2.2.1), (.slice x76.2.2.2.2.2.2.2.2.2.1.a x76.2.2.2.2.2.2.2.2.2.1.len x76.2.2.2.2.2.2.2.2.2.1.cap x76.2.2.2.2.2.2.2.2.2.1.sz), (.int .i64 x76.2.2.2.2.2.2.2.2.2.2.1), (.int .i64 x76.2.2.2.2.2.2.2.2.2.2.2.1), (.int .i64 x76.2.2.2.2.2.2.2.2.2.2.2.2.1), (.slice x76.2.2.2.2.2.2.2.2.2.2.2.2.2.1.a x76.2.2.2.2.2.2.2.2.2.2.2.2.2.1.len x76.2.2.2.2.2.2.2.2.2.2.2.2.2.1.cap x76.2.2.2.2.2.2.2.2.2.2.2.2.2.1.sz), (.int .i64 x76.2.2.2.2.2.2.2.2.2.2.2.2.2.2.1), (.int .i64 x76.2.2.2.2.2.2.2.2.2.2.2.2.2.2.2.1), (.slice x76.2.2.2.2.2.2.2.2.2.2.2.2.2.2.2.2.1.a x76.2.2.2.2.2.2.2.2.2.2.2.2.2.2.2.2.1.len x76.2.2.2.2.2.2.2.2.2.2.2.2.2.2.2.2.1.cap x76.2.2.2.2.2.2.2.2.2.2.2.2.2.2.2.2.1.sz), (.int .i64 x76.2.2.2.2.2.2.2.2.2.2.2.2.2.2.2.2.2.1), (.str x76.2.2.2.2.2.2.2.2.2.2.2.2.2.2.2.2.2.2.1), (.slice x76.2.2.2.2.2.2.2.2.2.2.2.2.2.2.2.2.2.2.2.1.a x76.2.2.2.2.2.2.2.2.2.2.2.2.2.2.2.2.2.2.2.1.len x76.2.2.2.2.2.2.2.2.2.2.2.2.2.2.2.2.2.2.2.1.cap x76.2.2.2.2.2.2.2.2.2.2.2.2.2.2.2.2.2.2.2.1.sz), (.slice x76.2.2.2.2.2.2.2.2.2.2.2.2.2.2.2.2.2.2.2.2.1.a x76.2.2.2.2.2.2.2.2.2.2.2.2.2.2.2.2.2.2.2.2.1.len x76.2.2.2.2.2.2.2.2.2.2.2.2.2.2.2.2.2.2.2.2.1.cap x76.2.2.2.2.2.2.2.2.2.2.2.2.2.2.2.2.2.2.2.2.1.sz), (.slice x76.2.2.2.2.2.2.2.2.2.2.2.2.2.2.2.2.2.2.2.2.2.1.a x76.2.2.2.2.2.2.2.2.2.2.2.2.2.2.2.2.2.2.2.2.2.1.len x76.2.2.2.2.2.2.2.2.2.2.2.2.2.2.2.2.2.2.2.2.2.1.cap x76.2.2.2.2.2.2.2.2.2.2.2.2.2.2.2.2.2.2.2.2.2.1.sz)]) fun h78 =>
    (need (α := Sum ((Option (Nat × Nat) × Bool × Int × Option (Nat × Nat) × Int × Bool × Unit) × Heap) (Sum ((Bool × Unit) × Heap) (Empty))) (
     (bindV (.val (.one (.int .i64))) (h78.cell ((h.next, 0).1, (h.next, 0).2 + 0)) fun (x79 : Int) =>
     let x80 : Bool := eqInt x79 1
     (bif x80 then
      (bindV (.val (.agg [(.int .i64), (.int .i64), (.int .i64), (.int .i64), .slice, (.int .i64), (.int .i64), (.int .i64), .slice, (.int .i64), (.int .i64), .slice, (.int .i64), .str, .slice, .slice])) (h78.cells ((h.next, 0).1, (h.next, 0).2 + 5) 16) fun (x81 : (Int × Int × Int × Int × SL × Int × Int × Int × SL × Int × Int × SL × Int × List UInt8 × SL × SL × Unit)) =>
      (need v1 fun q82 =>
      (bindV (.val (.agg [(.int .i64), (.int .i64), (.int .i64), .slice, .slice, .slice])) (h78.cells q82 6) fun (x83 : (Int × Int × Int × SL × SL × SL × Unit)) =>
      (bind2 (f31 N (x81.1, x81.2.1, x81.2.2.1, x81.2.2.2.1, x81.2.2.2.2.1, x81.2.2.2.2.2.1, x81.2.2.2.2.2.2.1, x81.2.2.2.2.2.2.2.1, x81.2.2.2.2.2.2.2.2.1, x81.2.2.2.2.2.2.2.2.2.1, x81.2.2.2.2.2.2.2.2.2.2.1, x81.2.2.2.2.2.2.2.2.2.2.2.1, x81.2.2.2.2.2.2.2.2.2.2.2.2.1, x81.2.2.2.2.2.2.2.2.2.2.2.2.2.1, x81.2.2.2.2.2.2.2.2.2.2.2.2.2.2.1, x81.2.2.2.2.2.2.2.2.2.2.2.2.2.2.2.1, ()) (x83.1, x83.2.1, x83.2.2.1, x83.2.2.2.1, x83.2.2.2.2.1, x83.2.2.2.2.2.1, ()) h78) fun (x84 : Bool) h85 =>
      (bif x84 then
       (bindV (.val (.one .bool)) (h85.cell ((h.next, 0).1, (h.next, 0).2 + 2)) fun (x86 : Bool) =>
       let x87 : Bool := !x86
       (bif x87 then
        some (Sum.inl ((v1, v2, v6, (some (h.next, 0)), 1, true, ()), h85))
       else
        (bindV (.val (.agg [(.int .i64), .slice])) (h85.cells ((h.next, 0).1, (h.next, 0).2 + 3) 2) fun (x88 : (Int × SL × Unit)) =>
        (need v1 fun q89 =>
        (bindV (.val (.agg [(.int .i64), (.int .i64), (.int .i64), .slice, .slice, .slice])) (h85.cells q89 6) fun (x90 : (Int × Int × Int × SL × SL × SL × Unit)) =>
        (bind2 (f32 N (x88.1, x88.2.1, ()) (x90.1, x90.2.1, x90.2.2.1, x90.2.2.2.1, x90.2.2.2.2.1, x90.2.2.2.2.2.1, ()) h85) fun (x91 : Bool) h92 =>
        some (Sum.inl ((v1, v2, v6, (some (h.next, 0)), 1, x91, ()), h92))))))))
      else
       some (Sum.inl ((v1, v2, v6, (some (h.next, 0)), 1, false, ()), h85)))))))
     else
      (bind2 (α := (Option (Nat × Nat) × Bool × Int × Option (Nat × Nat) × Int × Bool × Int × Bool × Unit)) (
       let x93 : Bool := eqInt x79 2
       (bif x93 then
        some ((v1, v2, v6, (some (h.next, 0)), 1, true, x79, x93, ()), h78)
       else
        let x94 : Bool := eqInt x79 3
        some ((v1, v2, v6, (some (h.next, 0)), 1, true, x79, x94, ()), h78))) fun (j95 : (Option (Nat × Nat) × Bool × Int × Option (Nat × Nat) × Int × Bool × Int × Bool × Unit)) h96 =>
      (bif j95.2.2.2.2.2.2.2.1 then
       (need j95.2.2.2.1 fun q97 =>
       (bindV (.val (.agg [(.int .i64), .slice])) (h96.cells (q97.1, q97.2 + 3) 2) fun (x98 : (Int × SL × Unit)) =>
       (need j95.1 fun q99 =>
       (bindV (.val (.agg [(.int .i64), (.int .i64), (.int .i64), .slice, .slice, .slice])) (h96.cells q99 6) fun (x100 : (Int × Int × Int × SL × SL × SL × Unit)) =>
       (bind2 (f32 N (x98.1, x98.2.1, ()) (x100.1, x100.2.1, x100.2.2.1, x100.2.2.2.1, x100.2.2.2.2.1, x100.2.2.2.2.2.1, ()) h96) fun (x101 : Bool) h102 =>
       some (Sum.inl ((j95.1, j95.2.1, j95.2.2.1, j95.2.2.2.1, j95.2.2.2.2.1, x101, ()), h102)))))))
      else
       let x103 : Bool := eqInt j95.2.2.2.2.2.2.1 4
       (bif x103 then
        (need j95.2.2.2.1 fun q104 =>
        (bindV (.val (.agg [(.int .i64), (.int .i64), (.int .i64), .slice])) (h96.cells ((q104.1, q104.2 + 5).1, (q104.1, q104.2 + 5).2 + 1) 4) fun (x105 : (Int × Int × Int × SL × Unit)) =>
        let h106 : Heap := h96.push (.row [(.int .i64 0), (.int .i64 0), (.int .i64 0), (.slice none 0 0 0)] .own)
        (need (h106.store (h96.next, 0) [(.int .i64 x105.1), (.int .i64 x105.2.1), (.int .i64 x105.2.2.1), (.slice x105.2.2.2.1.a x105.2.2.2.1.len x105.2.2.2.1.cap x105.2.2.2.1.sz)]) fun h107 =>
        (bindV (.val (.one (.int .i64))) (h107.cell ((h96.next, 0).1, (h96.next, 0).2 + 0)) fun (x108 : Int) =>
        let x109 : Bool := leInt 1 x108
        (bif x109 then
         (bindV (.val (.one (.int .i64))) (h107.cell ((h96.next, 0).1, (h96.next, 0).2 + 0)) fun (x110 : Int) =>
         let x111 : Bool := leInt x110 4
         (bif x111 then
          (bindV (.val (.agg [(.int .i64), (.int .i64), (.int .i64), .slice])) (h107.cells (h96.next, 0) 4) fun (x112 : (Int × Int × Int × SL × Unit)) =>
          (bind2 (f33 N (x112.1, x112.2.1, x112.2.2.1, x112.2.2.2.1, ()) h107) fun (x113 : Bool) h114 =>
          let x115 : Bool := !x113
          (bif x115 then
           some (Sum.inl ((j95.1, j95.2.1, j95.2.2.1, j95.2.2.2.1, 2, true, ()), h114))
          else
           (bindV (.val (.agg [(.int .i64), .slice])) (h114.cells ((h96.next, 0).1, (h96.next, 0).2 + 2) 2) fun (x116 : (Int × SL × Unit)) =>
           (need j95.1 fun q117 =>
           (bindV (.val (.agg [(.int .i64), (.int .i64), (.int .i64), .slice, .slice, .slice])) (h114.cells q117 6) fun (x118 : (Int × Int × Int × SL × SL × SL × Unit)) =>
           (bind2 (f32 N (x116.1, x116.2.1, ()) (x118.1, x118.2.1, x118.2.2.1, x118.2.2.2.1, x118.2.2.2.2.1, x118.2.2.2.2.2.1, ()) h114) fun (x119 : Bool) h120 =>
           some (Sum.inl ((j95.1, j95.2.1, j95.2.2.1, j95.2.2.2.1, 2, x119, ()), h120)))))))))
         else
          some (Sum.inl ((j95.1, j95.2.1, j95.2.2.1, j95.2.2.2.1, 2, false, ()), h107))))
        else
         some (Sum.inl ((j95.1, j95.2.1, j95.2.2.1, j95.2.2.2.1, 2, false, ()), h107)))))))
       else
        let x121 : Bool := eqInt j95.2.2.2.2.2.2.1 5
        (bif x121 then
         some (Sum.inl ((j95.1, j95.2.1, j95.2.2.1, j95.2.2.2.1, j95.2.2.2.2.1, j95.2.2.2.2.2.1, ()), h96))
        else
         let x122 : Bool := eqInt j95.2.2.2.2.2.2.1 6
         (bif x122 then
          some (Sum.inl ((j95.1, j95.2.1, j95.2.2.1, j95.2.2.2.1, 0, j95.2.2.2.2.2.1, ()), h96))
         else
          some (Sum.inr (Sum.inl ((false, ()), h96))))))))))) fun j123 =>
    (jcase j123 (fun (j124 : (Option (Nat × Nat) × Bool × Int × Option (Nat × Nat) × Int × Bool × Unit)) h125 =>
     (need (α := Sum ((Option (Nat × Nat) × Bool × Int × Option (Nat × Nat) × Int × Unit) × Heap) (Sum ((Bool × Unit) × Heap) (Empty))) (
      let x127 : Bool := !j124.2.2.2.2.2.1
      (bif x127 then
       some (Sum.inr (Sum.inl ((false, ()), h125)))
      else
       (need j124.2.2.2.1 fun q128 =>
       (bindV (.val (.one .slice)) (h125.cell (q128.1, q128.2 + 21)) fun (x129 : SL) =>
       let x130 : Bool := !eqInt (Int.ofNat x129.len) j124.2.2.2.2.1
       (bif x130 then
        some (Sum.inr (Sum.inl ((false, ()), h125)))
       else
        some (Sum.inl ((j124.1, j124.2.1, j124.2.2.1, j124.2.2.2.1, j124.2.2.2.2.1, ()), h125))))))) fun j131 =>
     (jcase j131 (fun (j132 : (Option (Nat × Nat) × Bool × Int × Option (Nat × Nat) × Int × Unit)) h133 =>
      (bind3 (f19_l5 N N j132.1 j132.2.1 j132.2.2.1 j132.2.2.2.1 j132.2.2.2.2.1 0 h133) fun o156 (j157 : (Option (Nat × Nat) × Bool × Int × Unit)) h158 =>
      (bif eqOut o156 (.exit 9) then
       some (Sum.inl ((j157.1, j157.2.1, j157.2.2.1, ()), h158))
      else
       some (Sum.inr (Sum.inl ((j157.2.1, ()), h158)))))) fun j134 =>
     (jcase j134 (fun (j159 : (Bool × Unit)) h160 =>
      some (Sum.inr (Sum.inl ((j159.1, ()), h160)))) fun _ =>
     none)))) fun j126 =>
    (jcase j126 (fun (j162 : (Bool × Unit)) h163 =>
     some (Sum.inr (Sum.inl ((j162.1, ()), h163)))) fun _ =>
    none))))))))) fun j165 =>
   (jcase j165 (fun (j166 : (Option (Nat × Nat) × Bool × Int × Unit)) h167 =>
    let x169 : Int := wrapA .i64 (j166.2.2.1 + 1)
    go j166.1 j166.2.1 x169 h167) fun j168 =>
   (jcase j168 (fun (j170 : (Bool × Unit)) h171 =>
    some (Out.ret, (j170.1, ()), h171)) fun _ =>
   none)))
  else
   some ((Out.exit 6), (v2, ()), h))))
noncomputable def f19_l4 (N : Nat) (M : Nat) (v1 : Option (Nat × Nat)) (v2 : Bool) (v6 : Int) (h : Heap) : Option (Out × (Bool × Unit) × Heap) := iter (fun go s h => f19_l4_b N (fun v1 v2 v6 h => go (v1, v2, v6, ()) h) s.1 s.2.1 s.2.2.1 h) M (v1, v2, v6, ()) h
theorem f19_l4_succ (N : Nat) (M : Nat) (v1 : Option (Nat × Nat)) (v2 : Bool) (v6 : Int) (h : Heap) : f19_l4 N (M + 1) v1 v2 v6 h = f19_l4_b N (f19_l4 N M) v1 v2 v6 h := rfl
theorem f19_l4_zero (N : Nat) (v1 : Option (Nat × Nat)) (v2 : Bool) (v6 : Int) (h : Heap) : f19_l4 N 0 v1 v2 v6 h = none := rfl
noncomputable def f19_l3_b (N : Nat) (go : Option (Nat × Nat) → Bool → Int → Heap → Option (Out × (Option (Nat × Nat) × Bool × Unit) × Heap)) (v1 : Option (Nat × Nat)) (v2 : Bool) (v5 : Int) (h : Heap) : Option (Out × (Option (Nat × Nat) × Bool × Unit) × Heap) :=
  (need v1 fun q54 =>
  (bindV (.val (.one .slice)) (h.cell (q54.1, q54.2 + 4)) fun (x55 : SL) =>
  let x56 : Bool := ltInt v5 (Int.ofNat x55.len)
  (bif x56 then
   (need v1 fun q57 =>
   (bindV (.val (.one .slice)) (h.cell (q57.1, q57.2 + 4)) fun (x58 : SL) =>
   (ixK x58.a x58.len v5 6 fun q59 =>
   (bindV (.val (.agg [(.int .i64), .str, .slice, .slice])) (h.cells (q59.1, q59.2 + 1) 4) fun (x60 : (Int × List UInt8 × SL × SL × Unit)) =>
   (need v1 fun q61 =>
   (bindV (.val (.one (.int .i64))) (h.cell (q61.1, q61.2 + 2)) fun (x62 : Int) =>
   (bind2 (f30 N N (x60.1, x60.2.1, x60.2.2.1, x60.2.2.2.1, ()) x62 1 h) fun (x63 : Bool) h64 =>
   let x65 : Bool := !x63
   (bif x65 then
    some (Out.ret, (v1, false, ()), h64)
   else
    let x66 : Int := wrapA .i64 (v5 + 1)
    go v1 v2 x66 h64))))))))
  else
   some ((Out.exit 4), (v1, v2, ()), h))))
noncomputable def f19_l3 (N : Nat) (M : Nat) (v1 : Option (Nat × Nat)) (v2 : Bool) (v5 : Int) (h : Heap) : Option (Out × (Option (Nat × Nat) × Bool × Unit) × Heap) := iter (fun go s h => f19_l3_b N (fun v1 v2 v5 h => go (v1, v2, v5, ()) h) s.1 s.2.1 s.2.2.1 h) M (v1, v2, v5, ()) h
theorem f19_l3_succ (N : Nat) (M : Nat) (v1 : Option (Nat × Nat)) (v2 : Bool) (v5 : Int) (h : Heap) : f19_l3 N (M + 1) v1 v2 v5 h = f19_l3_b N (f19_l3 N M) v1 v2 v5 h := rfl
theorem f19_l3_zero (N : Nat) (v1 : Option (Nat × Nat)) (v2 : Bool) (v5 : Int) (h : Heap) : f19_l3 N 0 v1 v2 v5 h = none := rfl
noncomputable def f19_l2_b (N : Nat) (go : Option (Nat × Nat) → Bool → Int → Int → Heap → Option (Out × (Option (Nat × Nat) × Bool × Int × Unit) × Heap)) (v1 : Option (Nat × Nat)) (v2 : Bool) (v3 : Int) (v4 : Int) (h : Heap) : Option (Out × (Option (Nat × Nat) × Bool × Int × Unit) × Heap) :=
  let x24 : Bool := ltInt v4 2
  (bif x24 then
   (need (α := Sum ((Option (Nat × Nat) × Bool × Int × Int × Unit) × Heap) (Sum ((Option (Nat × Nat) × Bool × Int × Unit) × Heap) (Empty))) (
    (need v1 fun q25 =>
    (bindV (.val (.one .slice)) (h.cell (q25.1, q25.2 + 3)) fun (x26 : SL) =>
    (ixK x26.a x26.len v3 2 fun q27 =>
    (ixK (some q27) 2 v4 1 fun q28 =>
    (bindV (.val (.one (.int .i64))) (h.cell q28) fun (x29 : Int) =>
    let x30 : Bool := ltInt x29 0
    (bif x30 then
     some (Sum.inr (Sum.inl ((v1, false, v3, ()), h)))
    else
     (need v1 fun q31 =>
     (bindV (.val (.one .slice)) (h.cell (q31.1, q31.2 + 3)) fun (x32 : SL) =>
     (ixK x32.a x32.len v3 2 fun q33 =>
     (ixK (some q33) 2 v4 1 fun q34 =>
     (bindV (.val (.one (.int .i64))) (h.cell q34) fun (x35 : Int) =>
     (need v1 fun q36 =>
     (bindV (.val (.one (.int .i64))) (h.cell (q36.1, q36.2 + 1)) fun (x37 : Int) =>
     let x38 : Bool := leInt x37 x35
     (bif x38 then
      some (Sum.inr (Sum.inl ((v1, false, v3, ()), h)))
     else
      some (Sum.inl ((v1, v2, v3, v4, ()), h))))))))))))))))) fun j39 =>
   (jcase j39 (fun (j40 : (Option (Nat × Nat) × Bool × Int × Int × Unit)) h41 =>
    let x43 : Int := wrapA .i64 (j40.2.2.2.1 + 1)
    go j40.1 j40.2.1 j40.2.2.1 x43 h41) fun j42 =>
   (jcase j42 (fun (j44 : (Option (Nat × Nat) × Bool × Int × Unit)) h45 =>
    some (Out.ret, (j44.1, j44.2.1, j44.2.2.1, ()), h45)) fun _ =>
   none)))
  else
   some ((Out.exit 2), (v1, v2, v3, ()), h))
noncomputable def f19_l2 (N : Nat) (M : Nat) (v1 : Option (Nat × Nat)) (v2 : Bool) (v3 : Int) (v4 : Int) (h : Heap) : Option (Out × (Option (Nat × Nat) × Bool × Int × Unit) × Heap) := iter (fun go s h => f19_l2_b N (fun v1 v2 v3 v4 h => go (v1, v2, v3, v4, ()) h) s.1 s.2.1 s.2.2.1 s.2.2.2.1 h) M (v1, v2, v3, v4, ()) h
theorem f19_l2_succ (N : Nat) (M : Nat) (v1 : Option (Nat × Nat)) (v2 : Bool) (v3 : Int) (v4 : Int) (h : Heap) : f19_l2 N (M + 1) v1 v2 v3 v4 h = f19_l2_b N (f19_l2 N M) v1 v2 v3 v4 h := rfl
theorem f19_l2_zero (N : Nat) (v1 : Option (Nat × Nat)) (v2 : Bool) (v3 : Int) (v4 : Int) (h : Heap) : f19_l2 N 0 v1 v2 v3 v4 h = none := rfl
noncomputable def f19_l1_b (N : Nat) (go : Option (Nat × Nat) → Bool → Int → Heap → Option (Out × (Option (Nat × Nat) × Bool × Unit) × Heap)) (v1 : Option (Nat × Nat)) (v2 : Bool) (v3 : Int) (h : Heap) : Option (Out × (Option (Nat × Nat) × Bool × Unit) × Heap) :=
  (need v1 fun q21 =>
  (bindV (.val (.one .slice)) (h.cell (q21.1, q21.2 + 3)) fun (x22 : SL) =>
  let x23 : Bool := ltInt v3 (Int.ofNat x22.len)
  (bif x23 then
   (bind3 (f19_l2 N N v1 v2 v3 0 h) fun o47 (j48 : (Option (Nat × Nat) × Bool × Int × Unit)) h49 =>
   (bif eqOut o47 (.exit 2) then
    let x50 : Int := wrapA .i64 (j48.2.2.1 + 1)
    go j48.1 j48.2.1 x50 h49
   else
    some (Out.ret, (j48.1, j48.2.1, ()), h49)))
  else
   some ((Out.exit 0), (v1, v2, ()), h))))
noncomputable def f19_l1 (N : Nat) (M : Nat) (v1 : Option (Nat × Nat)) (v2 : Bool) (v3 : Int) (h : Heap) : Option (Out × (Option (Nat × Nat) × Bool × Unit) × Heap) := iter (fun go s h => f19_l1_b N (fun v1 v2 v3 h => go (v1, v2, v3, ()) h) s.1 s.2.1 s.2.2.1 h) M (v1, v2, v3, ()) h
theorem f19_l1_succ (N : Nat) (M : Nat) (v1 : Option (Nat × Nat)) (v2 : Bool) (v3 : Int) (h : Heap) : f19_l1 N (M + 1) v1 v2 v3 h = f19_l1_b N (f19_l1 N M) v1 v2 v3 h := rfl
theorem f19_l1_zero (N : Nat) (v1 : Option (Nat × Nat)) (v2 : Bool) (v3 : Int) (h : Heap) : f19_l1 N 0 v1 v2 v3 h = none := rfl
noncomputable def f19 (N : Nat) (a0 : (Int × Int × Int × SL × SL × SL × Unit)) (h : Heap) : Option (Bool × Heap) :=
  let h1 : Heap := h.push (.row [(.int .i64 a0.1), (.int .i64 a0.2.1), (.int .i64 a0.2.2.1), (.slice a0.2.2.2.1.a a0.2.2.2.1.len a0.2.2.2.1.cap a0.2.2.2.1.sz), (.slice a0.2.2.2.2.1.a a0.2.2.2.2.1.len a0.2.2.2.2.1.cap a0.2.2.2.2.1.sz), (.slice a0.2.2.2.2.2.1.a a0.2.2.2.2.2.1.len a0.2.2.2.2.2.1.cap a0.2.2.2.2.2.1.sz)] .own)
  (need (α := Sum ((Option (Nat × Nat) × Bool × Unit) × Heap) (Sum ((Bool × Unit) × Heap) (Empty))) (
   (bindV (.val (.one (.int .i64))) (h1.cell ((h.next, 0).1, (h.next, 0).2 + 1)) fun (x2 : Int) =>
   let x3 : Bool := ltInt x2 0
   (bif x3 then
    some (Sum.inr (Sum.inl ((false, ()), h1)))
   else
    (bindV (.val (.one (.int .i64))) (h1.cell ((h.next, 0).1, (h.next, 0).2 + 1)) fun (x4 : Int) =>
    (bindV (.val (.one (.int .i64))) (h1.cell ((h.next, 0).1, (h.next, 0).2 + 2)) fun (x5 : Int) =>
    let x6 : Bool := ltInt x5 x4
    (bif x6 then
     some (Sum.inr (Sum.inl ((false, ()), h1)))
    else
     (bindV (.val (.one (.int .i64))) (h1.cell ((h.next, 0).1, (h.next, 0).2 + 2)) fun (x7 : Int) =>
     let x8 : Bool := ltInt 1048576 x7
     (bif x8 then
      some (Sum.inr (Sum.inl ((false, ()), h1)))
     else
      (bindV (.val (.one .slice)) (h1.cell ((h.next, 0).1, (h.next, 0).2 + 4)) fun (x9 : SL) =>
      let x10 : Bool := ltInt (Int.ofNat x9.len) 1
      (bif x10 then
       some (Sum.inr (Sum.inl ((false, ()), h1)))
      else
       (bindV (.val (.one .slice)) (h1.cell ((h.next, 0).1, (h.next, 0).2 + 4)) fun (x11 : SL) =>
       let x12 : Bool := ltInt 6000 (Int.ofNat x11.len)
       (bif x12 then
        some (Sum.inr (Sum.inl ((false, ()), h1)))
       else
        (bindV (.val (.one .slice)) (h1.cell ((h.next, 0).1, (h.next, 0).2 + 5)) fun (x13 : SL) =>
        let x14 : Bool := ltInt (Int.ofNat x13.len) 1
        (bif x14 then
         some (Sum.inr (Sum.inl ((false, ()), h1)))
        else
         (bindV (.val (.one .slice)) (h1.cell ((h.next, 0).1, (h.next, 0).2 + 5)) fun (x15 : SL) =>
         let x16 : Bool := ltInt 6000 (Int.ofNat x15.len)
         (bif x16 then
          some (Sum.inr (Sum.inl ((false, ()), h1)))
         else
          some (Sum.inl (((some (h.next, 0)), false, ()), h1)))))))))))))))))) fun j17 =>
  (jcase j17 (fun (j18 : (Option (Nat × Nat) × Bool × Unit)) h19 =>
   (bind3 (f19_l1 N N j18.1 j18.2.1 0 h19) fun o51 (j52 : (Option (Nat × Nat) × Bool × Unit)) h53 =>
   (bif eqOut o51 (.exit 0) then
    (bind3 (f19_l3 N N j52.1 j52.2.1 0 h53) fun o67 (j68 : (Option (Nat × Nat) × Bool × Unit)) h69 =>
    (bif eqOut o67 (.exit 4) then
     (bind3 (f19_l4 N N j68.1 j68.2.1 0 h69) fun o173 (j174 : (Bool × Unit)) h175 =>
     (bif eqOut o173 (.exit 6) then
      some (true, h175)
     else
      some (j174.1, h175)))
    else
     some (j68.2.1, h69)))
   else
    some (j52.2.1, h53)))) fun j20 =>
  (jcase j20 (fun (j176 : (Bool × Unit)) h177 =>
   some (j176.1, h177)) fun _ =>
  none)))
noncomputable def ann19 : Ann := (.two .n (.two (.joinO [(.norm, [(1, (.one .ptr)), (2, (.one .bool))]), (.ret, [(2, (.one .bool))])] .n) (.two (.two .n (.two (.loop [(1, (.one .ptr)), (2, (.one .bool)), (3, (.one (.int .i64)))] [(.exit 0), .ret] [(1, (.one .ptr)), (2, (.one .bool))] (.two .n (.two (.two (.two .n (.two (.loop [(1, (.one .ptr)), (2, (.one .bool)), (3, (.one (.int .i64))), (4, (.one (.int .i64)))] [(.exit 2), .ret] [(1, (.one .ptr)), (2, (.one .bool)), (3, (.one (.int .i64)))] (.two .n (.two (.joinO [(.norm, [(1, (.one .ptr)), (2, (.one .bool)), (3, (.one (.int .i64))), (4, (.one (.int .i64)))]), (.ret, [(1, (.one .ptr)), (2, (.one .bool)), (3, (.one (.int .i64)))])] .n) .n))) .n)) .n) .n))) .n)) (.two (.two .n (.two (.loop [(1, (.one .ptr)), (2, (.one .bool)), (5, (.one (.int .i64)))] [(.exit 4), .ret] [(1, (.one .ptr)), (2, (.one .bool))] .n) .n)) (.two (.two .n (.two (.loop [(1, (.one .ptr)), (2, (.one .bool)), (6, (.one (.int .i64)))] [(.exit 6), .ret] [(2, (.one .bool))] (.two .n (.two (.joinO [(.norm, [(1, (.one .ptr)), (2, (.one .bool)), (6, (.one (.int .i64)))]), (.ret, [(2, (.one .bool))])] (.two (.two .n (.two .n (.two .n (.two (.joinO [(.norm, [(1, (.one .ptr)), (2, (.one .bool)), (6, (.one (.int .i64))), (7, (.one .ptr)), (8, (.one (.int .i64))), (9, (.one .bool))]), (.ret, [(2, (.one .bool))])] (.two .n (.two (.two .n (.two .n (.two (.join [(1, (.one .ptr)), (2, (.one .bool)), (6, (.one (.int .i64))), (7, (.one .ptr)), (8, (.one (.int .i64))), (9, (.one .bool)), (112, (.one (.int .i64))), (130, (.one .bool))] .n) .n))) .n))) (.two (.joinO [(.norm, [(1, (.one .ptr)), (2, (.one .bool)), (6, (.one (.int .i64))), (7, (.one .ptr)), (8, (.one (.int .i64)))]), (.ret, [(2, (.one .bool))])] .n) (.two .n (.two (.loop [(1, (.one .ptr)), (2, (.one .bool)), (6, (.one (.int .i64))), (7, (.one .ptr)), (8, (.one (.int .i64))), (11, (.one (.int .i64)))] [(.exit 9), .ret] [(1, (.one .ptr)), (2, (.one .bool)), (6, (.one (.int .i64)))] (.two .n (.two (.joinO [(.norm, [(1, (.one .ptr)), (2, (.one .bool)), (6, (.one (.int .i64))), (7, (.one .ptr)), (8, (.one (.int .i64))), (11, (.one (.int .i64)))]), (.ret, [(1, (.one .ptr)), (2, (.one .bool)), (6, (.one (.int .i64)))])] .n) .n))) .n))))))) .n)) .n))) .n)) .n)))))
theorem f19_ok (N : Nat) : FnOK Tryd.prog 19 [(.agg [(.int .i64), (.int .i64), (.int .i64), .slice, .slice, .slice])] (.val (.one .bool)) (fun x h => f19 N x.1 h) :=
  runK_ok envOK hmix (addCall_ok (f33_ok N) (addCall_ok (f32_ok N) (addCall_ok (f31_ok N) (addCall_ok (f30_ok N) noCalls_ok)))) (N := N) (x := ann19) (fn := Tryd.f19) (c := Tryd.f19.body.getD .skip) (by kernel_rfl) (by kernel_rfl) (by kernel_rfl) (by kernel_rfl) (fun _ _ => by kernel_rfl)

/- usufruct/usufructlaw16.told -/
noncomputable def f6 (N : Nat) (h : Heap) : Option (Bool × Heap) := some (true, h)
theorem f6_ok (N : Nat) : FnOK Tryd.prog 6 [] (.val (.one .bool)) (fun _ h => f6 N h) :=
  fnOK_told envOK (fn := Tryd.f6) (by kernel_rfl) (by kernel_rfl) (calls_true envOK hmix natOK (fn := Tryd.f6) (by kernel_rfl) (by kernel_rfl) (args := []) VRs.nil (n := 1000) (by kernel_rfl))

/- usufruct/mir.within -/
noncomputable def f34 (N : Nat) (a0 : Int) (a1 : Int) (h : Heap) : Option (Bool × Heap) :=
  let x1 : Bool := leInt 0 a0
  (bif x1 then
   let x2 : Bool := ltInt a0 a1
   some (x2, h)
  else
   some (false, h))
noncomputable def ann34 : Ann := .n
theorem f34_ok (N : Nat) : FnOK Tryd.prog 34 [(.one (.int .i64)), (.one (.int .i64))] (.val (.one .bool)) (fun x h => f34 N x.1 x.2.1 h) :=
  runK_ok envOK hmix noCalls_ok (N := N) (x := ann34) (fn := Tryd.f34) (c := Tryd.f34.body.getD .skip) (by kernel_rfl) (by kernel_rfl) (by kernel_rfl) (by kernel_rfl) (fun _ _ => by kernel_rfl)

/- usufruct/mir.all$1 -/
noncomputable def f53 (N : Nat) (a0 : Int) (a1 : Option (Nat × Nat)) (h : Heap) : Option (Bool × Heap) :=
  (need a1 fun q1 =>
  (bindV (.val (.one (.int .i64))) (h.cell q1) fun (x2 : Int) =>
  (bind2 (f34 N a0 x2 h) fun (x3 : Bool) h4 =>
  let x5 : Bool := !x3
  some (x5, h4))))
noncomputable def ann53 : Ann := .n
theorem f53_ok (N : Nat) : FnOK Tryd.prog 53 [(.one (.int .i64)), (.one .ptr)] (.val (.one .bool)) (fun x h => f53 N x.1 x.2.1 h) :=
  runK_ok envOK hmix (addCall_ok (f34_ok N) noCalls_ok) (N := N) (x := ann53) (fn := Tryd.f53) (c := Tryd.f53.body.getD .skip) (by kernel_rfl) (by kernel_rfl) (by kernel_rfl) (by kernel_rfl) (fun _ _ => by kernel_rfl)

/- slices.IndexFunc[[]int,int], given usufruct/mir.all$1 -/
noncomputable def f65c53_l1_b (N : Nat) (go : SL → (Option (Nat × Nat) × Unit) → Int → Int → Int → Heap → Option (Out × (Int × Unit) × Heap)) (v0 : SL) (v1 : (Option (Nat × Nat) × Unit)) (v4 : Int) (v7 : Int) (v8 : Int) (h : Heap) : Option (Out × (Int × Unit) × Heap) :=
  let x1 : Bool := ltInt v8 v7
  (bif x1 then
   (ixK v0.a v0.len v8 1 fun q2 =>
   (bindV (.val (.one (.int .i64))) (h.cell q2) fun (x3 : Int) =>
   (bind2 (f53 N x3 v1.1 h) fun (x4 : Bool) h5 =>
   (bif x4 then
    some (Out.ret, (v8, ()), h5)
   else
    let x6 : Int := wrapA .i64 (v8 + 1)
    go v0 (v1.1, ()) v4 v7 x6 h5))))
  else
   some ((Out.exit 0), (v4, ()), h))
noncomputable def f65c53_l1 (N : Nat) (M : Nat) (v0 : SL) (v1 : (Option (Nat × Nat) × Unit)) (v4 : Int) (v7 : Int) (v8 : Int) (h : Heap) : Option (Out × (Int × Unit) × Heap) := iter (fun go s h => f65c53_l1_b N (fun v0 v1 v4 v7 v8 h => go (v0, v1, v4, v7, v8, ()) h) s.1 s.2.1 s.2.2.1 s.2.2.2.1 s.2.2.2.2.1 h) M (v0, v1, v4, v7, v8, ()) h
theorem f65c53_l1_succ (N : Nat) (M : Nat) (v0 : SL) (v1 : (Option (Nat × Nat) × Unit)) (v4 : Int) (v7 : Int) (v8 : Int) (h : Heap) : f65c53_l1 N (M + 1) v0 v1 v4 v7 v8 h = f65c53_l1_b N (f65c53_l1 N M) v0 v1 v4 v7 v8 h := rfl
theorem f65c53_l1_zero (N : Nat) (v0 : SL) (v1 : (Option (Nat × Nat) × Unit)) (v4 : Int) (v7 : Int) (v8 : Int) (h : Heap) : f65c53_l1 N 0 v0 v1 v4 v7 v8 h = none := rfl
noncomputable def f65c53 (N : Nat) (a0 : SL) (a1 : (Option (Nat × Nat) × Unit)) (h : Heap) : Option (Int × Heap) :=
  (bind3 (f65c53_l1 N N a0 (a1.1, ()) 0 (Int.ofNat a0.len) 0 h) fun o7 (j8 : (Int × Unit)) h9 =>
  (bif eqOut o7 (.exit 0) then
   some ((-1), h9)
  else
   some (j8.1, h9)))
noncomputable def ann65c53 : Ann := (.two .n (.two (.two .n (.two (.loop [(0, (.one .slice)), (1, (.clo 53 [.ptr])), (4, (.one (.int .i64))), (7, (.one (.int .i64))), (8, (.one (.int .i64)))] [(.exit 0), .ret] [(4, (.one (.int .i64)))] .n) .n)) .n))
theorem f65c53_ok (N : Nat) : FnOK Tryd.prog 65 [(.one .slice), (.clo 53 [.ptr])] (.val (.one (.int .i64))) (fun x h => f65c53 N x.1 x.2.1 h) :=
  runK_ok envOK hmix (addCall_ok (f53_ok N) noCalls_ok) (N := N) (x := ann65c53) (fn := Tryd.f65) (c := Tryd.f65.body.getD .skip) (by kernel_rfl) (by kernel_rfl) (by kernel_rfl) (by kernel_rfl) (fun _ _ => by kernel_rfl)

/- slices.ContainsFunc[[]int,int], given usufruct/mir.all$1 -/
noncomputable def f52c53 (N : Nat) (a0 : SL) (a1 : (Option (Nat × Nat) × Unit)) (h : Heap) : Option (Bool × Heap) :=
  (bind2 (f65c53 N a0 (a1.1, ()) h) fun (x1 : Int) h2 =>
  let x3 : Bool := leInt 0 x1
  some (x3, h2))
noncomputable def ann52c53 : Ann := .n
theorem f52c53_ok (N : Nat) : FnOK Tryd.prog 52 [(.one .slice), (.clo 53 [.ptr])] (.val (.one .bool)) (fun x h => f52c53 N x.1 x.2.1 h) :=
  runK_ok envOK hmix (addCallS_ok (sel := fun a => isClo 1 53 a) (f65c53_ok N) noCalls_ok) (N := N) (x := ann52c53) (fn := Tryd.f52) (c := Tryd.f52.body.getD .skip) (by kernel_rfl) (by kernel_rfl) (by kernel_rfl) (by kernel_rfl) (fun _ _ => by kernel_rfl)

/- usufruct/mir.all -/
noncomputable def f35 (N : Nat) (a0 : SL) (a1 : Int) (h : Heap) : Option (Bool × Heap) :=
  let h1 : Heap := h.push (.row [(.int .i64 a1)] .own)
  (bind2 (f52c53 N a0 ((some (h.next, 0)), ()) h1) fun (x2 : Bool) h3 =>
  let x4 : Bool := !x2
  some (x4, h3))
noncomputable def ann35 : Ann := .n
theorem f35_ok (N : Nat) : FnOK Tryd.prog 35 [(.one .slice), (.one (.int .i64))] (.val (.one .bool)) (fun x h => f35 N x.1 x.2.1 h) :=
  runK_ok envOK hmix (addCallS_ok (sel := fun a => isClo 1 53 a) (f52c53_ok N) noCalls_ok) (N := N) (x := ann35) (fn := Tryd.f35) (c := Tryd.f35.body.getD .skip) (by kernel_rfl) (by kernel_rfl) (by kernel_rfl) (by kernel_rfl) (fun _ _ => by kernel_rfl)

/- usufruct/mir.kind -/
noncomputable def f36_r (N : Nat) (rec36 : (Int × List UInt8 × SL × SL × Unit) → Int → Int → Heap → Option (Bool × Heap)) (a0 : (Int × List UInt8 × SL × SL × Unit)) (a1 : Int) (a2 : Int) (h : Heap) : Option (Bool × Heap) :=
  let h1 : Heap := h.push (.row [(.int .i64 a0.1), (.str a0.2.1), (.slice a0.2.2.1.a a0.2.2.1.len a0.2.2.1.cap a0.2.2.1.sz), (.slice a0.2.2.2.1.a a0.2.2.2.1.len a0.2.2.2.1.cap a0.2.2.2.1.sz)] .own)
  let x2 : Bool := ltInt 64 a2
  (bif x2 then
   some (false, h1)
  else
   (bindV (.val (.one .slice)) (h1.cell ((h.next, 0).1, (h.next, 0).2 + 2)) fun (x3 : SL) =>
   (bind2 (f35 N x3 a1 h1) fun (x4 : Bool) h5 =>
   let x6 : Bool := !x4
   (bif x6 then
    some (false, h5)
   else
    (bindV (.val (.one (.int .i64))) (h5.cell ((h.next, 0).1, (h.next, 0).2 + 0)) fun (x7 : Int) =>
    let x8 : Bool := eqInt x7 4
    (bif x8 then
     (bindV (.val (.one .slice)) (h5.cell ((h.next, 0).1, (h.next, 0).2 + 3)) fun (x9 : SL) =>
     let x10 : Bool := eqInt (Int.ofNat x9.len) 1
     (bif x10 then
      (bindV (.val (.one .slice)) (h5.cell ((h.next, 0).1, (h.next, 0).2 + 2)) fun (x11 : SL) =>
      let x12 : Bool := eqInt (Int.ofNat x11.len) 1
      (bif x12 then
       (bindV (.val (.one .slice)) (h5.cell ((h.next, 0).1, (h.next, 0).2 + 3)) fun (x13 : SL) =>
       (ixK x13.a x13.len 0 4 fun q14 =>
       (bindV (.val (.agg [(.int .i64), .str, .slice, .slice])) (h5.cells q14 4) fun (x15 : (Int × List UInt8 × SL × SL × Unit)) =>
       let x16 : Int := wrapA .i64 (a2 + 1)
       (bind2 (rec36 (x15.1, x15.2.1, x15.2.2.1, x15.2.2.2.1, ()) a1 x16 h5) fun (x17 : Bool) h18 =>
       some (x17, h18)))))
      else
       some (false, h5)))
     else
      some (false, h5)))
    else
     let x19 : Bool := eqInt x7 5
     (bif x19 then
      (bindV (.val (.one .slice)) (h5.cell ((h.next, 0).1, (h.next, 0).2 + 3)) fun (x20 : SL) =>
      let x21 : Bool := eqInt (Int.ofNat x20.len) 1
      (bif x21 then
       (bindV (.val (.one .slice)) (h5.cell ((h.next, 0).1, (h.next, 0).2 + 2)) fun (x22 : SL) =>
       let x23 : Bool := eqInt (Int.ofNat x22.len) 1
       (bif x23 then
        (bindV (.val (.one .slice)) (h5.cell ((h.next, 0).1, (h.next, 0).2 + 3)) fun (x24 : SL) =>
        (ixK x24.a x24.len 0 4 fun q25 =>
        (bindV (.val (.agg [(.int .i64), .str, .slice, .slice])) (h5.cells q25 4) fun (x26 : (Int × List UInt8 × SL × SL × Unit)) =>
        let x27 : Int := wrapA .i64 (a2 + 1)
        (bind2 (rec36 (x26.1, x26.2.1, x26.2.2.1, x26.2.2.2.1, ()) a1 x27 h5) fun (x28 : Bool) h29 =>
        some (x28, h29)))))
       else
        some (false, h5)))
      else
       some (false, h5)))
     else
      let x30 : Bool := eqInt x7 0
      (bif x30 then
       (bif x30 then
        (bindV (.val (.one .slice)) (h5.cell ((h.next, 0).1, (h.next, 0).2 + 3)) fun (x31 : SL) =>
        let x32 : Bool := eqInt (Int.ofNat x31.len) 0
        some (x32, h5))
       else
        some (false, h5))
      else
       let x33 : Bool := eqInt x7 1
       (bif x33 then
        (bif x33 then
         (bindV (.val (.one .slice)) (h5.cell ((h.next, 0).1, (h.next, 0).2 + 3)) fun (x34 : SL) =>
         let x35 : Bool := eqInt (Int.ofNat x34.len) 0
         some (x35, h5))
        else
         some (false, h5))
       else
        let x36 : Bool := eqInt x7 2
        (bif x36 then
         (bif x36 then
          (bindV (.val (.one .slice)) (h5.cell ((h.next, 0).1, (h.next, 0).2 + 3)) fun (x37 : SL) =>
          let x38 : Bool := eqInt (Int.ofNat x37.len) 0
          some (x38, h5))
         else
          some (false, h5))
        else
         let x39 : Bool := eqInt x7 3
         (bif x39 then
          (bindV (.val (.one .slice)) (h5.cell ((h.next, 0).1, (h.next, 0).2 + 3)) fun (x40 : SL) =>
          let x41 : Bool := eqInt (Int.ofNat x40.len) 0
          some (x41, h5))
         else
          some (false, h5))))))))))))
noncomputable def ann36 : Ann := .n

noncomputable def cl_f36 (N M : Nat) : (((Int × List UInt8 × SL × SL × Unit) → Int → Int → Heap → Option (Bool × Heap)) × Unit) := Nat.rec (fun _ _ _ _ => none, ()) (fun _ r => (f36_r N r.1, ())) M
noncomputable def f36 (N M : Nat) : (Int × List UInt8 × SL × SL × Unit) → Int → Int → Heap → Option (Bool × Heap) := (cl_f36 N M).1
theorem f36_succ (N M : Nat) (a0 : (Int × List UInt8 × SL × SL × Unit)) (a1 : Int) (a2 : Int) (h : Heap) : f36 N (M + 1) a0 a1 a2 h = f36_r N (f36 N M) a0 a1 a2 h := rfl
theorem cl_f36_okm (N : Nat) : ∀ M : Nat, (FnOK Tryd.prog 36 [(.agg [(.int .i64), .str, .slice, .slice]), (.one (.int .i64)), (.one (.int .i64))] (.val (.one .bool)) (fun x h => f36 N M x.1 x.2.1 x.2.2.1 h)) ∧ True
  | 0 => ⟨(fun xs h r h' hx => by cases hx), trivial⟩
  | M + 1 => ⟨runK_ok envOK hmix (addCall_ok (cl_f36_okm N M).1 (addCall_ok (f35_ok N) noCalls_ok)) (N := N) (x := ann36) (fn := Tryd.f36) (c := Tryd.f36.body.getD .skip) (by kernel_rfl) (by kernel_rfl) (by kernel_rfl) (by kernel_rfl) (fun _ _ => by kernel_rfl), trivial⟩
theorem f36_ok (N : Nat) : FnOK Tryd.prog 36 [(.agg [(.int .i64), .str, .slice, .slice]), (.one (.int .i64)), (.one (.int .i64))] (.val (.one .bool)) (fun x h => f36 N N x.1 x.2.1 x.2.2.1 h) := (cl_f36_okm N N).1

/- usufruct/mir.oper -/
noncomputable def f56 (N : Nat) (a0 : (Int × Int × Int × SL × Unit)) (a1 : Int) (h : Heap) : Option (Bool × Heap) :=
  let h1 : Heap := h.push (.row [(.int .i64 a0.1), (.int .i64 a0.2.1), (.int .i64 a0.2.2.1), (.slice a0.2.2.2.1.a a0.2.2.2.1.len a0.2.2.2.1.cap a0.2.2.2.1.sz)] .own)
  (bindV (.val (.one (.int .i64))) (h1.cell ((h.next, 0).1, (h.next, 0).2 + 0)) fun (x2 : Int) =>
  let x3 : Bool := eqInt x2 1
  (bif x3 then
   (bif x3 then
    some (true, h1)
   else
    let x4 : Bool := eqInt x2 3
    (bif x4 then
     (bif x4 then
      (bindV (.val (.one (.int .i64))) (h1.cell (((h.next, 0).1, (h.next, 0).2 + 2).1, ((h.next, 0).1, (h.next, 0).2 + 2).2 + 0)) fun (x5 : Int) =>
      (bind2 (f34 N x5 a1 h1) fun (x6 : Bool) h7 =>
      some (x6, h7)))
     else
      some (false, h1))
    else
     let x8 : Bool := eqInt x2 4
     (bif x8 then
      (bindV (.val (.one (.int .i64))) (h1.cell (((h.next, 0).1, (h.next, 0).2 + 2).1, ((h.next, 0).1, (h.next, 0).2 + 2).2 + 0)) fun (x9 : Int) =>
      (bind2 (f34 N x9 a1 h1) fun (x10 : Bool) h11 =>
      some (x10, h11)))
     else
      some (false, h1))))
  else
   let x12 : Bool := eqInt x2 2
   (bif x12 then
    some (true, h1)
   else
    let x13 : Bool := eqInt x2 3
    (bif x13 then
     (bif x13 then
      (bindV (.val (.one (.int .i64))) (h1.cell (((h.next, 0).1, (h.next, 0).2 + 2).1, ((h.next, 0).1, (h.next, 0).2 + 2).2 + 0)) fun (x14 : Int) =>
      (bind2 (f34 N x14 a1 h1) fun (x15 : Bool) h16 =>
      some (x15, h16)))
     else
      some (false, h1))
    else
     let x17 : Bool := eqInt x2 4
     (bif x17 then
      (bindV (.val (.one (.int .i64))) (h1.cell (((h.next, 0).1, (h.next, 0).2 + 2).1, ((h.next, 0).1, (h.next, 0).2 + 2).2 + 0)) fun (x18 : Int) =>
      (bind2 (f34 N x18 a1 h1) fun (x19 : Bool) h20 =>
      some (x19, h20)))
     else
      some (false, h1))))))
noncomputable def ann56 : Ann := .n
theorem f56_ok (N : Nat) : FnOK Tryd.prog 56 [(.agg [(.int .i64), (.int .i64), (.int .i64), .slice]), (.one (.int .i64))] (.val (.one .bool)) (fun x h => f56 N x.1 x.2.1 h) :=
  runK_ok envOK hmix (addCall_ok (f34_ok N) noCalls_ok) (N := N) (x := ann56) (fn := Tryd.f56) (c := Tryd.f56.body.getD .skip) (by kernel_rfl) (by kernel_rfl) (by kernel_rfl) (by kernel_rfl) (fun _ _ => by kernel_rfl)

/- usufruct/mir.value$1 -/
noncomputable def f67 (N : Nat) (a0 : (Int × Int × Int × SL × Unit)) (a1 : Option (Nat × Nat)) (h : Heap) : Option (Bool × Heap) :=
  let h1 : Heap := h.push (.row [(.int .i64 a0.1), (.int .i64 a0.2.1), (.int .i64 a0.2.2.1), (.slice a0.2.2.2.1.a a0.2.2.2.1.len a0.2.2.2.1.cap a0.2.2.2.1.sz)] .own)
  (bindV (.val (.agg [(.int .i64), (.int .i64), (.int .i64), .slice])) (h1.cells (h.next, 0) 4) fun (x2 : (Int × Int × Int × SL × Unit)) =>
  (need a1 fun q3 =>
  (bindV (.val (.one (.int .i64))) (h1.cell q3) fun (x4 : Int) =>
  (bind2 (f56 N (x2.1, x2.2.1, x2.2.2.1, x2.2.2.2.1, ()) x4 h1) fun (x5 : Bool) h6 =>
  let x7 : Bool := !x5
  some (x7, h6)))))
noncomputable def ann67 : Ann := .n
theorem f67_ok (N : Nat) : FnOK Tryd.prog 67 [(.agg [(.int .i64), (.int .i64), (.int .i64), .slice]), (.one .ptr)] (.val (.one .bool)) (fun x h => f67 N x.1 x.2.1 h) :=
  runK_ok envOK hmix (addCall_ok (f56_ok N) noCalls_ok) (N := N) (x := ann67) (fn := Tryd.f67) (c := Tryd.f67.body.getD .skip) (by kernel_rfl) (by kernel_rfl) (by kernel_rfl) (by kernel_rfl) (fun _ _ => by kernel_rfl)

/- slices.IndexFunc[[]usufruct/api.MOper,usufruct/api.MOper], given usufruct/mir.value$1 -/
noncomputable def f77c67_l1_b (N : Nat) (go : SL → (Option (Nat × Nat) × Unit) → Int → Int → Int → Heap → Option (Out × (Int × Unit) × Heap)) (v0 : SL) (v1 : (Option (Nat × Nat) × Unit)) (v4 : Int) (v7 : Int) (v8 : Int) (h : Heap) : Option (Out × (Int × Unit) × Heap) :=
  let x1 : Bool := ltInt v8 v7
  (bif x1 then
   (ixK v0.a v0.len v8 4 fun q2 =>
   (bindV (.val (.agg [(.int .i64), (.int .i64), (.int .i64), .slice])) (h.cells q2 4) fun (x3 : (Int × Int × Int × SL × Unit)) =>
   (bind2 (f67 N (x3.1, x3.2.1, x3.2.2.1, x3.2.2.2.1, ()) v1.1 h) fun (x4 : Bool) h5 =>
   (bif x4 then
    some (Out.ret, (v8, ()), h5)
   else
    let x6 : Int := wrapA .i64 (v8 + 1)
    go v0 (v1.1, ()) v4 v7 x6 h5))))
  else
   some ((Out.exit 0), (v4, ()), h))
noncomputable def f77c67_l1 (N : Nat) (M : Nat) (v0 : SL) (v1 : (Option (Nat × Nat) × Unit)) (v4 : Int) (v7 : Int) (v8 : Int) (h : Heap) : Option (Out × (Int × Unit) × Heap) := iter (fun go s h => f77c67_l1_b N (fun v0 v1 v4 v7 v8 h => go (v0, v1, v4, v7, v8, ()) h) s.1 s.2.1 s.2.2.1 s.2.2.2.1 s.2.2.2.2.1 h) M (v0, v1, v4, v7, v8, ()) h
theorem f77c67_l1_succ (N : Nat) (M : Nat) (v0 : SL) (v1 : (Option (Nat × Nat) × Unit)) (v4 : Int) (v7 : Int) (v8 : Int) (h : Heap) : f77c67_l1 N (M + 1) v0 v1 v4 v7 v8 h = f77c67_l1_b N (f77c67_l1 N M) v0 v1 v4 v7 v8 h := rfl
theorem f77c67_l1_zero (N : Nat) (v0 : SL) (v1 : (Option (Nat × Nat) × Unit)) (v4 : Int) (v7 : Int) (v8 : Int) (h : Heap) : f77c67_l1 N 0 v0 v1 v4 v7 v8 h = none := rfl
noncomputable def f77c67 (N : Nat) (a0 : SL) (a1 : (Option (Nat × Nat) × Unit)) (h : Heap) : Option (Int × Heap) :=
  (bind3 (f77c67_l1 N N a0 (a1.1, ()) 0 (Int.ofNat a0.len) 0 h) fun o7 (j8 : (Int × Unit)) h9 =>
  (bif eqOut o7 (.exit 0) then
   some ((-1), h9)
  else
   some (j8.1, h9)))
noncomputable def ann77c67 : Ann := (.two .n (.two (.two .n (.two (.loop [(0, (.one .slice)), (1, (.clo 67 [.ptr])), (4, (.one (.int .i64))), (7, (.one (.int .i64))), (8, (.one (.int .i64)))] [(.exit 0), .ret] [(4, (.one (.int .i64)))] .n) .n)) .n))
theorem f77c67_ok (N : Nat) : FnOK Tryd.prog 77 [(.one .slice), (.clo 67 [.ptr])] (.val (.one (.int .i64))) (fun x h => f77c67 N x.1 x.2.1 h) :=
  runK_ok envOK hmix (addCall_ok (f67_ok N) noCalls_ok) (N := N) (x := ann77c67) (fn := Tryd.f77) (c := Tryd.f77.body.getD .skip) (by kernel_rfl) (by kernel_rfl) (by kernel_rfl) (by kernel_rfl) (fun _ _ => by kernel_rfl)

/- slices.ContainsFunc[[]usufruct/api.MOper,usufruct/api.MOper], given usufruct/mir.value$1 -/
noncomputable def f66c67 (N : Nat) (a0 : SL) (a1 : (Option (Nat × Nat) × Unit)) (h : Heap) : Option (Bool × Heap) :=
  (bind2 (f77c67 N a0 (a1.1, ()) h) fun (x1 : Int) h2 =>
  let x3 : Bool := leInt 0 x1
  some (x3, h2))
noncomputable def ann66c67 : Ann := .n
theorem f66c67_ok (N : Nat) : FnOK Tryd.prog 66 [(.one .slice), (.clo 67 [.ptr])] (.val (.one .bool)) (fun x h => f66c67 N x.1 x.2.1 h) :=
  runK_ok envOK hmix (addCallS_ok (sel := fun a => isClo 1 67 a) (f77c67_ok N) noCalls_ok) (N := N) (x := ann66c67) (fn := Tryd.f66) (c := Tryd.f66.body.getD .skip) (by kernel_rfl) (by kernel_rfl) (by kernel_rfl) (by kernel_rfl) (fun _ _ => by kernel_rfl)

/- usufruct/mir.value -/
noncomputable def f55 (N : Nat) (a0 : (Int × Int × Int × Int × SL × Int × Int × Int × SL × Int × Int × SL × Int × List UInt8 × SL × SL × Unit)) (a1 : Int) (a2 : Int) (h : Heap) : Option (Bool × Heap) :=
  let h1 : Heap := h.push (.row [(.int .i64 a0.1), (.int .i64 a0.2.1), (.int .i64 a0.2.2.1), (.int .i64 a0.2.2.2.1), (.slice a0.2.2.2.2.1.a a0.2.2.2.2.1.len a0.2.2.2.2.1.cap a0.2.2.2.2.1.sz), (.int .i64 a0.2.2.2.2.2.1), (.int .i64 a0.2.2.2.2.2.2.1), (.int .i64 a0.2.2.2.2.2.2.2.1), (.slice a0.2.2.2.2.2.2.2.2.1.a a0.2.2.2.2.2.2.2.2.1.len a0.2.2.2.2.2.2.2.2.1.cap a0.2.2.2.2.2.2.2.2.1.sz), (.int .i64 a0.2.2.2.2.2.2.2.2.2.1), (.int .i64 a0.2.2.2.2.2.2.2.2.2.2.1), (.slice a0.2.2.2.2.2.2.2.2.2.2.2.1.a a0.2.2.2.2.2.2.2.2.2.2.2.1.len a0.2.2.2.2.2.2.2.2.2.2.2.1.cap a0.2.2.2.2.2.2.2.2.2.2.2.1.sz), (.int .i64 a0.2.2.2.2.2.2.2.2.2.2.2.2.1), (.str a0.2.2.2.2.2.2.2.2.2.2.2.2.2.1), (.slice a0.2.2.2.2.2.2.2.2.2.2.2.2.2.2.1.a a0.2.2.2.2.2.2.2.2.2.2.2.2.2.2.1.len a0.2.2.2.2.2.2.2.2.2.2.2.2.2.2.1.cap a0.2.2.2.2.2.2.2.2.2.2.2.2.2.2.1.sz), (.slice a0.2.2.2.2.2.2.2.2.2.2.2.2.2.2.2.1.a a0.2.2.2.2.2.2.2.2.2.2.2.2.2.2.2.1.len a0.2.2.2.2.2.2.2.2.2.2.2.2.2.2.2.1.cap a0.2.2.2.2.2.2.2.2.2.2.2.2.2.2.2.1.sz)] .own)
  let h2 : Heap := h1.push (.row [(.int .i64 a1)] .own)
  (bindV (.val (.one (.int .i64))) (h2.cell ((h.next, 0).1, (h.next, 0).2 + 0)) fun (x3 : Int) =>
  let x4 : Bool := eqInt x3 2
  (bif x4 then
   (bif x4 then
    (bindV (.val (.one (.int .i64))) (h2.cell (((h.next, 0).1, (h.next, 0).2 + 10).1, ((h.next, 0).1, (h.next, 0).2 + 10).2 + 0)) fun (x5 : Int) =>
    (bindV (.val (.one (.int .i64))) (h2.cell (h1.next, 0)) fun (x6 : Int) =>
    (bind2 (f34 N x5 x6 h2) fun (x7 : Bool) h8 =>
    (bif x7 then
     (bindV (.val (.one (.int .i64))) (h8.cell ((h.next, 0).1, (h.next, 0).2 + 12)) fun (x9 : Int) =>
     (bind2 (f34 N x9 a2 h8) fun (x10 : Bool) h11 =>
     some (x10, h11)))
    else
     some (false, h8)))))
   else
    let x12 : Bool := eqInt x3 5
    (bif x12 then
     (bindV (.val (.agg [(.int .i64), (.int .i64), (.int .i64), .slice])) (h2.cells ((h.next, 0).1, (h.next, 0).2 + 5) 4) fun (x13 : (Int × Int × Int × SL × Unit)) =>
     (bindV (.val (.one (.int .i64))) (h2.cell (h1.next, 0)) fun (x14 : Int) =>
     (bind2 (f56 N (x13.1, x13.2.1, x13.2.2.1, x13.2.2.2.1, ()) x14 h2) fun (x15 : Bool) h16 =>
     let x17 : Bool := !x15
     (bif x17 then
      some (false, h16)
     else
      (bindV (.val (.agg [(.int .i64), (.int .i64), (.int .i64), .slice])) (h16.cells ((h.next, 0).1, (h.next, 0).2 + 1) 4) fun (x18 : (Int × Int × Int × SL × Unit)) =>
      (bindV (.val (.one (.int .i64))) (h16.cell (h1.next, 0)) fun (x19 : Int) =>
      (bind2 (f56 N (x18.1, x18.2.1, x18.2.2.1, x18.2.2.2.1, ()) x19 h16) fun (x20 : Bool) h21 =>
      some (x20, h21))))))))
    else
     let x22 : Bool := eqInt x3 1
     (bif x22 then
      (bif x22 then
       (bindV (.val (.agg [(.int .i64), (.int .i64), (.int .i64), .slice])) (h2.cells ((h.next, 0).1, (h.next, 0).2 + 1) 4) fun (x23 : (Int × Int × Int × SL × Unit)) =>
       (bindV (.val (.one (.int .i64))) (h2.cell (h1.next, 0)) fun (x24 : Int) =>
       (bind2 (f56 N (x23.1, x23.2.1, x23.2.2.1, x23.2.2.2.1, ()) x24 h2) fun (x25 : Bool) h26 =>
       some (x25, h26))))
      else
       let x27 : Bool := eqInt x3 6
       (bif x27 then
        (bif x27 then
         (bindV (.val (.one .slice)) (h2.cell ((h.next, 0).1, (h.next, 0).2 + 14)) fun (x28 : SL) =>
         (bind2 (f35 N x28 a2 h2) fun (x29 : Bool) h30 =>
         (bif x29 then
          (bindV (.val (.one .slice)) (h30.cell ((h.next, 0).1, (h.next, 0).2 + 15)) fun (x31 : SL) =>
          (bind2 (f66c67 N x31 ((some (h1.next, 0)), ()) h30) fun (x32 : Bool) h33 =>
          let x34 : Bool := !x32
          some (x34, h33)))
         else
          some (false, h30))))
        else
         some (false, h2))
       else
        let x35 : Bool := eqInt x3 7
        (bif x35 then
         (bindV (.val (.one .slice)) (h2.cell ((h.next, 0).1, (h.next, 0).2 + 14)) fun (x36 : SL) =>
         (bind2 (f35 N x36 a2 h2) fun (x37 : Bool) h38 =>
         (bif x37 then
          (bindV (.val (.one .slice)) (h38.cell ((h.next, 0).1, (h.next, 0).2 + 15)) fun (x39 : SL) =>
          (bind2 (f66c67 N x39 ((some (h1.next, 0)), ()) h38) fun (x40 : Bool) h41 =>
          let x42 : Bool := !x40
          some (x42, h41)))
         else
          some (false, h38))))
        else
         some (false, h2))))
     else
      let x43 : Bool := eqInt x3 4
      (bif x43 then
       (bindV (.val (.agg [(.int .i64), (.int .i64), (.int .i64), .slice])) (h2.cells ((h.next, 0).1, (h.next, 0).2 + 1) 4) fun (x44 : (Int × Int × Int × SL × Unit)) =>
       (bindV (.val (.one (.int .i64))) (h2.cell (h1.next, 0)) fun (x45 : Int) =>
       (bind2 (f56 N (x44.1, x44.2.1, x44.2.2.1, x44.2.2.2.1, ()) x45 h2) fun (x46 : Bool) h47 =>
       some (x46, h47))))
      else
       let x48 : Bool := eqInt x3 6
       (bif x48 then
        (bif x48 then
         (bindV (.val (.one .slice)) (h2.cell ((h.next, 0).1, (h.next, 0).2 + 14)) fun (x49 : SL) =>
         (bind2 (f35 N x49 a2 h2) fun (x50 : Bool) h51 =>
         (bif x50 then
          (bindV (.val (.one .slice)) (h51.cell ((h.next, 0).1, (h.next, 0).2 + 15)) fun (x52 : SL) =>
          (bind2 (f66c67 N x52 ((some (h1.next, 0)), ()) h51) fun (x53 : Bool) h54 =>
          let x55 : Bool := !x53
          some (x55, h54)))
         else
          some (false, h51))))
        else
         some (false, h2))
       else
        let x56 : Bool := eqInt x3 7
        (bif x56 then
         (bindV (.val (.one .slice)) (h2.cell ((h.next, 0).1, (h.next, 0).2 + 14)) fun (x57 : SL) =>
         (bind2 (f35 N x57 a2 h2) fun (x58 : Bool) h59 =>
         (bif x58 then
          (bindV (.val (.one .slice)) (h59.cell ((h.next, 0).1, (h.next, 0).2 + 15)) fun (x60 : SL) =>
          (bind2 (f66c67 N x60 ((some (h1.next, 0)), ()) h59) fun (x61 : Bool) h62 =>
          let x63 : Bool := !x61
          some (x63, h62)))
         else
          some (false, h59))))
        else
         some (false, h2)))))))
  else
   let x64 : Bool := eqInt x3 3
   (bif x64 then
    (bindV (.val (.one (.int .i64))) (h2.cell (((h.next, 0).1, (h.next, 0).2 + 10).1, ((h.next, 0).1, (h.next, 0).2 + 10).2 + 0)) fun (x65 : Int) =>
    (bindV (.val (.one (.int .i64))) (h2.cell (h1.next, 0)) fun (x66 : Int) =>
    (bind2 (f34 N x65 x66 h2) fun (x67 : Bool) h68 =>
    (bif x67 then
     (bindV (.val (.one (.int .i64))) (h68.cell ((h.next, 0).1, (h.next, 0).2 + 12)) fun (x69 : Int) =>
     (bind2 (f34 N x69 a2 h68) fun (x70 : Bool) h71 =>
     some (x70, h71)))
    else
     some (false, h68)))))
   else
    let x72 : Bool := eqInt x3 5
    (bif x72 then
     (bindV (.val (.agg [(.int .i64), (.int .i64), (.int .i64), .slice])) (h2.cells ((h.next, 0).1, (h.next, 0).2 + 5) 4) fun (x73 : (Int × Int × Int × SL × Unit)) =>
     (bindV (.val (.one (.int .i64))) (h2.cell (h1.next, 0)) fun (x74 : Int) =>
     (bind2 (f56 N (x73.1, x73.2.1, x73.2.2.1, x73.2.2.2.1, ()) x74 h2) fun (x75 : Bool) h76 =>
     let x77 : Bool := !x75
     (bif x77 then
      some (false, h76)
     else
      (bindV (.val (.agg [(.int .i64), (.int .i64), (.int .i64), .slice])) (h76.cells ((h.next, 0).1, (h.next, 0).2 + 1) 4) fun (x78 : (Int × Int × Int × SL × Unit)) =>
      (bindV (.val (.one (.int .i64))) (h76.cell (h1.next, 0)) fun (x79 : Int) =>
      (bind2 (f56 N (x78.1, x78.2.1, x78.2.2.1, x78.2.2.2.1, ()) x79 h76) fun (x80 : Bool) h81 =>
      some (x80, h81))))))))
    else
     let x82 : Bool := eqInt x3 1
     (bif x82 then
      (bif x82 then
       (bindV (.val (.agg [(.int .i64), (.int .i64), (.int .i64), .slice])) (h2.cells ((h.next, 0).1, (h.next, 0).2 + 1) 4) fun (x83 : (Int × Int × Int × SL × Unit)) =>
       (bindV (.val (.one (.int .i64))) (h2.cell (h1.next, 0)) fun (x84 : Int) =>
       (bind2 (f56 N (x83.1, x83.2.1, x83.2.2.1, x83.2.2.2.1, ()) x84 h2) fun (x85 : Bool) h86 =>
       some (x85, h86))))
      else
       let x87 : Bool := eqInt x3 6
       (bif x87 then
        (bif x87 then
         (bindV (.val (.one .slice)) (h2.cell ((h.next, 0).1, (h.next, 0).2 + 14)) fun (x88 : SL) =>
         (bind2 (f35 N x88 a2 h2) fun (x89 : Bool) h90 =>
         (bif x89 then
          (bindV (.val (.one .slice)) (h90.cell ((h.next, 0).1, (h.next, 0).2 + 15)) fun (x91 : SL) =>
          (bind2 (f66c67 N x91 ((some (h1.next, 0)), ()) h90) fun (x92 : Bool) h93 =>
          let x94 : Bool := !x92
          some (x94, h93)))
         else
          some (false, h90))))
        else
         some (false, h2))
       else
        let x95 : Bool := eqInt x3 7
        (bif x95 then
         (bindV (.val (.one .slice)) (h2.cell ((h.next, 0).1, (h.next, 0).2 + 14)) fun (x96 : SL) =>
         (bind2 (f35 N x96 a2 h2) fun (x97 : Bool) h98 =>
         (bif x97 then
          (bindV (.val (.one .slice)) (h98.cell ((h.next, 0).1, (h.next, 0).2 + 15)) fun (x99 : SL) =>
          (bind2 (f66c67 N x99 ((some (h1.next, 0)), ()) h98) fun (x100 : Bool) h101 =>
          let x102 : Bool := !x100
          some (x102, h101)))
         else
          some (false, h98))))
        else
         some (false, h2))))
     else
      let x103 : Bool := eqInt x3 4
      (bif x103 then
       (bindV (.val (.agg [(.int .i64), (.int .i64), (.int .i64), .slice])) (h2.cells ((h.next, 0).1, (h.next, 0).2 + 1) 4) fun (x104 : (Int × Int × Int × SL × Unit)) =>
       (bindV (.val (.one (.int .i64))) (h2.cell (h1.next, 0)) fun (x105 : Int) =>
       (bind2 (f56 N (x104.1, x104.2.1, x104.2.2.1, x104.2.2.2.1, ()) x105 h2) fun (x106 : Bool) h107 =>
       some (x106, h107))))
      else
       let x108 : Bool := eqInt x3 6
       (bif x108 then
        (bif x108 then
         (bindV (.val (.one .slice)) (h2.cell ((h.next, 0).1, (h.next, 0).2 + 14)) fun (x109 : SL) =>
         (bind2 (f35 N x109 a2 h2) fun (x110 : Bool) h111 =>
         (bif x110 then
          (bindV (.val (.one .slice)) (h111.cell ((h.next, 0).1, (h.next, 0).2 + 15)) fun (x112 : SL) =>
          (bind2 (f66c67 N x112 ((some (h1.next, 0)), ()) h111) fun (x113 : Bool) h114 =>
          let x115 : Bool := !x113
          some (x115, h114)))
         else
          some (false, h111))))
        else
         some (false, h2))
       else
        let x116 : Bool := eqInt x3 7
        (bif x116 then
         (bindV (.val (.one .slice)) (h2.cell ((h.next, 0).1, (h.next, 0).2 + 14)) fun (x117 : SL) =>
         (bind2 (f35 N x117 a2 h2) fun (x118 : Bool) h119 =>
         (bif x118 then
          (bindV (.val (.one .slice)) (h119.cell ((h.next, 0).1, (h.next, 0).2 + 15)) fun (x120 : SL) =>
          (bind2 (f66c67 N x120 ((some (h1.next, 0)), ()) h119) fun (x121 : Bool) h122 =>
          let x123 : Bool := !x121
          some (x123, h122)))
         else
          some (false, h119))))
        else
         some (false, h2)))))))))
noncomputable def ann55 : Ann := .n
theorem f55_ok (N : Nat) : FnOK Tryd.prog 55 [(.agg [(.int .i64), (.int .i64), (.int .i64), (.int .i64), .slice, (.int .i64), (.int .i64), (.int .i64), .slice, (.int .i64), (.int .i64), .slice, (.int .i64), .str, .slice, .slice]), (.one (.int .i64)), (.one (.int .i64))] (.val (.one .bool)) (fun x h => f55 N x.1 x.2.1 x.2.2.1 h) :=
  runK_ok envOK hmix (addCallS_ok (sel := fun a => isClo 1 67 a) (f66c67_ok N) (addCall_ok (f56_ok N) (addCall_ok (f35_ok N) (addCall_ok (f34_ok N) noCalls_ok)))) (N := N) (x := ann55) (fn := Tryd.f55) (c := Tryd.f55.body.getD .skip) (by kernel_rfl) (by kernel_rfl) (by kernel_rfl) (by kernel_rfl) (fun _ _ => by kernel_rfl)

/- usufruct/mir.inst -/
noncomputable def f39 (N : Nat) (a0 : (Int × Int × Bool × Int × SL × Int × Int × Int × Int × SL × Int × Int × Int × SL × Int × Int × SL × Int × List UInt8 × SL × SL × SL × Unit)) (a1 : Int) (a2 : Int) (a3 : Int) (h : Heap) : Option (Bool × Heap) :=
  let h1 : Heap := h.push (.row [(.int .i64 a0.1), (.int .i64 a0.2.1), (.bool a0.2.2.1), (.int .i64 a0.2.2.2.1), (.slice a0.2.2.2.2.1.a a0.2.2.2.2.1.len a0.2.2.2.2.1.cap a0.2.2.2.2.1.sz), (.int .i64 a0.2.2.2.2.2.1), (.int .i64 a0.2.2.2.2.2.2.1), (.int .i64 a0.2.2.2.2.2.2.2.1), (.int .i64 a0.2.2.2.2.2.2.2.2.1), (.slice a0.2.2.2.2.2.2.2.2.2.1.a a0.2.2.2.2.2.2.2.2.2.1.len a0.2.2.2.2.2.2.2.2.2.1.cap a0.2.2.2.2.2.2.2.2.2.1.sz), (.int .i64 a0.2.2.2.2.2.2.2.2.2.2.1), (.int .i64 a0.2.2.2.2.2.2.2.2.2.2.2.1), (.int .i64 a0.2.2.2.2.2.2.2.2.2.2.2.2.1), (.slice a0.2.2.2.2.2.2.2.2.2.2.2.2.2.1.a a0.2.2.2.2.2.2.2.2.2.2.2.2.2.1.len a0.2.2.2.2.2.2.2.2.2.2.2.2.2.1.cap a0.2.2.2.2.2.2.2.2.2.2.2.2.2.1.sz), (.int .i64 a0.2.2.2.2.2.2.2.2.2.2.2.2.2.2.1), (.int .i64 a0.2.2.2.2.2.2.2.2.2.2.2.2.2.2.2.1), (.slice a0.2.2.2.2.2.2.2.2.2.2.2.2.2.2.2.2.1.a a0.2.2.2.2.2.2.2.2.2.2.2.2.2.2.2.2.1.len a0.2.2.2.2.2.2.2.2.2.2.2.2.2.2.2.2.1.cap a0.2.2.2.2.2.2.2.2.2.2.2.2.2.2.2.2.1.sz), (.int .i64 a0.2.2.2.2.2.2.2.2.2.2.2.2.2.2.2.2.2.1), (.str a0.2.2.2.2.2.2.2.2.2.2.2.2.2.2.2.2.2.2.1), (.slice a0.2.2.2.2.2.2.2.2.2.2.2.2.2.2.2.2.2.2.2.1.a a0.2.2.2.2.2.2.2.2.2.2.2.2.2.2.2.2.2.2.2.1.len a0.2.2.2.2.2.2.2.2.2.2.2.2.2.2.2.2.2.2.2.1.cap a0.2.2.2.2.2.2.2.2.2.2.2.2.2.2.2.2.2.2.2.1.sz), (.slice a0.2.2.2.2.2.2.2.2.2.2.2.2.2.2.2.2.2.2.2.2.1.a a0.2.2.2.2.2.2.2.2.2.2.2.2.2.2.2.2.2.2.2.2.1.len a0.2.2.2.2.2.2.2.2.2.2.2.2.2.2.2.2.2.2.2.2.1.cap a0.2.2.2.2.2.2.2.2.2.2.2.2.2.2.2.2.2.2.2.2.1.sz), (.slice a0.2.2.2.2.2.2.2.2.2.2.2.2.2.2.2.2.2.2.2.2.2.1.a a0.2.2.2.2.2.2.2.2.2.2.2.2.2.2.2.2.2.2.2.2.2.1.len a0.2.2.2.2.2.2.2.2.2.2.2.2.2.2.2.2.2.2.2.2.2.1.cap a0.2.2.2.2.2.2.2.2.2.2.2.2.2.2.2.2.2.2.2.2.2.1.sz)] .own)
  (need (α := Sum ((Int × Option (Nat × Nat) × Int × Bool × Unit) × Heap) (Sum ((Bool × Unit) × Heap) (Empty))) (
   (bindV (.val (.one (.int .i64))) (h1.cell ((h.next, 0).1, (h.next, 0).2 + 0)) fun (x2 : Int) =>
   let x3 : Bool := eqInt x2 1
   (bif x3 then
    (bindV (.val (.agg [(.int .i64), (.int .i64), (.int .i64), (.int .i64), .slice, (.int .i64), (.int .i64), (.int .i64), .slice, (.int .i64), (.int .i64), .slice, (.int .i64), .str, .slice, .slice])) (h1.cells ((h.next, 0).1, (h.next, 0).2 + 5) 16) fun (x4 : (Int × Int × Int × Int × SL × Int × Int × Int × SL × Int × Int × SL × Int × List UInt8 × SL × SL × Unit)) =>
    (bind2 (f55 N (x4.1, x4.2.1, x4.2.2.1, x4.2.2.2.1, x4.2.2.2.2.1, x4.2.2.2.2.2.1, x4.2.2.2.2.2.2.1, x4.2.2.2.2.2.2.2.1, x4.2.2.2.2.2.2.2.2.1, x4.2.2.2.2.2.2.2.2.2.1, x4.2.2.2.2.2.2.2.2.2.2.1, x4.2.2.2.2.2.2.2.2.2.2.2.1, x4.2.2.2.2.2.2.2.2.2.2.2.2.1, x4.2.2.2.2.2.2.2.2.2.2.2.2.2.1, x4.2.2.2.2.2.2.2.2.2.2.2.2.2.2.1, x4.2.2.2.2.2.2.2.2.2.2.2.2.2.2.2.1, ()) a1 a2 h1) fun (x5 : Bool) h6 =>
    (bif x5 then
     (bindV (.val (.one .bool)) (h6.cell ((h.next, 0).1, (h.next, 0).2 + 2)) fun (x7 : Bool) =>
     let x8 : Bool := !x7
     (bif x8 then
      some (Sum.inl ((a3, (some (h.next, 0)), 1, true, ()), h6))
     else
      (bindV (.val (.one (.int .i64))) (h6.cell (((h.next, 0).1, (h.next, 0).2 + 3).1, ((h.next, 0).1, (h.next, 0).2 + 3).2 + 0)) fun (x9 : Int) =>
      (bind2 (f34 N x9 a1 h6) fun (x10 : Bool) h11 =>
      some (Sum.inl ((a3, (some (h.next, 0)), 1, x10, ()), h11))))))
    else
     some (Sum.inl ((a3, (some (h.next, 0)), 1, false, ()), h6)))))
   else
    (bind2 (α := (Int × Int × Option (Nat × Nat) × Int × Bool × Int × Bool × Unit)) (
     let x12 : Bool := eqInt x2 2
     (bif x12 then
      some ((a1, a3, (some (h.next, 0)), 1, true, x2, x12, ()), h1)
     else
      let x13 : Bool := eqInt x2 3
      some ((a1, a3, (some (h.next, 0)), 1, true, x2, x13, ()), h1))) fun (j14 : (Int × Int × Option (Nat × Nat) × Int × Bool × Int × Bool × Unit)) h15 =>
    (bif j14.2.2.2.2.2.2.1 then
     (need j14.2.2.1 fun q16 =>
     (bindV (.val (.one (.int .i64))) (h15.cell ((q16.1, q16.2 + 3).1, (q16.1, q16.2 + 3).2 + 0)) fun (x17 : Int) =>
     (bind2 (f34 N x17 j14.1 h15) fun (x18 : Bool) h19 =>
     some (Sum.inl ((j14.2.1, j14.2.2.1, j14.2.2.2.1, x18, ()), h19)))))
    else
     let x20 : Bool := eqInt j14.2.2.2.2.2.1 4
     (bif x20 then
      (need j14.2.2.1 fun q21 =>
      (bindV (.val (.agg [(.int .i64), (.int .i64), (.int .i64), .slice])) (h15.cells ((q21.1, q21.2 + 5).1, (q21.1, q21.2 + 5).2 + 1) 4) fun (x22 : (Int × Int × Int × SL × Unit)) =>
      (bind2 (f56 N (x22.1, x22.2.1, x22.2.2.1, x22.2.2.2.1, ()) j14.1 h15) fun (x23 : Bool) h24 =>
      some (Sum.inl ((j14.2.1, j14.2.2.1, 2, x23, ()), h24)))))
     else
      let x25 : Bool := eqInt j14.2.2.2.2.2.1 5
      (bif x25 then
       some (Sum.inl ((j14.2.1, j14.2.2.1, j14.2.2.2.1, j14.2.2.2.2.1, ()), h15))
      else
       let x26 : Bool := eqInt j14.2.2.2.2.2.1 6
       (bif x26 then
        some (Sum.inl ((j14.2.1, j14.2.2.1, 0, j14.2.2.2.2.1, ()), h15))
       else
        some (Sum.inr (Sum.inl ((false, ()), h15))))))))))) fun j27 =>
  (jcase j27 (fun (j28 : (Int × Option (Nat × Nat) × Int × Bool × Unit)) h29 =>
   (bif j28.2.2.2.1 then
    (need j28.2.1 fun q31 =>
    (bindV (.val (.one .slice)) (h29.cell (q31.1, q31.2 + 21)) fun (x32 : SL) =>
    let x33 : Bool := eqInt (Int.ofNat x32.len) j28.2.2.1
    (bif x33 then
     (need j28.2.1 fun q34 =>
     (bindV (.val (.one .slice)) (h29.cell (q34.1, q34.2 + 21)) fun (x35 : SL) =>
     (bind2 (f35 N x35 j28.1 h29) fun (x36 : Bool) h37 =>
     some (x36, h37))))
    else
     some (false, h29))))
   else
    some (false, h29))) fun j30 =>
  (jcase j30 (fun (j38 : (Bool × Unit)) h39 =>
   some (j38.1, h39)) fun _ =>
  none)))
noncomputable def ann39 : Ann := (.two .n (.two .n (.two (.joinO [(.norm, [(3, (.one (.int .i64))), (4, (.one .ptr)), (9, (.one (.int .i64))), (10, (.one .bool))]), (.ret, [(8, (.one .bool))])] (.two .n (.two (.two .n (.two .n (.two (.join [(1, (.one (.int .i64))), (3, (.one (.int .i64))), (4, (.one .ptr)), (9, (.one (.int .i64))), (10, (.one .bool)), (12, (.one (.int .i64))), (32, (.one .bool))] .n) .n))) .n))) .n)))
theorem f39_ok (N : Nat) : FnOK Tryd.prog 39 [(.agg [(.int .i64), (.int .i64), .bool, (.int .i64), .slice, (.int .i64), (.int .i64), (.int .i64), (.int .i64), .slice, (.int .i64), (.int .i64), (.int .i64), .slice, (.int .i64), (.int .i64), .slice, (.int .i64), .str, .slice, .slice, .slice]), (.one (.int .i64)), (.one (.int .i64)), (.one (.int .i64))] (.val (.one .bool)) (fun x h => f39 N x.1 x.2.1 x.2.2.1 x.2.2.2.1 h) :=
  runK_ok envOK hmix (addCall_ok (f56_ok N) (addCall_ok (f55_ok N) (addCall_ok (f35_ok N) (addCall_ok (f34_ok N) noCalls_ok)))) (N := N) (x := ann39) (fn := Tryd.f39) (c := Tryd.f39.body.getD .skip) (by kernel_rfl) (by kernel_rfl) (by kernel_rfl) (by kernel_rfl) (fun _ _ => by kernel_rfl)

/- usufruct/mir.May$1 -/
noncomputable def f38 (N : Nat) (a0 : (Int × Int × Bool × Int × SL × Int × Int × Int × Int × SL × Int × Int × Int × SL × Int × Int × SL × Int × List UInt8 × SL × SL × SL × Unit)) (a1 : Option (Nat × Nat)) (h : Heap) : Option (Bool × Heap) :=
  let h1 : Heap := h.push (.row [(.int .i64 a0.1), (.int .i64 a0.2.1), (.bool a0.2.2.1), (.int .i64 a0.2.2.2.1), (.slice a0.2.2.2.2.1.a a0.2.2.2.2.1.len a0.2.2.2.2.1.cap a0.2.2.2.2.1.sz), (.int .i64 a0.2.2.2.2.2.1), (.int .i64 a0.2.2.2.2.2.2.1), (.int .i64 a0.2.2.2.2.2.2.2.1), (.int .i64 a0.2.2.2.2.2.2.2.2.1), (.slice a0.2.2.2.2.2.2.2.2.2.1.a a0.2.2.2.2.2.2.2.2.2.1.len a0.2.2.2.2.2.2.2.2.2.1.cap a0.2.2.2.2.2.2.2.2.2.1.sz), (.int .i64 a0.2.2.2.2.2.2.2.2.2.2.1), (.int .i64 a0.2.2.2.2.2.2.2.2.2.2.2.1), (.int .i64 a0.2.2.2.2.2.2.2.2.2.2.2.2.1), (.slice a0.2.2.2.2.2.2.2.2.2.2.2.2.2.1.a a0.2.2.2.2.2.2.2.2.2.2.2.2.2.1.len a0.2.2.2.2.2.2.2.2.2.2.2.2.2.1.cap a0.2.2.2.2.2.2.2.2.2.2.2.2.2.1.sz), (.int .i64 a0.2.2.2.2.2.2.2.2.2.2.2.2.2.2.1), (.int .i64 a0.2.2.2.2.2.2.2.2.2.2.2.2.2.2.2.1), (.slice a0.2.2.2.2.2.2.2.2.2.2.2.2.2.2.2.2.1.a a0.2.2.2.2.2.2.2.2.2.2.2.2.2.2.2.2.1.len a0.2.2.2.2.2.2.2.2.2.2.2.2.2.2.2.2.1.cap a0.2.2.2.2.2.2.2.2.2.2.2.2.2.2.2.2.1.sz), (.int .i64 a0.2.2.2.2.2.2.2.2.2.2.2.2.2.2.2.2.2.1), (.str a0.2.2.2.2.2.2.2.2.2.2.2.2.2.2.2.2.2.2.1), (.slice a0.2.2.2.2.2.2.2.2.2.2.2.2.2.2.2.2.2.2.2.1.a a0.2.2.2.2.2.2.2.2.2.2.2.2.2.2.2.2.2.2.2.1.len a0.2.2.2.2.2.2.2.2.2.2.2.2.2.2.2.2.2.2.2.1.cap a0.2.2.2.2.2.2.2.2.2.2.2.2.2.2.2.2.2.2.2.1.sz), (.slice a0.2.2.2.2.2.2.2.2.2.2.2.2.2.2.2.2.2.2.2.2.1.a a0.2.2.2.2.2.2.2.2.2.2.2.2.2.2.2.2.2.2.2.2.1.len a0.2.2.2.2.2.2.2.2.2.2.2.2.2.2.2.2.2.2.2.2.1.cap a0.2.2.2.2.2.2.2.2.2.2.2.2.2.2.2.2.2.2.2.2.1.sz), (.slice a0.2.2.2.2.2.2.2.2.2.2.2.2.2.2.2.2.2.2.2.2.2.1.a a0.2.2.2.2.2.2.2.2.2.2.2.2.2.2.2.2.2.2.2.2.2.1.len a0.2.2.2.2.2.2.2.2.2.2.2.2.2.2.2.2.2.2.2.2.2.1.cap a0.2.2.2.2.2.2.2.2.2.2.2.2.2.2.2.2.2.2.2.2.2.1.sz)] .own)
  (bindV (.val (.agg [(.int .i64), (.int .i64), .bool, (.int .i64), .slice, (.int .i64), (.int .i64), (.int .i64), (.int .i64), .slice, (.int .i64), (.int .i64), (.int .i64), .slice, (.int .i64), (.int .i64), .slice, (.int .i64), .str, .slice, .slice, .slice])) (h1.cells (h.next, 0) 22) fun (x2 : (Int × Int × Bool × Int × SL × Int × Int × Int × Int × SL × Int × Int × Int × SL × Int × Int × SL × Int × List UInt8 × SL × SL × SL × Unit)) =>
  (need a1 fun q3 =>
  (bindV (.val (.one .slice)) (h1.cell (q3.1, q3.2 + 4)) fun (x4 : SL) =>
  (need a1 fun q5 =>
  (bindV (.val (.one (.int .i64))) (h1.cell (q5.1, q5.2 + 2)) fun (x6 : Int) =>
  (need a1 fun q7 =>
  (bindV (.val (.one .slice)) (h1.cell (q7.1, q7.2 + 5)) fun (x8 : SL) =>
  (bind2 (f39 N (x2.1, x2.2.1, x2.2.2.1, x2.2.2.2.1, x2.2.2.2.2.1, x2.2.2.2.2.2.1, x2.2.2.2.2.2.2.1, x2.2.2.2.2.2.2.2.1, x2.2.2.2.2.2.2.2.2.1, x2.2.2.2.2.2.2.2.2.2.1, x2.2.2.2.2.2.2.2.2.2.2.1, x2.2.2.2.2.2.2.2.2.2.2.2.1, x2.2.2.2.2.2.2.2.2.2.2.2.2.1, x2.2.2.2.2.2.2.2.2.2.2.2.2.2.1, x2.2.2.2.2.2.2.2.2.2.2.2.2.2.2.1, x2.2.2.2.2.2.2.2.2.2.2.2.2.2.2.2.1, x2.2.2.2.2.2.2.2.2.2.2.2.2.2.2.2.2.1, x2.2.2.2.2.2.2.2.2.2.2.2.2.2.2.2.2.2.1, x2.2.2.2.2.2.2.2.2.2.2.2.2.2.2.2.2.2.2.1, x2.2.2.2.2.2.2.2.2.2.2.2.2.2.2.2.2.2.2.2.1, x2.2.2.2.2.2.2.2.2.2.2.2.2.2.2.2.2.2.2.2.2.1, x2.2.2.2.2.2.2.2.2.2.2.2.2.2.2.2.2.2.2.2.2.2.1, ()) (Int.ofNat x4.len) x6 (Int.ofNat x8.len) h1) fun (x9 : Bool) h10 =>
  let x11 : Bool := !x9
  some (x11, h10)))))))))
noncomputable def ann38 : Ann := .n
theorem f38_ok (N : Nat) : FnOK Tryd.prog 38 [(.agg [(.int .i64), (.int .i64), .bool, (.int .i64), .slice, (.int .i64), (.int .i64), (.int .i64), (.int .i64), .slice, (.int .i64), (.int .i64), (.int .i64), .slice, (.int .i64), (.int .i64), .slice, (.int .i64), .str, .slice, .slice, .slice]), (.one .ptr)] (.val (.one .bool)) (fun x h => f38 N x.1 x.2.1 h) :=
  runK_ok envOK hmix (addCall_ok (f39_ok N) noCalls_ok) (N := N) (x := ann38) (fn := Tryd.f38) (c := Tryd.f38.body.getD .skip) (by kernel_rfl) (by kernel_rfl) (by kernel_rfl) (by kernel_rfl) (fun _ _ => by kernel_rfl)

/- slices.IndexFunc[[]usufruct/api.Inst,usufruct/api.Inst], given usufruct/mir.May$1 -/
noncomputable def f54c38_l1_b (N : Nat) (go : SL → (Option (Nat × Nat) × Unit) → Int → Int → Int → Heap → Option (Out × (Int × Unit) × Heap)) (v0 : SL) (v1 : (Option (Nat × Nat) × Unit)) (v4 : Int) (v7 : Int) (v8 : Int) (h : Heap) : Option (Out × (Int × Unit) × Heap) :=
  let x1 : Bool := ltInt v8 v7
  (bif x1 then
   (ixK v0.a v0.len v8 22 fun q2 =>
   (bindV (.val (.agg [(.int .i64), (.int .i64), .bool, (.int .i64), .slice, (.int .i64), (.int .i64), (.int .i64), (.int .i64), .slice, (.int .i64), (.int .i64), (.int .i64), .slice, (.int .i64), (.int .i64), .slice, (.int .i64), .str, .slice, .slice, .slice])) (h.cells q2 22) fun (x3 : (Int × Int × Bool × Int × SL × Int × Int × Int × Int × SL × Int × Int × Int × SL × Int × Int × SL × Int × List UInt8 × SL × SL × SL × Unit)) =>
   (bind2 (f38 N (x3.1, x3.2.1, x3.2.2.1, x3.2.2.2.1, x3.2.2.2.2.1, x3.2.2.2.2.2.1, x3.2.2.2.2.2.2.1, x3.2.2.2.2.2.2.2.1, x3.2.2.2.2.2.2.2.2.1, x3.2.2.2.2.2.2.2.2.2.1, x3.2.2.2.2.2.2.2.2.2.2.1, x3.2.2.2.2.2.2.2.2.2.2.2.1, x3.2.2.2.2.2.2.2.2.2.2.2.2.1, x3.2.2.2.2.2.2.2.2.2.2.2.2.2.1, x3.2.2.2.2.2.2.2.2.2.2.2.2.2.2.1, x3.2.2.2.2.2.2.2.2.2.2.2.2.2.2.2.1, x3.2.2.2.2.2.2.2.2.2.2.2.2.2.2.2.2.1, x3.2.2.2.2.2.2.2.2.2.2.2.2.2.2.2.2.2.1, x3.2.2.2.2.2.2.2.2.2.2.2.2.2.2.2.2.2.2.1, x3.2.2.2.2.2.2.2.2.2.2.2.2.2.2.2.2.2.2.2.1, x3.2.2.2.2.2.2.2.2.2.2.2.2.2.2.2.2.2.2.2.2.1, x3.2.2.2.2.2.2.2.2.2.2.2.2.2.2.2.2.2.2.2.2.2.1, ()) v1.1 h) fun (x4 : Bool) h5 =>
   (bif x4 then
    some (Out.ret, (v8, ()), h5)
   else
    let x6 : Int := wrapA .i64 (v8 + 1)
    go v0 (v1.1, ()) v4 v7 x6 h5))))
  else
   some ((Out.exit 0), (v4, ()), h))
noncomputable def f54c38_l1 (N : Nat) (M : Nat) (v0 : SL) (v1 : (Option (Nat × Nat) × Unit)) (v4 : Int) (v7 : Int) (v8 : Int) (h : Heap) : Option (Out × (Int × Unit) × Heap) := iter (fun go s h => f54c38_l1_b N (fun v0 v1 v4 v7 v8 h => go (v0, v1, v4, v7, v8, ()) h) s.1 s.2.1 s.2.2.1 s.2.2.2.1 s.2.2.2.2.1 h) M (v0, v1, v4, v7, v8, ()) h
theorem f54c38_l1_succ (N : Nat) (M : Nat) (v0 : SL) (v1 : (Option (Nat × Nat) × Unit)) (v4 : Int) (v7 : Int) (v8 : Int) (h : Heap) : f54c38_l1 N (M + 1) v0 v1 v4 v7 v8 h = f54c38_l1_b N (f54c38_l1 N M) v0 v1 v4 v7 v8 h := rfl
theorem f54c38_l1_zero (N : Nat) (v0 : SL) (v1 : (Option (Nat × Nat) × Unit)) (v4 : Int) (v7 : Int) (v8 : Int) (h : Heap) : f54c38_l1 N 0 v0 v1 v4 v7 v8 h = none := rfl
noncomputable def f54c38 (N : Nat) (a0 : SL) (a1 : (Option (Nat × Nat) × Unit)) (h : Heap) : Option (Int × Heap) :=
  (bind3 (f54c38_l1 N N a0 (a1.1, ()) 0 (Int.ofNat a0.len) 0 h) fun o7 (j8 : (Int × Unit)) h9 =>
  (bif eqOut o7 (.exit 0) then
   some ((-1), h9)
  else
   some (j8.1, h9)))
noncomputable def ann54c38 : Ann := (.two .n (.two (.two .n (.two (.loop [(0, (.one .slice)), (1, (.clo 38 [.ptr])), (4, (.one (.int .i64))), (7, (.one (.int .i64))), (8, (.one (.int .i64)))] [(.exit 0), .ret] [(4, (.one (.int .i64)))] .n) .n)) .n))
theorem f54c38_ok (N : Nat) : FnOK Tryd.prog 54 [(.one .slice), (.clo 38 [.ptr])] (.val (.one (.int .i64))) (fun x h => f54c38 N x.1 x.2.1 h) :=
  runK_ok envOK hmix (addCall_ok (f38_ok N) noCalls_ok) (N := N) (x := ann54c38) (fn := Tryd.f54) (c := Tryd.f54.body.getD .skip) (by kernel_rfl) (by kernel_rfl) (by kernel_rfl) (by kernel_rfl) (fun _ _ => by kernel_rfl)

/- slices.ContainsFunc[[]usufruct/api.Inst,usufruct/api.Inst], given usufruct/mir.May$1 -/
noncomputable def f37c38 (N : Nat) (a0 : SL) (a1 : (Option (Nat × Nat) × Unit)) (h : Heap) : Option (Bool × Heap) :=
  (bind2 (f54c38 N a0 (a1.1, ()) h) fun (x1 : Int) h2 =>
  let x3 : Bool := leInt 0 x1
  some (x3, h2))
noncomputable def ann37c38 : Ann := .n
theorem f37c38_ok (N : Nat) : FnOK Tryd.prog 37 [(.one .slice), (.clo 38 [.ptr])] (.val (.one .bool)) (fun x h => f37c38 N x.1 x.2.1 h) :=
  runK_ok envOK hmix (addCallS_ok (sel := fun a => isClo 1 38 a) (f54c38_ok N) noCalls_ok) (N := N) (x := ann37c38) (fn := Tryd.f37) (c := Tryd.f37.body.getD .skip) (by kernel_rfl) (by kernel_rfl) (by kernel_rfl) (by kernel_rfl) (fun _ _ => by kernel_rfl)

/- usufruct/mir.May -/
noncomputable def f20_l2_b (N : Nat) (go : Option (Nat × Nat) → Bool → SL → Int → Int → Heap → Option (Out × (Option (Nat × Nat) × Bool × Unit) × Heap)) (v1 : Option (Nat × Nat)) (v2 : Bool) (v52 : SL) (v53 : Int) (v54 : Int) (h : Heap) : Option (Out × (Option (Nat × Nat) × Bool × Unit) × Heap) :=
  let x37 : Bool := ltInt v54 v53
  (bif x37 then
   (ixK v52.a v52.len v54 6 fun q38 =>
   (bindV (.val (.agg [.str, (.int .i64), .str, .slice, .slice, .bool])) (h.cells q38 6) fun (x39 : (List UInt8 × Int × List UInt8 × SL × SL × Bool × Unit)) =>
   let h40 : Heap := h.push (.row [(.str []), (.int .i64 0), (.str []), (.slice none 0 0 0), (.slice none 0 0 0), (.bool false)] .own)
   (need (h40.store (h.next, 0) [(.str x39.1), (.int .i64 x39.2.1), (.str x39.2.2.1), (.slice x39.2.2.2.1.a x39.2.2.2.1.len x39.2.2.2.1.cap x39.2.2.2.1.sz), (.slice x39.2.2.2.2.1.a x39.2.2.2.2.1.len x39.2.2.2.2.1.cap x39.2.2.2.2.1.sz), (.bool x39.2.2.2.2.2.1)]) fun h41 =>
   (bindV (.val (.agg [(.int .i64), .str, .slice, .slice])) (h41.cells ((h.next, 0).1, (h.next, 0).2 + 1) 4) fun (x42 : (Int × List UInt8 × SL × SL × Unit)) =>
   (need v1 fun q43 =>
   (bindV (.val (.one (.int .i64))) (h41.cell (q43.1, q43.2 + 2)) fun (x44 : Int) =>
   (bind2 (f36 N N (x42.1, x42.2.1, x42.2.2.1, x42.2.2.2.1, ()) x44 1 h41) fun (x45 : Bool) h46 =>
   let x47 : Bool := !x45
   (bif x47 then
    some (Out.ret, (v1, false, ()), h46)
   else
    let x48 : Int := wrapA .i64 (v54 + 1)
    go v1 v2 v52 v53 x48 h46))))))))
  else
   some ((Out.exit 2), (v1, v2, ()), h))
noncomputable def f20_l2 (N : Nat) (M : Nat) (v1 : Option (Nat × Nat)) (v2 : Bool) (v52 : SL) (v53 : Int) (v54 : Int) (h : Heap) : Option (Out × (Option (Nat × Nat) × Bool × Unit) × Heap) := iter (fun go s h => f20_l2_b N (fun v1 v2 v52 v53 v54 h => go (v1, v2, v52, v53, v54, ()) h) s.1 s.2.1 s.2.2.1 s.2.2.2.1 s.2.2.2.2.1 h) M (v1, v2, v52, v53, v54, ()) h
theorem f20_l2_succ (N : Nat) (M : Nat) (v1 : Option (Nat × Nat)) (v2 : Bool) (v52 : SL) (v53 : Int) (v54 : Int) (h : Heap) : f20_l2 N (M + 1) v1 v2 v52 v53 v54 h = f20_l2_b N (f20_l2 N M) v1 v2 v52 v53 v54 h := rfl
theorem f20_l2_zero (N : Nat) (v1 : Option (Nat × Nat)) (v2 : Bool) (v52 : SL) (v53 : Int) (v54 : Int) (h : Heap) : f20_l2 N 0 v1 v2 v52 v53 v54 h = none := rfl
noncomputable def f20_l1_b (N : Nat) (go : Option (Nat × Nat) → Bool → SL → Int → Int → Heap → Option (Out × (Option (Nat × Nat) × Bool × Unit) × Heap)) (v1 : Option (Nat × Nat)) (v2 : Bool) (v39 : SL) (v40 : Int) (v41 : Int) (h : Heap) : Option (Out × (Option (Nat × Nat) × Bool × Unit) × Heap) :=
  let x20 : Bool := ltInt v41 v40
  (bif x20 then
   (ixK v39.a v39.len v41 2 fun q21 =>
   (bindV (.val (.agg [(.int .i64), (.int .i64)])) (h.cells q21 2) fun (x22 : (Int × Int × Unit)) =>
   let h23 : Heap := h.push (.row [(.int .i64 0), (.int .i64 0)] .own)
   (need (h23.store (h.next, 0) [(.int .i64 x22.1), (.int .i64 x22.2.1)]) fun h24 =>
   (bindV (.val (.one .slice)) (sliceA E h24 60 (.ptr (some (h.next, 0))) none none) fun (x25 : SL) =>
   (need v1 fun q26 =>
   (bindV (.val (.one (.int .i64))) (h24.cell (q26.1, q26.2 + 1)) fun (x27 : Int) =>
   (bind2 (f35 N x25 x27 h24) fun (x28 : Bool) h29 =>
   let x30 : Bool := !x28
   (bif x30 then
    some (Out.ret, (v1, false, ()), h29)
   else
    let x31 : Int := wrapA .i64 (v41 + 1)
    go v1 v2 v39 v40 x31 h29))))))))
  else
   some ((Out.exit 0), (v1, v2, ()), h))
noncomputable def f20_l1 (N : Nat) (M : Nat) (v1 : Option (Nat × Nat)) (v2 : Bool) (v39 : SL) (v40 : Int) (v41 : Int) (h : Heap) : Option (Out × (Option (Nat × Nat) × Bool × Unit) × Heap) := iter (fun go s h => f20_l1_b N (fun v1 v2 v39 v40 v41 h => go (v1, v2, v39, v40, v41, ()) h) s.1 s.2.1 s.2.2.1 s.2.2.2.1 s.2.2.2.2.1 h) M (v1, v2, v39, v40, v41, ()) h
theorem f20_l1_succ (N : Nat) (M : Nat) (v1 : Option (Nat × Nat)) (v2 : Bool) (v39 : SL) (v40 : Int) (v41 : Int) (h : Heap) : f20_l1 N (M + 1) v1 v2 v39 v40 v41 h = f20_l1_b N (f20_l1 N M) v1 v2 v39 v40 v41 h := rfl
theorem f20_l1_zero (N : Nat) (v1 : Option (Nat × Nat)) (v2 : Bool) (v39 : SL) (v40 : Int) (v41 : Int) (h : Heap) : f20_l1 N 0 v1 v2 v39 v40 v41 h = none := rfl
noncomputable def f20 (N : Nat) (a0 : (Int × Int × Int × SL × SL × SL × Unit)) (h : Heap) : Option (Bool × Heap) :=
  let h1 : Heap := h.push (.row [(.int .i64 a0.1), (.int .i64 a0.2.1), (.int .i64 a0.2.2.1), (.slice a0.2.2.2.1.a a0.2.2.2.1.len a0.2.2.2.1.cap a0.2.2.2.1.sz), (.slice a0.2.2.2.2.1.a a0.2.2.2.2.1.len a0.2.2.2.2.1.cap a0.2.2.2.2.1.sz), (.slice a0.2.2.2.2.2.1.a a0.2.2.2.2.2.1.len a0.2.2.2.2.2.1.cap a0.2.2.2.2.2.1.sz)] .own)
  (bindV (.val (.one (.int .i64))) (h1.cell ((h.next, 0).1, (h.next, 0).2 + 1)) fun (x2 : Int) =>
  let x3 : Bool := ltInt x2 0
  (bif x3 then
   some (false, h1)
  else
   (bindV (.val (.one (.int .i64))) (h1.cell ((h.next, 0).1, (h.next, 0).2 + 1)) fun (x4 : Int) =>
   (bindV (.val (.one (.int .i64))) (h1.cell ((h.next, 0).1, (h.next, 0).2 + 2)) fun (x5 : Int) =>
   let x6 : Bool := ltInt x5 x4
   (bif x6 then
    some (false, h1)
   else
    (bindV (.val (.one (.int .i64))) (h1.cell ((h.next, 0).1, (h.next, 0).2 + 2)) fun (x7 : Int) =>
    let x8 : Bool := ltInt 1048576 x7
    (bif x8 then
     some (false, h1)
    else
     (bindV (.val (.one .slice)) (h1.cell ((h.next, 0).1, (h.next, 0).2 + 4)) fun (x9 : SL) =>
     let x10 : Int := wrapA .i64 ((Int.ofNat x9.len) - 1)
     (bind2 (f34 N x10 6000 h1) fun (x11 : Bool) h12 =>
     let x13 : Bool := !x11
     (bif x13 then
      some (false, h12)
     else
      (bindV (.val (.one .slice)) (h12.cell ((h.next, 0).1, (h.next, 0).2 + 5)) fun (x14 : SL) =>
      let x15 : Int := wrapA .i64 ((Int.ofNat x14.len) - 1)
      (bind2 (f34 N x15 6000 h12) fun (x16 : Bool) h17 =>
      let x18 : Bool := !x16
      (bif x18 then
       some (false, h17)
      else
       (bindV (.val (.one .slice)) (h17.cell ((h.next, 0).1, (h.next, 0).2 + 3)) fun (x19 : SL) =>
       (bind3 (f20_l1 N N (some (h.next, 0)) false x19 (Int.ofNat x19.len) 0 h17) fun o32 (j33 : (Option (Nat × Nat) × Bool × Unit)) h34 =>
       (bif eqOut o32 (.exit 0) then
        (need j33.1 fun q35 =>
        (bindV (.val (.one .slice)) (h34.cell (q35.1, q35.2 + 4)) fun (x36 : SL) =>
        (bind3 (f20_l2 N N j33.1 j33.2.1 x36 (Int.ofNat x36.len) 0 h34) fun o49 (j50 : (Option (Nat × Nat) × Bool × Unit)) h51 =>
        (bif eqOut o49 (.exit 2) then
         (need j50.1 fun q52 =>
         (bindV (.val (.one .slice)) (h51.cell (q52.1, q52.2 + 5)) fun (x53 : SL) =>
         (bind2 (f37c38 N x53 (j50.1, ()) h51) fun (x54 : Bool) h55 =>
         let x56 : Bool := !x54
         some (x56, h55))))
        else
         some (j50.2.1, h51)))))
       else
        some (j33.2.1, h34)))))))))))))))))
noncomputable def ann20 : Ann := (.two .n (.two .n (.two (.two .n (.two (.loop [(1, (.one .ptr)), (2, (.one .bool)), (39, (.one .slice)), (40, (.one (.int .i64))), (41, (.one (.int .i64)))] [(.exit 0), .ret] [(1, (.one .ptr)), (2, (.one .bool))] .n) .n)) (.two (.two .n (.two (.loop [(1, (.one .ptr)), (2, (.one .bool)), (52, (.one .slice)), (53, (.one (.int .i64))), (54, (.one (.int .i64)))] [(.exit 2), .ret] [(1, (.one .ptr)), (2, (.one .bool))] .n) .n)) .n))))
theorem f20_ok (N : Nat) : FnOK Tryd.prog 20 [(.agg [(.int .i64), (.int .i64), (.int .i64), .slice, .slice, .slice])] (.val (.one .bool)) (fun x h => f20 N x.1 h) :=
  runK_ok envOK hmix (addCallS_ok (sel := fun a => isClo 1 38 a) (f37c38_ok N) (addCall_ok (f36_ok N) (addCall_ok (f35_ok N) (addCall_ok (f34_ok N) noCalls_ok)))) (N := N) (x := ann20) (fn := Tryd.f20) (c := Tryd.f20.body.getD .skip) (by kernel_rfl) (by kernel_rfl) (by kernel_rfl) (by kernel_rfl) (fun _ _ => by kernel_rfl)

/- slices.Equal[[][2]int,[2]int] -/
noncomputable def f40_l1_b (N : Nat) (go : SL → SL → Bool → Int → Int → Heap → Option (Out × (Bool × Unit) × Heap)) (v0 : SL) (v1 : SL) (v4 : Bool) (v12 : Int) (v13 : Int) (h : Heap) : Option (Out × (Bool × Unit) × Heap) :=
  let x2 : Bool := ltInt v13 v12
  (bif x2 then
   (ixK v0.a v0.len v13 2 fun q3 =>
   (bindV (.val (.agg [(.int .i64), (.int .i64)])) (h.cells q3 2) fun (x4 : (Int × Int × Unit)) =>
   (ixK v1.a v1.len v13 2 fun q5 =>
   (bindV (.val (.agg [(.int .i64), (.int .i64)])) (h.cells q5 2) fun (x6 : (Int × Int × Unit)) =>
   (bindV (.val (.one .bool)) (binA E .neq 60 (.tmp 19) (.tmp 23) (.agg [(.int .i64 x4.1), (.int .i64 x4.2.1)]) (.agg [(.int .i64 x6.1), (.int .i64 x6.2.1)])) fun (x7 : Bool) =>
   (bif x7 then
    some (Out.ret, (false, ()), h)
   else
    let x8 : Int := wrapA .i64 (v13 + 1)
    go v0 v1 v4 v12 x8 h))))))
  else
   some ((Out.exit 0), (v4, ()), h))
noncomputable def f40_l1 (N : Nat) (M : Nat) (v0 : SL) (v1 : SL) (v4 : Bool) (v12 : Int) (v13 : Int) (h : Heap) : Option (Out × (Bool × Unit) × Heap) := iter (fun go s h => f40_l1_b N (fun v0 v1 v4 v12 v13 h => go (v0, v1, v4, v12, v13, ()) h) s.1 s.2.1 s.2.2.1 s.2.2.2.1 s.2.2.2.2.1 h) M (v0, v1, v4, v12, v13, ()) h
theorem f40_l1_succ (N : Nat) (M : Nat) (v0 : SL) (v1 : SL) (v4 : Bool) (v12 : Int) (v13 : Int) (h : Heap) : f40_l1 N (M + 1) v0 v1 v4 v12 v13 h = f40_l1_b N (f40_l1 N M) v0 v1 v4 v12 v13 h := rfl
theorem f40_l1_zero (N : Nat) (v0 : SL) (v1 : SL) (v4 : Bool) (v12 : Int) (v13 : Int) (h : Heap) : f40_l1 N 0 v0 v1 v4 v12 v13 h = none := rfl
noncomputable def f40 (N : Nat) (a0 : SL) (a1 : SL) (h : Heap) : Option (Bool × Heap) :=
  let x1 : Bool := !eqInt (Int.ofNat a0.len) (Int.ofNat a1.len)
  (bif x1 then
   some (false, h)
  else
   (bind3 (f40_l1 N N a0 a1 false (Int.ofNat a0.len) 0 h) fun o9 (j10 : (Bool × Unit)) h11 =>
   (bif eqOut o9 (.exit 0) then
    some (true, h11)
   else
    some (j10.1, h11))))
noncomputable def ann40 : Ann := (.two .n (.two .n (.two (.two .n (.two (.loop [(0, (.one .slice)), (1, (.one .slice)), (4, (.one .bool)), (12, (.one (.int .i64))), (13, (.one (.int .i64)))] [(.exit 0), .ret] [(4, (.one .bool))] .n) .n)) .n)))
theorem f40_ok (N : Nat) : FnOK Tryd.prog 40 [(.one .slice), (.one .slice)] (.val (.one .bool)) (fun x h => f40 N x.1 x.2.1 h) :=
  runK_ok envOK hmix noCalls_ok (N := N) (x := ann40) (fn := Tryd.f40) (c := Tryd.f40.body.getD .skip) (by kernel_rfl) (by kernel_rfl) (by kernel_rfl) (by kernel_rfl) (fun _ _ => by kernel_rfl)

/- slices.Equal[[]int,int] -/
noncomputable def f60_l1_b (N : Nat) (go : SL → SL → Bool → Int → Int → Heap → Option (Out × (Bool × Unit) × Heap)) (v0 : SL) (v1 : SL) (v4 : Bool) (v12 : Int) (v13 : Int) (h : Heap) : Option (Out × (Bool × Unit) × Heap) :=
  let x2 : Bool := ltInt v13 v12
  (bif x2 then
   (ixK v0.a v0.len v13 1 fun q3 =>
   (bindV (.val (.one (.int .i64))) (h.cell q3) fun (x4 : Int) =>
   (ixK v1.a v1.len v13 1 fun q5 =>
   (bindV (.val (.one (.int .i64))) (h.cell q5) fun (x6 : Int) =>
   let x7 : Bool := !eqInt x4 x6
   (bif x7 then
    some (Out.ret, (false, ()), h)
   else
    let x8 : Int := wrapA .i64 (v13 + 1)
    go v0 v1 v4 v12 x8 h)))))
  else
   some ((Out.exit 0), (v4, ()), h))
noncomputable def f60_l1 (N : Nat) (M : Nat) (v0 : SL) (v1 : SL) (v4 : Bool) (v12 : Int) (v13 : Int) (h : Heap) : Option (Out × (Bool × Unit) × Heap) := iter (fun go s h => f60_l1_b N (fun v0 v1 v4 v12 v13 h => go (v0, v1, v4, v12, v13, ()) h) s.1 s.2.1 s.2.2.1 s.2.2.2.1 s.2.2.2.2.1 h) M (v0, v1, v4, v12, v13, ()) h
theorem f60_l1_succ (N : Nat) (M : Nat) (v0 : SL) (v1 : SL) (v4 : Bool) (v12 : Int) (v13 : Int) (h : Heap) : f60_l1 N (M + 1) v0 v1 v4 v12 v13 h = f60_l1_b N (f60_l1 N M) v0 v1 v4 v12 v13 h := rfl
theorem f60_l1_zero (N : Nat) (v0 : SL) (v1 : SL) (v4 : Bool) (v12 : Int) (v13 : Int) (h : Heap) : f60_l1 N 0 v0 v1 v4 v12 v13 h = none := rfl
noncomputable def f60 (N : Nat) (a0 : SL) (a1 : SL) (h : Heap) : Option (Bool × Heap) :=
  let x1 : Bool := !eqInt (Int.ofNat a0.len) (Int.ofNat a1.len)
  (bif x1 then
   some (false, h)
  else
   (bind3 (f60_l1 N N a0 a1 false (Int.ofNat a0.len) 0 h) fun o9 (j10 : (Bool × Unit)) h11 =>
   (bif eqOut o9 (.exit 0) then
    some (true, h11)
   else
    some (j10.1, h11))))
noncomputable def ann60 : Ann := (.two .n (.two .n (.two (.two .n (.two (.loop [(0, (.one .slice)), (1, (.one .slice)), (4, (.one .bool)), (12, (.one (.int .i64))), (13, (.one (.int .i64)))] [(.exit 0), .ret] [(4, (.one .bool))] .n) .n)) .n)))
theorem f60_ok (N : Nat) : FnOK Tryd.prog 60 [(.one .slice), (.one .slice)] (.val (.one .bool)) (fun x h => f60 N x.1 x.2.1 h) :=
  runK_ok envOK hmix noCalls_ok (N := N) (x := ann60) (fn := Tryd.f60) (c := Tryd.f60.body.getD .skip) (by kernel_rfl) (by kernel_rfl) (by kernel_rfl) (by kernel_rfl) (fun _ _ => by kernel_rfl)

/- usufruct/mir.sameType -/
noncomputable def f57_r (N : Nat) (rec57 : (Int × List UInt8 × SL × SL × Unit) → (Int × List UInt8 × SL × SL × Unit) → Heap → Option (Bool × Heap)) (rec68c57 : SL → SL → (Unit) → Heap → Option (Bool × Heap)) (a0 : (Int × List UInt8 × SL × SL × Unit)) (a1 : (Int × List UInt8 × SL × SL × Unit)) (h : Heap) : Option (Bool × Heap) :=
  let h1 : Heap := h.push (.row [(.int .i64 a0.1), (.str a0.2.1), (.slice a0.2.2.1.a a0.2.2.1.len a0.2.2.1.cap a0.2.2.1.sz), (.slice a0.2.2.2.1.a a0.2.2.2.1.len a0.2.2.2.1.cap a0.2.2.2.1.sz)] .own)
  let h2 : Heap := h1.push (.row [(.int .i64 a1.1), (.str a1.2.1), (.slice a1.2.2.1.a a1.2.2.1.len a1.2.2.1.cap a1.2.2.1.sz), (.slice a1.2.2.2.1.a a1.2.2.2.1.len a1.2.2.2.1.cap a1.2.2.2.1.sz)] .own)
  (bindV (.val (.one (.int .i64))) (h2.cell ((h.next, 0).1, (h.next, 0).2 + 0)) fun (x3 : Int) =>
  (bindV (.val (.one (.int .i64))) (h2.cell ((h1.next, 0).1, (h1.next, 0).2 + 0)) fun (x4 : Int) =>
  let x5 : Bool := eqInt x3 x4
  (bif x5 then
   (bindV (.val (.one .str)) (h2.cell ((h.next, 0).1, (h.next, 0).2 + 1)) fun (x6 : List UInt8) =>
   (bindV (.val (.one .str)) (h2.cell ((h1.next, 0).1, (h1.next, 0).2 + 1)) fun (x7 : List UInt8) =>
   let x8 : Bool := eqBytes x6 x7
   (bif x8 then
    (bindV (.val (.one .slice)) (h2.cell ((h.next, 0).1, (h.next, 0).2 + 2)) fun (x9 : SL) =>
    (bindV (.val (.one .slice)) (h2.cell ((h1.next, 0).1, (h1.next, 0).2 + 2)) fun (x10 : SL) =>
    (bind2 (f60 N x9 x10 h2) fun (x11 : Bool) h12 =>
    (bif x11 then
     (bindV (.val (.one .slice)) (h12.cell ((h.next, 0).1, (h.next, 0).2 + 3)) fun (x13 : SL) =>
     (bindV (.val (.one .slice)) (h12.cell ((h1.next, 0).1, (h1.next, 0).2 + 3)) fun (x14 : SL) =>
     (bind2 (rec68c57 x13 x14 (()) h12) fun (x15 : Bool) h16 =>
     some (x15, h16))))
    else
     some (false, h12)))))
   else
    some (false, h2))))
  else
   some (false, h2))))
noncomputable def ann57 : Ann := .n

/- slices.EqualFunc[[]usufruct/api.RType,[]usufruct/api.RType,usufruct/api.RType,usufruct/api.RType], given usufruct/mir.sameType -/
noncomputable def f68c57_l1_b (N : Nat) (rec57 : (Int × List UInt8 × SL × SL × Unit) → (Int × List UInt8 × SL × SL × Unit) → Heap → Option (Bool × Heap)) (rec68c57 : SL → SL → (Unit) → Heap → Option (Bool × Heap)) (go : SL → (Unit) → Bool → SL → Int → Int → Heap → Option (Out × (Bool × Unit) × Heap)) (v1 : SL) (v2 : (Unit)) (v6 : Bool) (v15 : SL) (v16 : Int) (v17 : Int) (h : Heap) : Option (Out × (Bool × Unit) × Heap) :=
  let x2 : Bool := ltInt v17 v16
  (bif x2 then
   (ixK v15.a v15.len v17 4 fun q3 =>
   (bindV (.val (.agg [(.int .i64), .str, .slice, .slice])) (h.cells q3 4) fun (x4 : (Int × List UInt8 × SL × SL × Unit)) =>
   let h5 : Heap := h.push (.row [(.int .i64 0), (.str []), (.slice none 0 0 0), (.slice none 0 0 0)] .own)
   (need (h5.store (h.next, 0) [(.int .i64 x4.1), (.str x4.2.1), (.slice x4.2.2.1.a x4.2.2.1.len x4.2.2.1.cap x4.2.2.1.sz), (.slice x4.2.2.2.1.a x4.2.2.2.1.len x4.2.2.2.1.cap x4.2.2.2.1.sz)]) fun h6 =>
   (ixK v1.a v1.len v17 4 fun q7 =>
   (bindV (.val (.agg [(.int .i64), .str, .slice, .slice])) (h6.cells q7 4) fun (x8 : (Int × List UInt8 × SL × SL × Unit)) =>
   let h9 : Heap := h6.push (.row [(.int .i64 0), (.str []), (.slice none 0 0 0), (.slice none 0 0 0)] .own)
   (need (h9.store (h6.next, 0) [(.int .i64 x8.1), (.str x8.2.1), (.slice x8.2.2.1.a x8.2.2.1.len x8.2.2.1.cap x8.2.2.1.sz), (.slice x8.2.2.2.1.a x8.2.2.2.1.len x8.2.2.2.1.cap x8.2.2.2.1.sz)]) fun h10 =>
   (bindV (.val (.agg [(.int .i64), .str, .slice, .slice])) (h10.cells (h.next, 0) 4) fun (x11 : (Int × List UInt8 × SL × SL × Unit)) =>
   (bindV (.val (.agg [(.int .i64), .str, .slice, .slice])) (h10.cells (h6.next, 0) 4) fun (x12 : (Int × List UInt8 × SL × SL × Unit)) =>
   (bind2 (rec57 (x11.1, x11.2.1, x11.2.2.1, x11.2.2.2.1, ()) (x12.1, x12.2.1, x12.2.2.1, x12.2.2.2.1, ()) h10) fun (x13 : Bool) h14 =>
   let x15 : Bool := !x13
   (bif x15 then
    some (Out.ret, (false, ()), h14)
   else
    let x16 : Int := wrapA .i64 (v17 + 1)
    go v1 (()) v6 v15 v16 x16 h14))))))))))
  else
   some ((Out.exit 0), (v6, ()), h))
noncomputable def f68c57_l1 (N : Nat) (rec57 : (Int × List UInt8 × SL × SL × Unit) → (Int × List UInt8 × SL × SL × Unit) → Heap → Option (Bool × Heap)) (rec68c57 : SL → SL → (Unit) → Heap → Option (Bool × Heap)) (M : Nat) (v1 : SL) (v2 : (Unit)) (v6 : Bool) (v15 : SL) (v16 : Int) (v17 : Int) (h : Heap) : Option (Out × (Bool × Unit) × Heap) := iter (fun go s h => f68c57_l1_b N rec57 rec68c57 (fun v1 v2 v6 v15 v16 v17 h => go (v1, v2, v6, v15, v16, v17, ()) h) s.1 s.2.1 s.2.2.1 s.2.2.2.1 s.2.2.2.2.1 s.2.2.2.2.2.1 h) M (v1, v2, v6, v15, v16, v17, ()) h
theorem f68c57_l1_succ (N : Nat) (rec57 : (Int × List UInt8 × SL × SL × Unit) → (Int × List UInt8 × SL × SL × Unit) → Heap → Option (Bool × Heap)) (rec68c57 : SL → SL → (Unit) → Heap → Option (Bool × Heap)) (M : Nat) (v1 : SL) (v2 : (Unit)) (v6 : Bool) (v15 : SL) (v16 : Int) (v17 : Int) (h : Heap) : f68c57_l1 N rec57 rec68c57 (M + 1) v1 v2 v6 v15 v16 v17 h = f68c57_l1_b N rec57 rec68c57 (f68c57_l1 N rec57 rec68c57 M) v1 v2 v6 v15 v16 v17 h := rfl
theorem f68c57_l1_zero (N : Nat) (rec57 : (Int × List UInt8 × SL × SL × Unit) → (Int × List UInt8 × SL × SL × Unit) → Heap → Option (Bool × Heap)) (rec68c57 : SL → SL → (Unit) → Heap → Option (Bool × Heap)) (v1 : SL) (v2 : (Unit)) (v6 : Bool) (v15 : SL) (v16 : Int) (v17 : Int) (h : Heap) : f68c57_l1 N rec57 rec68c57 0 v1 v2 v6 v15 v16 v17 h = none := rfl
noncomputable def f68c57_r (N : Nat) (rec57 : (Int × List UInt8 × SL × SL × Unit) → (Int × List UInt8 × SL × SL × Unit) → Heap → Option (Bool × Heap)) (rec68c57 : SL → SL → (Unit) → Heap → Option (Bool × Heap)) (a0 : SL) (a1 : SL) (a2 : (Unit)) (h : Heap) : Option (Bool × Heap) :=
  let x1 : Bool := !eqInt (Int.ofNat a0.len) (Int.ofNat a1.len)
  (bif x1 then
   some (false, h)
  else
   (bind3 (f68c57_l1 N rec57 rec68c57 N a1 (()) false a0 (Int.ofNat a0.len) 0 h) fun o17 (j18 : (Bool × Unit)) h19 =>
   (bif eqOut o17 (.exit 0) then
    some (true, h19)
   else
    some (j18.1, h19))))
noncomputable def ann68c57 : Ann := (.two .n (.two .n (.two (.two .n (.two (.loop [(1, (.one .slice)), (2, (.clo 57 [])), (6, (.one .bool)), (15, (.one .slice)), (16, (.one (.int .i64))), (17, (.one (.int .i64)))] [(.exit 0), .ret] [(6, (.one .bool))] .n) .n)) .n)))

noncomputable def cl_f57 (N M : Nat) : (((Int × List UInt8 × SL × SL × Unit) → (Int × List UInt8 × SL × SL × Unit) → Heap → Option (Bool × Heap)) × (SL → SL → (Unit) → Heap → Option (Bool × Heap)) × Unit) := Nat.rec (fun _ _ _ => none, fun _ _ _ _ => none, ()) (fun _ r => (f57_r N r.1 r.2.1, f68c57_r N r.1 r.2.1, ())) M
noncomputable def f57 (N M : Nat) : (Int × List UInt8 × SL × SL × Unit) → (Int × List UInt8 × SL × SL × Unit) → Heap → Option (Bool × Heap) := (cl_f57 N M).1
noncomputable def f68c57 (N M : Nat) : SL → SL → (Unit) → Heap → Option (Bool × Heap) := (cl_f57 N M).2.1
theorem f57_succ (N M : Nat) (a0 : (Int × List UInt8 × SL × SL × Unit)) (a1 : (Int × List UInt8 × SL × SL × Unit)) (h : Heap) : f57 N (M + 1) a0 a1 h = f57_r N (f57 N M) (f68c57 N M) a0 a1 h := rfl
theorem f68c57_succ (N M : Nat) (a0 : SL) (a1 : SL) (a2 : (Unit)) (h : Heap) : f68c57 N (M + 1) a0 a1 a2 h = f68c57_r N (f57 N M) (f68c57 N M) a0 a1 a2 h := rfl
theorem cl_f57_okm (N : Nat) : ∀ M : Nat, (FnOK Tryd.prog 57 [(.agg [(.int .i64), .str, .slice, .slice]), (.agg [(.int .i64), .str, .slice, .slice])] (.val (.one .bool)) (fun x h => f57 N M x.1 x.2.1 h)) ∧ (FnOK Tryd.prog 68 [(.one .slice), (.one .slice), (.clo 57 [])] (.val (.one .bool)) (fun x h => f68c57 N M x.1 x.2.1 x.2.2.1 h)) ∧ True
  | 0 => ⟨(fun xs h r h' hx => by cases hx), (fun xs h r h' hx => by cases hx), trivial⟩
  | M + 1 => ⟨runK_ok envOK hmix (addCallS_ok (sel := fun a => isClo 2 57 a) (cl_f57_okm N M).2.1 (addCall_ok (f60_ok N) noCalls_ok)) (N := N) (x := ann57) (fn := Tryd.f57) (c := Tryd.f57.body.getD .skip) (by kernel_rfl) (by kernel_rfl) (by kernel_rfl) (by kernel_rfl) (fun _ _ => by kernel_rfl), runK_ok envOK hmix (addCall_ok (cl_f57_okm N M).1 noCalls_ok) (N := N) (x := ann68c57) (fn := Tryd.f68) (c := Tryd.f68.body.getD .skip) (by kernel_rfl) (by kernel_rfl) (by kernel_rfl) (by kernel_rfl) (fun _ _ => by kernel_rfl), trivial⟩
theorem f57_ok (N : Nat) : FnOK Tryd.prog 57 [(.agg [(.int .i64), .str, .slice, .slice]), (.agg [(.int .i64), .str, .slice, .slice])] (.val (.one .bool)) (fun x h => f57 N N x.1 x.2.1 h) := (cl_f57_okm N N).1
theorem f68c57_ok (N : Nat) : FnOK Tryd.prog 68 [(.one .slice), (.one .slice), (.clo 57 [])] (.val (.one .bool)) (fun x h => f68c57 N N x.1 x.2.1 x.2.2.1 h) := (cl_f57_okm N N).2.1

/- usufruct/mir.sameLocal -/
noncomputable def f42 (N : Nat) (a0 : (List UInt8 × Int × List UInt8 × SL × SL × Bool × Unit)) (a1 : (List UInt8 × Int × List UInt8 × SL × SL × Bool × Unit)) (h : Heap) : Option (Bool × Heap) :=
  let h1 : Heap := h.push (.row [(.str a0.1), (.int .i64 a0.2.1), (.str a0.2.2.1), (.slice a0.2.2.2.1.a a0.2.2.2.1.len a0.2.2.2.1.cap a0.2.2.2.1.sz), (.slice a0.2.2.2.2.1.a a0.2.2.2.2.1.len a0.2.2.2.2.1.cap a0.2.2.2.2.1.sz), (.bool a0.2.2.2.2.2.1)] .own)
  let h2 : Heap := h1.push (.row [(.str a1.1), (.int .i64 a1.2.1), (.str a1.2.2.1), (.slice a1.2.2.2.1.a a1.2.2.2.1.len a1.2.2.2.1.cap a1.2.2.2.1.sz), (.slice a1.2.2.2.2.1.a a1.2.2.2.2.1.len a1.2.2.2.2.1.cap a1.2.2.2.2.1.sz), (.bool a1.2.2.2.2.2.1)] .own)
  (bindV (.val (.one .str)) (h2.cell ((h.next, 0).1, (h.next, 0).2 + 0)) fun (x3 : List UInt8) =>
  (bindV (.val (.one .str)) (h2.cell ((h1.next, 0).1, (h1.next, 0).2 + 0)) fun (x4 : List UInt8) =>
  let x5 : Bool := eqBytes x3 x4
  (bif x5 then
   (bindV (.val (.one .bool)) (h2.cell ((h.next, 0).1, (h.next, 0).2 + 5)) fun (x6 : Bool) =>
   (bindV (.val (.one .bool)) (h2.cell ((h1.next, 0).1, (h1.next, 0).2 + 5)) fun (x7 : Bool) =>
   let x8 : Bool := (bif x6 then x7 else !x7)
   (bif x8 then
    (bindV (.val (.agg [(.int .i64), .str, .slice, .slice])) (h2.cells ((h.next, 0).1, (h.next, 0).2 + 1) 4) fun (x9 : (Int × List UInt8 × SL × SL × Unit)) =>
    (bindV (.val (.agg [(.int .i64), .str, .slice, .slice])) (h2.cells ((h1.next, 0).1, (h1.next, 0).2 + 1) 4) fun (x10 : (Int × List UInt8 × SL × SL × Unit)) =>
    (bind2 (f57 N N (x9.1, x9.2.1, x9.2.2.1, x9.2.2.2.1, ()) (x10.1, x10.2.1, x10.2.2.1, x10.2.2.2.1, ()) h2) fun (x11 : Bool) h12 =>
    some (x11, h12))))
   else
    some (false, h2))))
  else
   some (false, h2))))
noncomputable def ann42 : Ann := .n
theorem f42_ok (N : Nat) : FnOK Tryd.prog 42 [(.agg [.str, (.int .i64), .str, .slice, .slice, .bool]), (.agg [.str, (.int .i64), .str, .slice, .slice, .bool])] (.val (.one .bool)) (fun x h => f42 N x.1 x.2.1 h) :=
  runK_ok envOK hmix (addCall_ok (f57_ok N) noCalls_ok) (N := N) (x := ann42) (fn := Tryd.f42) (c := Tryd.f42.body.getD .skip) (by kernel_rfl) (by kernel_rfl) (by kernel_rfl) (by kernel_rfl) (fun _ _ => by kernel_rfl)

/- slices.EqualFunc[[]usufruct/api.Local,[]usufruct/api.Local,usufruct/api.Local,usufruct/api.Local], given usufruct/mir.sameLocal -/
noncomputable def f41c42_l1_b (N : Nat) (go : SL → (Unit) → Bool → SL → Int → Int → Heap → Option (Out × (Bool × Unit) × Heap)) (v1 : SL) (v2 : (Unit)) (v6 : Bool) (v15 : SL) (v16 : Int) (v17 : Int) (h : Heap) : Option (Out × (Bool × Unit) × Heap) :=
  let x2 : Bool := ltInt v17 v16
  (bif x2 then
   (ixK v15.a v15.len v17 6 fun q3 =>
   (bindV (.val (.agg [.str, (.int .i64), .str, .slice, .slice, .bool])) (h.cells q3 6) fun (x4 : (List UInt8 × Int × List UInt8 × SL × SL × Bool × Unit)) =>
   let h5 : Heap := h.push (.row [(.str []), (.int .i64 0), (.str []), (.slice none 0 0 0), (.slice none 0 0 0), (.bool false)] .own)
   (need (h5.store (h.next, 0) [(.str x4.1), (.int .i64 x4.2.1), (.str x4.2.2.1), (.slice x4.2.2.2.1.a x4.2.2.2.1.len x4.2.2.2.1.cap x4.2.2.2.1.sz), (.slice x4.2.2.2.2.1.a x4.2.2.2.2.1.len x4.2.2.2.2.1.cap x4.2.2.2.2.1.sz), (.bool x4.2.2.2.2.2.1)]) fun h6 =>
   (ixK v1.a v1.len v17 6 fun q7 =>
   (bindV (.val (.agg [.str, (.int .i64), .str, .slice, .slice, .bool])) (h6.cells q7 6) fun (x8 : (List UInt8 × Int × List UInt8 × SL × SL × Bool × Unit)) =>
   let h9 : Heap := h6.push (.row [(.str []), (.int .i64 0), (.str []), (.slice none 0 0 0), (.slice none 0 0 0), (.bool false)] .own)
   (need (h9.store (h6.next, 0) [(.str x8.1), (.int .i64 x8.2.1), (.str x8.2.2.1), (.slice x8.2.2.2.1.a x8.2.2.2.1.len x8.2.2.2.1.cap x8.2.2.2.1.sz), (.slice x8.2.2.2.2.1.a x8.2.2.2.2.1.len x8.2.2.2.2.1.cap x8.2.2.2.2.1.sz), (.bool x8.2.2.2.2.2.1)]) fun h10 =>
   (bindV (.val (.agg [.str, (.int .i64), .str, .slice, .slice, .bool])) (h10.cells (h.next, 0) 6) fun (x11 : (List UInt8 × Int × List UInt8 × SL × SL × Bool × Unit)) =>
   (bindV (.val (.agg [.str, (.int .i64), .str, .slice, .slice, .bool])) (h10.cells (h6.next, 0) 6) fun (x12 : (List UInt8 × Int × List UInt8 × SL × SL × Bool × Unit)) =>
   (bind2 (f42 N (x11.1, x11.2.1, x11.2.2.1, x11.2.2.2.1, x11.2.2.2.2.1, x11.2.2.2.2.2.1, ()) (x12.1, x12.2.1, x12.2.2.1, x12.2.2.2.1, x12.2.2.2.2.1, x12.2.2.2.2.2.1, ()) h10) fun (x13 : Bool) h14 =>
   let x15 : Bool := !x13
   (bif x15 then
    some (Out.ret, (false, ()), h14)
   else
    let x16 : Int := wrapA .i64 (v17 + 1)
    go v1 (()) v6 v15 v16 x16 h14))))))))))
  else
   some ((Out.exit 0), (v6, ()), h))
noncomputable def f41c42_l1 (N : Nat) (M : Nat) (v1 : SL) (v2 : (Unit)) (v6 : Bool) (v15 : SL) (v16 : Int) (v17 : Int) (h : Heap) : Option (Out × (Bool × Unit) × Heap) := iter (fun go s h => f41c42_l1_b N (fun v1 v2 v6 v15 v16 v17 h => go (v1, v2, v6, v15, v16, v17, ()) h) s.1 s.2.1 s.2.2.1 s.2.2.2.1 s.2.2.2.2.1 s.2.2.2.2.2.1 h) M (v1, v2, v6, v15, v16, v17, ()) h
theorem f41c42_l1_succ (N : Nat) (M : Nat) (v1 : SL) (v2 : (Unit)) (v6 : Bool) (v15 : SL) (v16 : Int) (v17 : Int) (h : Heap) : f41c42_l1 N (M + 1) v1 v2 v6 v15 v16 v17 h = f41c42_l1_b N (f41c42_l1 N M) v1 v2 v6 v15 v16 v17 h := rfl
theorem f41c42_l1_zero (N : Nat) (v1 : SL) (v2 : (Unit)) (v6 : Bool) (v15 : SL) (v16 : Int) (v17 : Int) (h : Heap) : f41c42_l1 N 0 v1 v2 v6 v15 v16 v17 h = none := rfl
noncomputable def f41c42 (N : Nat) (a0 : SL) (a1 : SL) (a2 : (Unit)) (h : Heap) : Option (Bool × Heap) :=
  let x1 : Bool := !eqInt (Int.ofNat a0.len) (Int.ofNat a1.len)
  (bif x1 then
   some (false, h)
  else
   (bind3 (f41c42_l1 N N a1 (()) false a0 (Int.ofNat a0.len) 0 h) fun o17 (j18 : (Bool × Unit)) h19 =>
   (bif eqOut o17 (.exit 0) then
    some (true, h19)
   else
    some (j18.1, h19))))
noncomputable def ann41c42 : Ann := (.two .n (.two .n (.two (.two .n (.two (.loop [(1, (.one .slice)), (2, (.clo 42 [])), (6, (.one .bool)), (15, (.one .slice)), (16, (.one (.int .i64))), (17, (.one (.int .i64)))] [(.exit 0), .ret] [(6, (.one .bool))] .n) .n)) .n)))
theorem f41c42_ok (N : Nat) : FnOK Tryd.prog 41 [(.one .slice), (.one .slice), (.clo 42 [])] (.val (.one .bool)) (fun x h => f41c42 N x.1 x.2.1 x.2.2.1 h) :=
  runK_ok envOK hmix (addCall_ok (f42_ok N) noCalls_ok) (N := N) (x := ann41c42) (fn := Tryd.f41) (c := Tryd.f41.body.getD .skip) (by kernel_rfl) (by kernel_rfl) (by kernel_rfl) (by kernel_rfl) (fun _ _ => by kernel_rfl)

/- slices.Equal[[]string,string] -/
noncomputable def f23_l1_b (N : Nat) (go : SL → SL → Bool → Int → Int → Heap → Option (Out × (Bool × Unit) × Heap)) (v0 : SL) (v1 : SL) (v4 : Bool) (v12 : Int) (v13 : Int) (h : Heap) : Option (Out × (Bool × Unit) × Heap) :=
  let x2 : Bool := ltInt v13 v12
  (bif x2 then
   (ixK v0.a v0.len v13 1 fun q3 =>
   (bindV (.val (.one .str)) (h.cell q3) fun (x4 : List UInt8) =>
   (ixK v1.a v1.len v13 1 fun q5 =>
   (bindV (.val (.one .str)) (h.cell q5) fun (x6 : List UInt8) =>
   let x7 : Bool := !eqBytes x4 x6
   (bif x7 then
    some (Out.ret, (false, ()), h)
   else
    let x8 : Int := wrapA .i64 (v13 + 1)
    go v0 v1 v4 v12 x8 h)))))
  else
   some ((Out.exit 0), (v4, ()), h))
noncomputable def f23_l1 (N : Nat) (M : Nat) (v0 : SL) (v1 : SL) (v4 : Bool) (v12 : Int) (v13 : Int) (h : Heap) : Option (Out × (Bool × Unit) × Heap) := iter (fun go s h => f23_l1_b N (fun v0 v1 v4 v12 v13 h => go (v0, v1, v4, v12, v13, ()) h) s.1 s.2.1 s.2.2.1 s.2.2.2.1 s.2.2.2.2.1 h) M (v0, v1, v4, v12, v13, ()) h
theorem f23_l1_succ (N : Nat) (M : Nat) (v0 : SL) (v1 : SL) (v4 : Bool) (v12 : Int) (v13 : Int) (h : Heap) : f23_l1 N (M + 1) v0 v1 v4 v12 v13 h = f23_l1_b N (f23_l1 N M) v0 v1 v4 v12 v13 h := rfl
theorem f23_l1_zero (N : Nat) (v0 : SL) (v1 : SL) (v4 : Bool) (v12 : Int) (v13 : Int) (h : Heap) : f23_l1 N 0 v0 v1 v4 v12 v13 h = none := rfl
noncomputable def f23 (N : Nat) (a0 : SL) (a1 : SL) (h : Heap) : Option (Bool × Heap) :=
  let x1 : Bool := !eqInt (Int.ofNat a0.len) (Int.ofNat a1.len)
  (bif x1 then
   some (false, h)
  else
   (bind3 (f23_l1 N N a0 a1 false (Int.ofNat a0.len) 0 h) fun o9 (j10 : (Bool × Unit)) h11 =>
   (bif eqOut o9 (.exit 0) then
    some (true, h11)
   else
    some (j10.1, h11))))
noncomputable def ann23 : Ann := (.two .n (.two .n (.two (.two .n (.two (.loop [(0, (.one .slice)), (1, (.one .slice)), (4, (.one .bool)), (12, (.one (.int .i64))), (13, (.one (.int .i64)))] [(.exit 0), .ret] [(4, (.one .bool))] .n) .n)) .n)))
theorem f23_ok (N : Nat) : FnOK Tryd.prog 23 [(.one .slice), (.one .slice)] (.val (.one .bool)) (fun x h => f23 N x.1 x.2.1 h) :=
  runK_ok envOK hmix noCalls_ok (N := N) (x := ann23) (fn := Tryd.f23) (c := Tryd.f23.body.getD .skip) (by kernel_rfl) (by kernel_rfl) (by kernel_rfl) (by kernel_rfl) (fun _ _ => by kernel_rfl)

/- usufruct/mir.samePath -/
noncomputable def f58 (N : Nat) (a0 : (Int × SL × Unit)) (a1 : (Int × SL × Unit)) (h : Heap) : Option (Bool × Heap) :=
  let h1 : Heap := h.push (.row [(.int .i64 a0.1), (.slice a0.2.1.a a0.2.1.len a0.2.1.cap a0.2.1.sz)] .own)
  let h2 : Heap := h1.push (.row [(.int .i64 a1.1), (.slice a1.2.1.a a1.2.1.len a1.2.1.cap a1.2.1.sz)] .own)
  (bindV (.val (.one (.int .i64))) (h2.cell ((h.next, 0).1, (h.next, 0).2 + 0)) fun (x3 : Int) =>
  (bindV (.val (.one (.int .i64))) (h2.cell ((h1.next, 0).1, (h1.next, 0).2 + 0)) fun (x4 : Int) =>
  let x5 : Bool := eqInt x3 x4
  (bif x5 then
   (bindV (.val (.one .slice)) (h2.cell ((h.next, 0).1, (h.next, 0).2 + 1)) fun (x6 : SL) =>
   (bindV (.val (.one .slice)) (h2.cell ((h1.next, 0).1, (h1.next, 0).2 + 1)) fun (x7 : SL) =>
   (bind2 (f23 N x6 x7 h2) fun (x8 : Bool) h9 =>
   some (x8, h9))))
  else
   some (false, h2))))
noncomputable def ann58 : Ann := .n
theorem f58_ok (N : Nat) : FnOK Tryd.prog 58 [(.agg [(.int .i64), .slice]), (.agg [(.int .i64), .slice])] (.val (.one .bool)) (fun x h => f58 N x.1 x.2.1 h) :=
  runK_ok envOK hmix (addCall_ok (f23_ok N) noCalls_ok) (N := N) (x := ann58) (fn := Tryd.f58) (c := Tryd.f58.body.getD .skip) (by kernel_rfl) (by kernel_rfl) (by kernel_rfl) (by kernel_rfl) (fun _ _ => by kernel_rfl)

/- usufruct/mir.sameOper -/
noncomputable def f69 (N : Nat) (a0 : (Int × Int × Int × SL × Unit)) (a1 : (Int × Int × Int × SL × Unit)) (h : Heap) : Option (Bool × Heap) :=
  let h1 : Heap := h.push (.row [(.int .i64 a0.1), (.int .i64 a0.2.1), (.int .i64 a0.2.2.1), (.slice a0.2.2.2.1.a a0.2.2.2.1.len a0.2.2.2.1.cap a0.2.2.2.1.sz)] .own)
  let h2 : Heap := h1.push (.row [(.int .i64 a1.1), (.int .i64 a1.2.1), (.int .i64 a1.2.2.1), (.slice a1.2.2.2.1.a a1.2.2.2.1.len a1.2.2.2.1.cap a1.2.2.2.1.sz)] .own)
  (bindV (.val (.one (.int .i64))) (h2.cell ((h.next, 0).1, (h.next, 0).2 + 0)) fun (x3 : Int) =>
  (bindV (.val (.one (.int .i64))) (h2.cell ((h1.next, 0).1, (h1.next, 0).2 + 0)) fun (x4 : Int) =>
  let x5 : Bool := eqInt x3 x4
  (bif x5 then
   (bindV (.val (.one (.int .i64))) (h2.cell ((h.next, 0).1, (h.next, 0).2 + 1)) fun (x6 : Int) =>
   (bindV (.val (.one (.int .i64))) (h2.cell ((h1.next, 0).1, (h1.next, 0).2 + 1)) fun (x7 : Int) =>
   let x8 : Bool := eqInt x6 x7
   (bif x8 then
    (bindV (.val (.agg [(.int .i64), .slice])) (h2.cells ((h.next, 0).1, (h.next, 0).2 + 2) 2) fun (x9 : (Int × SL × Unit)) =>
    (bindV (.val (.agg [(.int .i64), .slice])) (h2.cells ((h1.next, 0).1, (h1.next, 0).2 + 2) 2) fun (x10 : (Int × SL × Unit)) =>
    (bind2 (f58 N (x9.1, x9.2.1, ()) (x10.1, x10.2.1, ()) h2) fun (x11 : Bool) h12 =>
    some (x11, h12))))
   else
    some (false, h2))))
  else
   some (false, h2))))
noncomputable def ann69 : Ann := .n
theorem f69_ok (N : Nat) : FnOK Tryd.prog 69 [(.agg [(.int .i64), (.int .i64), (.int .i64), .slice]), (.agg [(.int .i64), (.int .i64), (.int .i64), .slice])] (.val (.one .bool)) (fun x h => f69 N x.1 x.2.1 h) :=
  runK_ok envOK hmix (addCall_ok (f58_ok N) noCalls_ok) (N := N) (x := ann69) (fn := Tryd.f69) (c := Tryd.f69.body.getD .skip) (by kernel_rfl) (by kernel_rfl) (by kernel_rfl) (by kernel_rfl) (fun _ _ => by kernel_rfl)

/- slices.EqualFunc[[]usufruct/api.MOper,[]usufruct/api.MOper,usufruct/api.MOper,usufruct/api.MOper], given usufruct/mir.sameOper -/
noncomputable def f70c69_l1_b (N : Nat) (go : SL → (Unit) → Bool → SL → Int → Int → Heap → Option (Out × (Bool × Unit) × Heap)) (v1 : SL) (v2 : (Unit)) (v6 : Bool) (v15 : SL) (v16 : Int) (v17 : Int) (h : Heap) : Option (Out × (Bool × Unit) × Heap) :=
  let x2 : Bool := ltInt v17 v16
  (bif x2 then
   (ixK v15.a v15.len v17 4 fun q3 =>
   (bindV (.val (.agg [(.int .i64), (.int .i64), (.int .i64), .slice])) (h.cells q3 4) fun (x4 : (Int × Int × Int × SL × Unit)) =>
   let h5 : Heap := h.push (.row [(.int .i64 0), (.int .i64 0), (.int .i64 0), (.slice none 0 0 0)] .own)
   (need (h5.store (h.next, 0) [(.int .i64 x4.1), (.int .i64 x4.2.1), (.int .i64 x4.2.2.1), (.slice x4.2.2.2.1.a x4.2.2.2.1.len x4.2.2.2.1.cap x4.2.2.2.1.sz)]) fun h6 =>
   (ixK v1.a v1.len v17 4 fun q7 =>
   (bindV (.val (.agg [(.int .i64), (.int .i64), (.int .i64), .slice])) (h6.cells q7 4) fun (x8 : (Int × Int × Int × SL × Unit)) =>
   let h9 : Heap := h6.push (.row [(.int .i64 0), (.int .i64 0), (.int .i64 0), (.slice none 0 0 0)] .own)
   (need (h9.store (h6.next, 0) [(.int .i64 x8.1), (.int .i64 x8.2.1), (.int .i64 x8.2.2.1), (.slice x8.2.2.2.1.a x8.2.2.2.1.len x8.2.2.2.1.cap x8.2.2.2.1.sz)]) fun h10 =>
   (bindV (.val (.agg [(.int .i64), (.int .i64), (.int .i64), .slice])) (h10.cells (h.next, 0) 4) fun (x11 : (Int × Int × Int × SL × Unit)) =>
   (bindV (.val (.agg [(.int .i64), (.int .i64), (.int .i64), .slice])) (h10.cells (h6.next, 0) 4) fun (x12 : (Int × Int × Int × SL × Unit)) =>
   (bind2 (f69 N (x11.1, x11.2.1, x11.2.2.1, x11.2.2.2.1, ()) (x12.1, x12.2.1, x12.2.2.1, x12.2.2.2.1, ()) h10) fun (x13 : Bool) h14 =>
   let x15 : Bool := !x13
   (bif x15 then
    some (Out.ret, (false, ()), h14)
   else
    let x16 : Int := wrapA .i64 (v17 + 1)
    go v1 (()) v6 v15 v16 x16 h14))))))))))
  else
   some ((Out.exit 0), (v6, ()), h))
noncomputable def f70c69_l1 (N : Nat) (M : Nat) (v1 : SL) (v2 : (Unit)) (v6 : Bool) (v15 : SL) (v16 : Int) (v17 : Int) (h : Heap) : Option (Out × (Bool × Unit) × Heap) := iter (fun go s h => f70c69_l1_b N (fun v1 v2 v6 v15 v16 v17 h => go (v1, v2, v6, v15, v16, v17, ()) h) s.1 s.2.1 s.2.2.1 s.2.2.2.1 s.2.2.2.2.1 s.2.2.2.2.2.1 h) M (v1, v2, v6, v15, v16, v17, ()) h
theorem f70c69_l1_succ (N : Nat) (M : Nat) (v1 : SL) (v2 : (Unit)) (v6 : Bool) (v15 : SL) (v16 : Int) (v17 : Int) (h : Heap) : f70c69_l1 N (M + 1) v1 v2 v6 v15 v16 v17 h = f70c69_l1_b N (f70c69_l1 N M) v1 v2 v6 v15 v16 v17 h := rfl
theorem f70c69_l1_zero (N : Nat) (v1 : SL) (v2 : (Unit)) (v6 : Bool) (v15 : SL) (v16 : Int) (v17 : Int) (h : Heap) : f70c69_l1 N 0 v1 v2 v6 v15 v16 v17 h = none := rfl
noncomputable def f70c69 (N : Nat) (a0 : SL) (a1 : SL) (a2 : (Unit)) (h : Heap) : Option (Bool × Heap) :=
  let x1 : Bool := !eqInt (Int.ofNat a0.len) (Int.ofNat a1.len)
  (bif x1 then
   some (false, h)
  else
   (bind3 (f70c69_l1 N N a1 (()) false a0 (Int.ofNat a0.len) 0 h) fun o17 (j18 : (Bool × Unit)) h19 =>
   (bif eqOut o17 (.exit 0) then
    some (true, h19)
   else
    some (j18.1, h19))))
noncomputable def ann70c69 : Ann := (.two .n (.two .n (.two (.two .n (.two (.loop [(1, (.one .slice)), (2, (.clo 69 [])), (6, (.one .bool)), (15, (.one .slice)), (16, (.one (.int .i64))), (17, (.one (.int .i64)))] [(.exit 0), .ret] [(6, (.one .bool))] .n) .n)) .n)))
theorem f70c69_ok (N : Nat) : FnOK Tryd.prog 70 [(.one .slice), (.one .slice), (.clo 69 [])] (.val (.one .bool)) (fun x h => f70c69 N x.1 x.2.1 x.2.2.1 h) :=
  runK_ok envOK hmix (addCall_ok (f69_ok N) noCalls_ok) (N := N) (x := ann70c69) (fn := Tryd.f70) (c := Tryd.f70.body.getD .skip) (by kernel_rfl) (by kernel_rfl) (by kernel_rfl) (by kernel_rfl) (fun _ _ => by kernel_rfl)

/- usufruct/mir.sameValue -/
noncomputable def f59 (N : Nat) (a0 : (Int × Int × Int × Int × SL × Int × Int × Int × SL × Int × Int × SL × Int × List UInt8 × SL × SL × Unit)) (a1 : (Int × Int × Int × Int × SL × Int × Int × Int × SL × Int × Int × SL × Int × List UInt8 × SL × SL × Unit)) (h : Heap) : Option (Bool × Heap) :=
  let h1 : Heap := h.push (.row [(.int .i64 a0.1), (.int .i64 a0.2.1), (.int .i64 a0.2.2.1), (.int .i64 a0.2.2.2.1), (.slice a0.2.2.2.2.1.a a0.2.2.2.2.1.len a0.2.2.2.2.1.cap a0.2.2.2.2.1.sz), (.int .i64 a0.2.2.2.2.2.1), (.int .i64 a0.2.2.2.2.2.2.1), (.int .i64 a0.2.2.2.2.2.2.2.1), (.slice a0.2.2.2.2.2.2.2.2.1.a a0.2.2.2.2.2.2.2.2.1.len a0.2.2.2.2.2.2.2.2.1.cap a0.2.2.2.2.2.2.2.2.1.sz), (.int .i64 a0.2.2.2.2.2.2.2.2.2.1), (.int .i64 a0.2.2.2.2.2.2.2.2.2.2.1), (.slice a0.2.2.2.2.2.2.2.2.2.2.2.1.a a0.2.2.2.2.2.2.2.2.2.2.2.1.len a0.2.2.2.2.2.2.2.2.2.2.2.1.cap a0.2.2.2.2.2.2.2.2.2.2.2.1.sz), (.int .i64 a0.2.2.2.2.2.2.2.2.2.2.2.2.1), (.str a0.2.2.2.2.2.2.2.2.2.2.2.2.2.1), (.slice a0.2.2.2.2.2.2.2.2.2.2.2.2.2.2.1.a a0.2.2.2.2.2.2.2.2.2.2.2.2.2.2.1.len a0.2.2.2.2.2.2.2.2.2.2.2.2.2.2.1.cap a0.2.2.2.2.2.2.2.2.2.2.2.2.2.2.1.sz), (.slice a0.2.2.2.2.2.2.2.2.2.2.2.2.2.2.2.1.a a0.2.2.2.2.2.2.2.2.2.2.2.2.2.2.2.1.len a0.2.2.2.2.2.2.2.2.2.2.2.2.2.2.2.1.cap a0.2.2.2.2.2.2.2.2.2.2.2.2.2.2.2.1.sz)] .own)
  let h2 : Heap := h1.push (.row [(.int .i64 a1.1), (.int .i64 a1.2.1), (.int .i64 a1.2.2.1), (.int .i64 a1.2.2.2.1), (.slice a1.2.2.2.2.1.a a1.2.2.2.2.1.len a1.2.2.2.2.1.cap a1.2.2.2.2.1.sz), (.int .i64 a1.2.2.2.2.2.1), (.int .i64 a1.2.2.2.2.2.2.1), (.int .i64 a1.2.2.2.2.2.2.2.1), (.slice a1.2.2.2.2.2.2.2.2.1.a a1.2.2.2.2.2.2.2.2.1.len a1.2.2.2.2.2.2.2.2.1.cap a1.2.2.2.2.2.2.2.2.1.sz), (.int .i64 a1.2.2.2.2.2.2.2.2.2.1), (.int .i64 a1.2.2.2.2.2.2.2.2.2.2.1), (.slice a1.2.2.2.2.2.2.2.2.2.2.2.1.a a1.2.2.2.2.2.2.2.2.2.2.2.1.len a1.2.2.2.2.2.2.2.2.2.2.2.1.cap a1.2.2.2.2.2.2.2.2.2.2.2.1.sz), (.int .i64 a1.2.2.2.2.2.2.2.2.2.2.2.2.1), (.str a1.2.2.2.2.2.2.2.2.2.2.2.2.2.1), (.slice a1.2.2.2.2.2.2.2.2.2.2.2.2.2.2.1.a a1.2.2.2.2.2.2.2.2.2.2.2.2.2.2.1.len a1.2.2.2.2.2.2.2.2.2.2.2.2.2.2.1.cap a1.2.2.2.2.2.2.2.2.2.2.2.2.2.2.1.sz), (.slice a1.2.2.2.2.2.2.2.2.2.2.2.2.2.2.2.1.a a1.2.2.2.2.2.2.2.2.2.2.2.2.2.2.2.1.len a1.2.2.2.2.2.2.2.2.2.2.2.2.2.2.2.1.cap a1.2.2.2.2.2.2.2.2.2.2.2.2.2.2.2.1.sz)] .own)
  (bindV (.val (.one (.int .i64))) (h2.cell ((h.next, 0).1, (h.next, 0).2 + 0)) fun (x3 : Int) =>
  (bindV (.val (.one (.int .i64))) (h2.cell ((h1.next, 0).1, (h1.next, 0).2 + 0)) fun (x4 : Int) =>
  let x5 : Bool := eqInt x3 x4
  (bif x5 then
   (bindV (.val (.agg [(.int .i64), (.int .i64), (.int .i64), .slice])) (h2.cells ((h.next, 0).1, (h.next, 0).2 + 1) 4) fun (x6 : (Int × Int × Int × SL × Unit)) =>
   (bindV (.val (.agg [(.int .i64), (.int .i64), (.int .i64), .slice])) (h2.cells ((h1.next, 0).1, (h1.next, 0).2 + 1) 4) fun (x7 : (Int × Int × Int × SL × Unit)) =>
   (bind2 (f69 N (x6.1, x6.2.1, x6.2.2.1, x6.2.2.2.1, ()) (x7.1, x7.2.1, x7.2.2.1, x7.2.2.2.1, ()) h2) fun (x8 : Bool) h9 =>
   (bif x8 then
    (bindV (.val (.agg [(.int .i64), (.int .i64), (.int .i64), .slice])) (h9.cells ((h.next, 0).1, (h.next, 0).2 + 5) 4) fun (x10 : (Int × Int × Int × SL × Unit)) =>
    (bindV (.val (.agg [(.int .i64), (.int .i64), (.int .i64), .slice])) (h9.cells ((h1.next, 0).1, (h1.next, 0).2 + 5) 4) fun (x11 : (Int × Int × Int × SL × Unit)) =>
    (bind2 (f69 N (x10.1, x10.2.1, x10.2.2.1, x10.2.2.2.1, ()) (x11.1, x11.2.1, x11.2.2.1, x11.2.2.2.1, ()) h9) fun (x12 : Bool) h13 =>
    (bif x12 then
     (bindV (.val (.one (.int .i64))) (h13.cell ((h.next, 0).1, (h.next, 0).2 + 9)) fun (x14 : Int) =>
     (bindV (.val (.one (.int .i64))) (h13.cell ((h1.next, 0).1, (h1.next, 0).2 + 9)) fun (x15 : Int) =>
     let x16 : Bool := eqInt x14 x15
     (bif x16 then
      (bindV (.val (.agg [(.int .i64), .slice])) (h13.cells ((h.next, 0).1, (h.next, 0).2 + 10) 2) fun (x17 : (Int × SL × Unit)) =>
      (bindV (.val (.agg [(.int .i64), .slice])) (h13.cells ((h1.next, 0).1, (h1.next, 0).2 + 10) 2) fun (x18 : (Int × SL × Unit)) =>
      (bind2 (f58 N (x17.1, x17.2.1, ()) (x18.1, x18.2.1, ()) h13) fun (x19 : Bool) h20 =>
      (bif x19 then
       (bindV (.val (.one (.int .i64))) (h20.cell ((h.next, 0).1, (h.next, 0).2 + 12)) fun (x21 : Int) =>
       (bindV (.val (.one (.int .i64))) (h20.cell ((h1.next, 0).1, (h1.next, 0).2 + 12)) fun (x22 : Int) =>
       let x23 : Bool := eqInt x21 x22
       (bif x23 then
        (bindV (.val (.one .str)) (h20.cell ((h.next, 0).1, (h.next, 0).2 + 13)) fun (x24 : List UInt8) =>
        (bindV (.val (.one .str)) (h20.cell ((h1.next, 0).1, (h1.next, 0).2 + 13)) fun (x25 : List UInt8) =>
        let x26 : Bool := eqBytes x24 x25
        (bif x26 then
         (bindV (.val (.one .slice)) (h20.cell ((h.next, 0).1, (h.next, 0).2 + 14)) fun (x27 : SL) =>
         (bindV (.val (.one .slice)) (h20.cell ((h1.next, 0).1, (h1.next, 0).2 + 14)) fun (x28 : SL) =>
         (bind2 (f60 N x27 x28 h20) fun (x29 : Bool) h30 =>
         (bif x29 then
          (bindV (.val (.one .slice)) (h30.cell ((h.next, 0).1, (h.next, 0).2 + 15)) fun (x31 : SL) =>
          (bindV (.val (.one .slice)) (h30.cell ((h1.next, 0).1, (h1.next, 0).2 + 15)) fun (x32 : SL) =>
          (bind2 (f70c69 N x31 x32 (()) h30) fun (x33 : Bool) h34 =>
          some (x33, h34))))
         else
          some (false, h30)))))
        else
         some (false, h20))))
       else
        some (false, h20))))
      else
       some (false, h20)))))
     else
      some (false, h13))))
    else
     some (false, h13)))))
   else
    some (false, h9)))))
  else
   some (false, h2))))
noncomputable def ann59 : Ann := .n
theorem f59_ok (N : Nat) : FnOK Tryd.prog 59 [(.agg [(.int .i64), (.int .i64), (.int .i64), (.int .i64), .slice, (.int .i64), (.int .i64), (.int .i64), .slice, (.int .i64), (.int .i64), .slice, (.int .i64), .str, .slice, .slice]), (.agg [(.int .i64), (.int .i64), (.int .i64), (.int .i64), .slice, (.int .i64), (.int .i64), (.int .i64), .slice, (.int .i64), (.int .i64), .slice, (.int .i64), .str, .slice, .slice])] (.val (.one .bool)) (fun x h => f59 N x.1 x.2.1 h) :=
  runK_ok envOK hmix (addCallS_ok (sel := fun a => isClo 2 69 a) (f70c69_ok N) (addCall_ok (f69_ok N) (addCall_ok (f60_ok N) (addCall_ok (f58_ok N) noCalls_ok)))) (N := N) (x := ann59) (fn := Tryd.f59) (c := Tryd.f59.body.getD .skip) (by kernel_rfl) (by kernel_rfl) (by kernel_rfl) (by kernel_rfl) (fun _ _ => by kernel_rfl)

/- usufruct/mir.sameInst -/
noncomputable def f44 (N : Nat) (a0 : (Int × Int × Bool × Int × SL × Int × Int × Int × Int × SL × Int × Int × Int × SL × Int × Int × SL × Int × List UInt8 × SL × SL × SL × Unit)) (a1 : (Int × Int × Bool × Int × SL × Int × Int × Int × Int × SL × Int × Int × Int × SL × Int × Int × SL × Int × List UInt8 × SL × SL × SL × Unit)) (h : Heap) : Option (Bool × Heap) :=
  let h1 : Heap := h.push (.row [(.int .i64 a0.1), (.int .i64 a0.2.1), (.bool a0.2.2.1), (.int .i64 a0.2.2.2.1), (.slice a0.2.2.2.2.1.a a0.2.2.2.2.1.len a0.2.2.2.2.1.cap a0.2.2.2.2.1.sz), (.int .i64 a0.2.2.2.2.2.1), (.int .i64 a0.2.2.2.2.2.2.1), (.int .i64 a0.2.2.2.2.2.2.2.1), (.int .i64 a0.2.2.2.2.2.2.2.2.1), (.slice a0.2.2.2.2.2.2.2.2.2.1.a a0.2.2.2.2.2.2.2.2.2.1.len a0.2.2.2.2.2.2.2.2.2.1.cap a0.2.2.2.2.2.2.2.2.2.1.sz), (.int .i64 a0.2.2.2.2.2.2.2.2.2.2.1), (.int .i64 a0.2.2.2.2.2.2.2.2.2.2.2.1), (.int .i64 a0.2.2.2.2.2.2.2.2.2.2.2.2.1), (.slice a0.2.2.2.2.2.2.2.2.2.2.2.2.2.1.a a0.2.2.2.2.2.2.2.2.2.2.2.2.2.1.len a0.2.2.2.2.2.2.2.2.2.2.2.2.2.1.cap a0.2.2.2.2.2.2.2.2.2.2.2.2.2.1.sz), (.int .i64 a0.2.2.2.2.2.2.2.2.2.2.2.2.2.2.1), (.int .i64 a0.2.2.2.2.2.2.2.2.2.2.2.2.2.2.2.1), (.slice a0.2.2.2.2.2.2.2.2.2.2.2.2.2.2.2.2.1.a a0.2.2.2.2.2.2.2.2.2.2.2.2.2.2.2.2.1.len a0.2.2.2.2.2.2.2.2.2.2.2.2.2.2.2.2.1.cap a0.2.2.2.2.2.2.2.2.2.2.2.2.2.2.2.2.1.sz), (.int .i64 a0.2.2.2.2.2.2.2.2.2.2.2.2.2.2.2.2.2.1), (.str a0.2.2.2.2.2.2.2.2.2.2.2.2.2.2.2.2.2.2.1), (.slice a0.2.2.2.2.2.2.2.2.2.2.2.2.2.2.2.2.2.2.2.1.a a0.2.2.2.2.2.2.2.2.2.2.2.2.2.2.2.2.2.2.2.1.len a0.2.2.2.2.2.2.2.2.2.2.2.2.2.2.2.2.2.2.2.1.cap a0.2.2.2.2.2.2.2.2.2.2.2.2.2.2.2.2.2.2.2.1.sz), (.slice a0.2.2.2.2.2.2.2.2.2.2.2.2.2.2.2.2.2.2.2.2.1.a a0.2.2.2.2.2.2.2.2.2.2.2.2.2.2.2.2.2.2.2.2.1.len a0.2.2.2.2.2.2.2.2.2.2.2.2.2.2.2.2.2.2.2.2.1.cap a0.2.2.2.2.2.2.2.2.2.2.2.2.2.2.2.2.2.2.2.2.1.sz), (.slice a0.2.2.2.2.2.2.2.2.2.2.2.2.2.2.2.2.2.2.2.2.2.1.a a0.2.2.2.2.2.2.2.2.2.2.2.2.2.2.2.2.2.2.2.2.2.1.len a0.2.2.2.2.2.2.2.2.2.2.2.2.2.2.2.2.2.2.2.2.2.1.cap a0.2.2.2.2.2.2.2.2.2.2.2.2.2.2.2.2.2.2.2.2.2.1.sz)] .own)
  let h2 : Heap := h1.push (.row [(.int .i64 a1.1), (.int .i64 a1.2.1), (.bool a1.2.2.1), (.int .i64 a1.2.2.2.1), (.slice a1.2.2.2.2.1.a a1.2.2.2.2.1.len a1.2.2.2.2.1.cap a1.2.2.2.2.1.sz), (.int .i64 a1.2.2.2.2.2.1), (.int .i64 a1.2.2.2.2.2.2.1), (.int .i64 a1.2.2.2.2.2.2.2.1), (.int .i64 a1.2.2.2.2.2.2.2.2.1), (.slice a1.2.2.2.2.2.2.2.2.2.1.a a1.2.2.2.2.2.2.2.2.2.1.len a1.2.2.2.2.2.2.2.2.2.1.cap a1.2.2.2.2.2.2.2.2.2.1.sz), (.int .i64 a1.2.2.2.2.2.2.2.2.2.2.1), (.int .i64 a1.2.2.2.2.2.2.2.2.2.2.2.1), (.int .i64 a1.2.2.2.2.2.2.2.2.2.2.2.2.1), (.slice a1.2.2.2.2.2.2.2.2.2.2.2.2.2.1.a a1.2.2.2.2.2.2.2.2.2.2.2.2.2.1.len a1.2.2.2.2.2.2.2.2.2.2.2.2.2.1.cap a1.2.2.2.2.2.2.2.2.2.2.2.2.2.1.sz), (.int .i64 a1.2.2.2.2.2.2.2.2.2.2.2.2.2.2.1), (.int .i64 a1.2.2.2.2.2.2.2.2.2.2.2.2.2.2.2.1), (.slice a1.2.2.2.2.2.2.2.2.2.2.2.2.2.2.2.2.1.a a1.2.2.2.2.2.2.2.2.2.2.2.2.2.2.2.2.1.len a1.2.2.2.2.2.2.2.2.2.2.2.2.2.2.2.2.1.cap a1.2.2.2.2.2.2.2.2.2.2.2.2.2.2.2.2.1.sz), (.int .i64 a1.2.2.2.2.2.2.2.2.2.2.2.2.2.2.2.2.2.1), (.str a1.2.2.2.2.2.2.2.2.2.2.2.2.2.2.2.2.2.2.1), (.slice a1.2.2.2.2.2.2.2.2.2.2.2.2.2.2.2.2.2.2.2.1.a a1.2.2.2.2.2.2.2.2.2.2.2.2.2.2.2.2.2.2.2.1.len a1.2.2.2.2.2.2.2.2.2.2.2.2.2.2.2.2.2.2.2.1.cap a1.2.2.2.2.2.2.2.2.2.2.2.2.2.2.2.2.2.2.2.1.sz), (.slice a1.2.2.2.2.2.2.2.2.2.2.2.2.2.2.2.2.2.2.2.2.1.a a1.2.2.2.2.2.2.2.2.2.2.2.2.2.2.2.2.2.2.2.2.1.len a1.2.2.2.2.2.2.2.2.2.2.2.2.2.2.2.2.2.2.2.2.1.cap a1.2.2.2.2.2.2.2.2.2.2.2.2.2.2.2.2.2.2.2.2.1.sz), (.slice a1.2.2.2.2.2.2.2.2.2.2.2.2.2.2.2.2.2.2.2.2.2.1.a a1.2.2.2.2.2.2.2.2.2.2.2.2.2.2.2.2.2.2.2.2.2.1.len a1.2.2.2.2.2.2.2.2.2.2.2.2.2.2.2.2.2.2.2.2.2.1.cap a1.2.2.2.2.2.2.2.2.2.2.2.2.2.2.2.2.2.2.2.2.2.1.sz)] .own)
  (bindV (.val (.one (.int .i64))) (h2.cell ((h.next, 0).1, (h.next, 0).2 + 0)) fun (x3 : Int) =>
  (bindV (.val (.one (.int .i64))) (h2.cell ((h1.next, 0).1, (h1.next, 0).2 + 0)) fun (x4 : Int) =>
  let x5 : Bool := eqInt x3 x4
  (bif x5 then
   (bindV (.val (.one (.int .i64))) (h2.cell ((h.next, 0).1, (h.next, 0).2 + 1)) fun (x6 : Int) =>
   (bindV (.val (.one (.int .i64))) (h2.cell ((h1.next, 0).1, (h1.next, 0).2 + 1)) fun (x7 : Int) =>
   let x8 : Bool := eqInt x6 x7
   (bif x8 then
    (bindV (.val (.one .bool)) (h2.cell ((h.next, 0).1, (h.next, 0).2 + 2)) fun (x9 : Bool) =>
    (bindV (.val (.one .bool)) (h2.cell ((h1.next, 0).1, (h1.next, 0).2 + 2)) fun (x10 : Bool) =>
    let x11 : Bool := (bif x9 then x10 else !x10)
    (bif x11 then
     (bindV (.val (.agg [(.int .i64), .slice])) (h2.cells ((h.next, 0).1, (h.next, 0).2 + 3) 2) fun (x12 : (Int × SL × Unit)) =>
     (bindV (.val (.agg [(.int .i64), .slice])) (h2.cells ((h1.next, 0).1, (h1.next, 0).2 + 3) 2) fun (x13 : (Int × SL × Unit)) =>
     (bind2 (f58 N (x12.1, x12.2.1, ()) (x13.1, x13.2.1, ()) h2) fun (x14 : Bool) h15 =>
     (bif x14 then
      (bindV (.val (.agg [(.int .i64), (.int .i64), (.int .i64), (.int .i64), .slice, (.int .i64), (.int .i64), (.int .i64), .slice, (.int .i64), (.int .i64), .slice, (.int .i64), .str, .slice, .slice])) (h15.cells ((h.next, 0).1, (h.next, 0).2 + 5) 16) fun (x16 : (Int × Int × Int × Int × SL × Int × Int × Int × SL × Int × Int × SL × Int × List UInt8 × SL × SL × Unit)) =>
      (bindV (.val (.agg [(.int .i64), (.int .i64), (.int .i64), (.int .i64), .slice, (.int .i64), (.int .i64), (.int .i64), .slice, (.int .i64), (.int .i64), .slice, (.int .i64), .str, .slice, .slice])) (h15.cells ((h1.next, 0).1, (h1.next, 0).2 + 5) 16) fun (x17 : (Int × Int × Int × Int × SL × Int × Int × Int × SL × Int × Int × SL × Int × List UInt8 × SL × SL × Unit)) =>
      (bind2 (f59 N (x16.1, x16.2.1, x16.2.2.1, x16.2.2.2.1, x16.2.2.2.2.1, x16.2.2.2.2.2.1, x16.2.2.2.2.2.2.1, x16.2.2.2.2.2.2.2.1, x16.2.2.2.2.2.2.2.2.1, x16.2.2.2.2.2.2.2.2.2.1, x16.2.2.2.2.2.2.2.2.2.2.1, x16.2.2.2.2.2.2.2.2.2.2.2.1, x16.2.2.2.2.2.2.2.2.2.2.2.2.1, x16.2.2.2.2.2.2.2.2.2.2.2.2.2.1, x16.2.2.2.2.2.2.2.2.2.2.2.2.2.2.1, x16.2.2.2.2.2.2.2.2.2.2.2.2.2.2.2.1, ()) (x17.1, x17.2.1, x17.2.2.1, x17.2.2.2.1, x17.2.2.2.2.1, x17.2.2.2.2.2.1, x17.2.2.2.2.2.2.1, x17.2.2.2.2.2.2.2.1, x17.2.2.2.2.2.2.2.2.1, x17.2.2.2.2.2.2.2.2.2.1, x17.2.2.2.2.2.2.2.2.2.2.1, x17.2.2.2.2.2.2.2.2.2.2.2.1, x17.2.2.2.2.2.2.2.2.2.2.2.2.1, x17.2.2.2.2.2.2.2.2.2.2.2.2.2.1, x17.2.2.2.2.2.2.2.2.2.2.2.2.2.2.1, x17.2.2.2.2.2.2.2.2.2.2.2.2.2.2.2.1, ()) h15) fun (x18 : Bool) h19 =>
      (bif x18 then
       (bindV (.val (.one .slice)) (h19.cell ((h.next, 0).1, (h.next, 0).2 + 21)) fun (x20 : SL) =>
       (bindV (.val (.one .slice)) (h19.cell ((h1.next, 0).1, (h1.next, 0).2 + 21)) fun (x21 : SL) =>
       (bind2 (f60 N x20 x21 h19) fun (x22 : Bool) h23 =>
       some (x22, h23))))
      else
       some (false, h19)))))
     else
      some (false, h15)))))
    else
     some (false, h2))))
   else
    some (false, h2))))
  else
   some (false, h2))))
noncomputable def ann44 : Ann := .n
theorem f44_ok (N : Nat) : FnOK Tryd.prog 44 [(.agg [(.int .i64), (.int .i64), .bool, (.int .i64), .slice, (.int .i64), (.int .i64), (.int .i64), (.int .i64), .slice, (.int .i64), (.int .i64), (.int .i64), .slice, (.int .i64), (.int .i64), .slice, (.int .i64), .str, .slice, .slice, .slice]), (.agg [(.int .i64), (.int .i64), .bool, (.int .i64), .slice, (.int .i64), (.int .i64), (.int .i64), (.int .i64), .slice, (.int .i64), (.int .i64), (.int .i64), .slice, (.int .i64), (.int .i64), .slice, (.int .i64), .str, .slice, .slice, .slice])] (.val (.one .bool)) (fun x h => f44 N x.1 x.2.1 h) :=
  runK_ok envOK hmix (addCall_ok (f60_ok N) (addCall_ok (f59_ok N) (addCall_ok (f58_ok N) noCalls_ok))) (N := N) (x := ann44) (fn := Tryd.f44) (c := Tryd.f44.body.getD .skip) (by kernel_rfl) (by kernel_rfl) (by kernel_rfl) (by kernel_rfl) (fun _ _ => by kernel_rfl)

/- slices.EqualFunc[[]usufruct/api.Inst,[]usufruct/api.Inst,usufruct/api.Inst,usufruct/api.Inst], given usufruct/mir.sameInst -/
noncomputable def f43c44_l1_b (N : Nat) (go : SL → (Unit) → Bool → SL → Int → Int → Heap → Option (Out × (Bool × Unit) × Heap)) (v1 : SL) (v2 : (Unit)) (v6 : Bool) (v15 : SL) (v16 : Int) (v17 : Int) (h : Heap) : Option (Out × (Bool × Unit) × Heap) :=
  let x2 : Bool := ltInt v17 v16
  (bif x2 then
   (ixK v15.a v15.len v17 22 fun q3 =>
   (bindV (.val (.agg [(.int .i64), (.int .i64), .bool, (.int .i64), .slice, (.int .i64), (.int .i64), (.int .i64), (.int .i64), .slice, (.int .i64), (.int .i64), (.int .i64), .slice, (.int .i64), (.int .i64), .slice, (.int .i64), .str, .slice, .slice, .slice])) (h.cells q3 22) fun (x4 : (Int × Int × Bool × Int × SL × Int × Int × Int × Int × SL × Int × Int × Int × SL × Int × Int × SL × Int × List UInt8 × SL × SL × SL × Unit)) =>
   let h5 : Heap := h.push (.row [(.int .i64 0), (.int .i64 0), (.bool false), (.int .i64 0), (.slice none 0 0 0), (.int .i64 0), (.int .i64 0), (.int .i64 0), (.int .i64 0), (.slice none 0 0 0), (.int .i64 0), (.int .i64 0), (.int .i64 0), (.slice none 0 0 0), (.int .i64 0), (.int .i64 0), (.slice none 0 0 0), (.int .i64 0), (.str []), (.slice none 0 0 0), (.slice none 0 0 0), (.slice none 0 0 0)] .own)
   (need (h5.store (h.next, 0) [(.int .i64 x4.1), (.int .i64 x4.2.1), (.bool x4.2.2.1), (.int .i64 x4.2.2.2.1), (.slice x4.2.2.2.2.1.a x4.2.2.2.2.1.len x4.2.2.2.2.1.cap x4.2.2.2.2.1.sz), (.int .i64 x4.2.2.2.2.2.1), (.int .i64 x4.2.2.2.2.2.2.1), (.int .i64 x4.2.2.2.2.2.2.2.1), (.int .i64 x4.2.2.2.2.2.2.2.2.1), (.slice x4.2.2.2.2.2.2.2.2.2.1.a x4.2.2.2.2.2.2.2.2.2.1.len x4.2.2.2.2.2.2.2.2.2.1.cap x4.2.2.2.2.2.2.2.2.2.1.sz), (.int .i64 x4.2.2.2.2.2.2.2.2.2.2.1), (.int .i64 x4.2.2.2.2.2.2.2.2.2.2.2.1), (.int .i64 x4.2.2.2.2.2.2.2.2.2.2.2.2.1), (.slice x4.2.2.2.2.2.2.2.2.2.2.2.2.2.1.a x4.2.2.2.2.2.2.2.2.2.2.2.2.2.1.len x4.2.2.2.2.2.2.2.2.2.2.2.2.2.1.cap x4.2.2.2.2.2.2.2.2.2.2.2.2.2.1.sz), (.int .i64 x4.2.2.2.2.2.2.2.2.2.2.2.2.2.2.1), (.int .i64 x4.2.2.2.2.2.2.2.2.2.2.2.2.2.2.2.1), (.slice x4.2.2.2.2.2.2.2.2.2.2.2.2.2.2.2.2.1.a x4.2.2.2.2.2.2.2.2.2.2.2.2.2.2.2.2.1.len x4.2.2.2.2.2.2.2.2.2.2.2.2.2.2.2.2.1.cap x4.2.2.2.2.2.2.2.2.2.2.2.2.2.2.2.2.1.sz), (.int .i64 x4.2.2.2.2.2.2.2.2.2.2.2.2.2.2.2.2.2.1), (.str x4.2.2.2.2.2.2.2.2.2.2.2.2.2.2.2.2.2.2.1), (.slice x4.2.2.2.2.2.2.2.2.2.2.2.2.2.2.2.2.2.2.2.1.a x4.2.2.2.2.2.2.2.2.2.2.2.2.2.2.2.2.2.2.2.1.len x4.2.2.2.2.2.2.2.2.2.2.2.2.2.2.2.2.2.2.2.1.cap x4.2.2.2.2.2.2.2.2.2.2.2.2.2.2.2.2.2.2.2.1.sz), (.slice x4.2.2.2.2.2.2.2.2.2.2.2.2.2.2.2.2.2.2.2.2.1.a x4.2.2.2.2.2.2.2.2.2.2.2.2.2.2.2.2.2.2.2.2.1.len x4.2.2.2.2.2.2.2.2.2.2.2.2.2.2.2.2.2.2.2.2.1.cap x4.2.2.2.2.2.2.2.2.2.2.2.2.2.2.2.2.2.2.2.2.1.sz), (.slice x4.2.2.2.2.2.2.2.2.2.2.2.2.2.2.2.2.2.2.2.2.2.1.a x4.2.2.2.2.2.2.2.2.2.2.2.2.2.2.2.2.2.2.2.2.2.1.len x4.2.2.2.2.2.2.2.2.2.2.2.2.2.2.2.2.2.2.2.2.2.1.cap x4.2.2.2.2.2.2.2.2.2.2.2.2.2.2.2.2.2.2.2.2.2.1.sz)]) fun h6 =>
   (ixK v1.a v1.len v17 22 fun q7 =>
   (bindV (.val (.agg [(.int .i64), (.int .i64), .bool, (.int .i64), .slice, (.int .i64), (.int .i64), (.int .i64), (.int .i64), .slice, (.int .i64), (.int .i64), (.int .i64), .slice, (.int .i64), (.int .i64), .slice, (.int .i64), .str, .slice, .slice, .slice])) (h6.cells q7 22) fun (x8 : (Int × Int × Bool × Int × SL × Int × Int × Int × Int × SL × Int × Int × Int × SL × Int × Int × SL × Int × List UInt8 × SL × SL × SL × Unit)) =>
   let h9 : Heap := h6.push (.row [(.int .i64 0), (.int .i64 0), (.bool false), (.int .i64 0), (.slice none 0 0 0), (.int .i64 0), (.int .i64 0), (.int .i64 0), (.int .i64 0), (.slice none 0 0 0), (.int .i64 0), (.int .i64 0), (.int .i64 0), (.slice none 0 0 0), (.int .i64 0), (.int .i64 0), (.slice none 0 0 0), (.int .i64 0), (.str []), (.slice none 0 0 0), (.slice none 0 0 0), (.slice none 0 0 0)] .own)
   (need (h9.store (h6.next, 0) [(.int .i64 x8.1), (.int .i64 x8.2.1), (.bool x8.2.2.1), (.int .i64 x8.2.2.2.1), (.slice x8.2.2.2.2.1.a x8.2.2.2.2.1.len x8.2.2.2.2.1.cap x8.2.2.2.2.1.sz), (.int .i64 x8.2.2.2.2.2.1), (.int .i64 x8.2.2.2.2.2.2.1), (.int .i64 x8.2.2.2.2.2.2.2.1), (.int .i64 x8.2.2.2.2.2.2.2.2.1), (.slice x8.2.2.2.2.2.2.2.2.2.1.a x8.2.2.2.2.2.2.2.2.2.1.len x8.2.2.2.2.2.2.2.2.2.1.cap x8.2.2.2.2.2.2.2.2.2.1.sz), (.int .i64 x8.2.2.2.2.2.2.2.2.2.2.1), (.int .i64 x8.2.2.2.2.2.2.2.2.2.2.2.1), (.int .i64 x8.2.2.2.2.2.2.2.2.2.2.2.2.1), (.slice x8.2.2.2.2.2.2.2.2.2.2.2.2.2.1.a x8.2.2.2.2.2.2.2.2.2.2.2.2.2.1.len x8.2.2.2.2.2.2.2.2.2.2.2.2.2.1.cap x8.2.2.2.2.2.2.2.2.2.2.2.2.2.1.sz), (.int .i64 x8.2.2.2.2.2.2.2.2.2.2.2.2.2.2.1), (.int .i64 x8.2.2.2.2.2.2.2.2.2.2.2.2.2.2.2.1), (.slice x8.2.2.2.2.2.2.2.2.2.2.2.2.2.2.2.2.1.a x8.2.2.2.2.2.2.2.2.2.2.2.2.2.2.2.2.1.len x8.2.2.2.2.2.2.2.2.2.2.2.2.2.2.2.2.1.cap x8.2.2.2.2.2.2.2.2.2.2.2.2.2.2.2.2.1.sz), (.int .i64 x8.2.2.2.2.2.2.2.2.2.2.2.2.2.2.2.2.2.1), (.str x8.2.2.2.2.2.2.2.2.2.2.2.2.2.2.2.2.2.2.1), (.slice x8.2.2.2.2.2.2.2.2.2.2.2.2.2.2.2.2.2.2.2.1.a x8.2.2.2.2.2.2.2.2.2.2.2.2.2.2.2.2.2.2.2.1.len x8.2.2.2.2.2.2.2.2.2.2.2.2.2.2.2.2.2.2.2.1.cap x8.2.2.2.2.2.2.2.2.2.2.2.2.2.2.2.2.2.2.2.1.sz), (.slice x8.2.2.2.2.2.2.2.2.2.2.2.2.2.2.2.2.2.2.2.2.1.a x8.2.2.2.2.2.2.2.2.2.2.2.2.2.2.2.2.2.2.2.2.1.len x8.2.2.2.2.2.2.2.2.2.2.2.2.2.2.2.2.2.2.2.2.1.cap x8.2.2.2.2.2.2.2.2.2.2.2.2.2.2.2.2.2.2.2.2.1.sz), (.slice x8.2.2.2.2.2.2.2.2.2.2.2.2.2.2.2.2.2.2.2.2.2.1.a x8.2.2.2.2.2.2.2.2.2.2.2.2.2.2.2.2.2.2.2.2.2.1.len x8.2.2.2.2.2.2.2.2.2.2.2.2.2.2.2.2.2.2.2.2.2.1.cap x8.2.2.2.2.2.2.2.2.2.2.2.2.2.2.2.2.2.2.2.2.2.1.sz)]) fun h10 =>
   (bindV (.val (.agg [(.int .i64), (.int .i64), .bool, (.int .i64), .slice, (.int .i64), (.int .i64), (.int .i64), (.int .i64), .slice, (.int .i64), (.int .i64), (.int .i64), .slice, (.int .i64), (.int .i64), .slice, (.int .i64), .str, .slice, .slice, .slice])) (h10.cells (h.next, 0) 22) fun (x11 : (Int × Int × Bool × Int × SL × Int × Int × Int × Int × SL × Int × Int × Int × SL × Int × Int × SL × Int × List UInt8 × SL × SL × SL × Unit)) =>
   (bindV (.val (.agg [(.int .i64), (.int .i64), .bool, (.int .i64), .slice, (.int .i64), (.int .i64), (.int .i64), (.int .i64), .slice, (.int .i64), (.int .i64), (.int .i64), .slice, (.int .i64), (.int .i64), .slice, (.int .i64), .str, .slice, .slice, .slice])) (h10.cells (h6.next, 0) 22) fun (x12 : (Int × Int × Bool × Int × SL × Int × Int × Int × Int × SL × Int × Int × Int × SL × Int × Int × SL × Int × List UInt8 × SL × SL × SL × Unit)) =>
   (bind2 (f44 N (x11.1, x11.2.1, x11.2.2.1, x11.2.2.2.1, x11.2.2.2.2.1, x11.2.2.2.2.2.1, x11.2.2.2.2.2.2.1, x11.2.2.2.2.2.2.2.1, x11.2.2.2.2.2.2.2.2.1, x11.2.2.2.2.2.2.2.2.2.1, x11.2.2.2.2.2.2.2.2.2.2.1, x11.2.2.2.2.2.2.2.2.2.2.2.1, x11.2.2.2.2.2.2.2.2.2.2.2.2.1, x11.2.2.2.2.2.2.2.2.2.2.2.2.2.1, x11.2.2.2.2.2.2.2.2.2.2.2.2.2.2.1, x11.2.2.2.2.2.2.2.2.2.2.2.2.2.2.2.1, x11.2.2.2.2.2.2.2.2.2.2.2.2.2.2.2.2.1, x11.2.2.2.2.2.2.2.2.2.2.2.2.2.2.2.2.2.1, x11.2.2.2.2.2.2.2.2.2.2.2.2.2.2.2.2.2.2.1, x11.2.2.2.2.2.2.2.2.2.2.2.2.2.2.2.2.2.2.2.1, x11.2.2.2.2.2.2.2.2.2.2.2.2.2.2.2.2.2.2.2.2.1, x11.2.2.2.2.2.2.2.2.2.2.2.2.2.2.2.2.2.2.2.2.2.1, ()) (x12.1, x12.2.1, x12.2.2.1, x12.2.2.2.1, x12.2.2.2.2.1, x12.2.2.2.2.2.1, x12.2.2.2.2.2.2.1, x12.2.2.2.2.2.2.2.1, x12.2.2.2.2.2.2.2.2.1, x12.2.2.2.2.2.2.2.2.2.1, x12.2.2.2.2.2.2.2.2.2.2.1, x12.2.2.2.2.2.2.2.2.2.2.2.1, x12.2.2.2.2.2.2.2.2.2.2.2.2.1, x12.2.2.2.2.2.2.2.2.2.2.2.2.2.1, x12.2.2.2.2.2.2.2.2.2.2.2.2.2.2.1, x12.2.2.2.2.2.2.2.2.2.2.2.2.2.2.2.1, x12.2.2.2.2.2.2.2.2.2.2.2.2.2.2.2.2.1, x12.2.2.2.2.2.2.2.2.2.2.2.2.2.2.2.2.2.1, x12.2.2.2.2.2.2.2.2.2.2.2.2.2.2.2.2.2.2.1, x12.2.2.2.2.2.2.2.2.2.2.2.2.2.2.2.2.2.2.2.1, x12.2.2.2.2.2.2.2.2.2.2.2.2.2.2.2.2.2.2.2.2.1, x12.2.2.2.2.2.2.2.2.2.2.2.2.2.2.2.2.2.2.2.2.2.1, ()) h10) fun (x13 : Bool) h14 =>
   let x15 : Bool := !x13
   (bif x15 then
    some (Out.ret, (false, ()), h14)
   else
    let x16 : Int := wrapA .i64 (v17 + 1)
    go v1 (()) v6 v15 v16 x16 h14))))))))))
  else
   some ((Out.exit 0), (v6, ()), h))
noncomputable def f43c44_l1 (N : Nat) (M : Nat) (v1 : SL) (v2 : (Unit)) (v6 : Bool) (v15 : SL) (v16 : Int) (v17 : Int) (h : Heap) : Option (Out × (Bool × Unit) × Heap) := iter (fun go s h => f43c44_l1_b N (fun v1 v2 v6 v15 v16 v17 h => go (v1, v2, v6, v15, v16, v17, ()) h) s.1 s.2.1 s.2.2.1 s.2.2.2.1 s.2.2.2.2.1 s.2.2.2.2.2.1 h) M (v1, v2, v6, v15, v16, v17, ()) h
theorem f43c44_l1_succ (N : Nat) (M : Nat) (v1 : SL) (v2 : (Unit)) (v6 : Bool) (v15 : SL) (v16 : Int) (v17 : Int) (h : Heap) : f43c44_l1 N (M + 1) v1 v2 v6 v15 v16 v17 h = f43c44_l1_b N (f43c44_l1 N M) v1 v2 v6 v15 v16 v17 h := rfl
theorem f43c44_l1_zero (N : Nat) (v1 : SL) (v2 : (Unit)) (v6 : Bool) (v15 : SL) (v16 : Int) (v17 : Int) (h : Heap) : f43c44_l1 N 0 v1 v2 v6 v15 v16 v17 h = none := rfl
noncomputable def f43c44 (N : Nat) (a0 : SL) (a1 : SL) (a2 : (Unit)) (h : Heap) : Option (Bool × Heap) :=
  let x1 : Bool := !eqInt (Int.ofNat a0.len) (Int.ofNat a1.len)
  (bif x1 then
   some (false, h)
  else
   (bind3 (f43c44_l1 N N a1 (()) false a0 (Int.ofNat a0.len) 0 h) fun o17 (j18 : (Bool × Unit)) h19 =>
   (bif eqOut o17 (.exit 0) then
    some (true, h19)
   else
    some (j18.1, h19))))
noncomputable def ann43c44 : Ann := (.two .n (.two .n (.two (.two .n (.two (.loop [(1, (.one .slice)), (2, (.clo 44 [])), (6, (.one .bool)), (15, (.one .slice)), (16, (.one (.int .i64))), (17, (.one (.int .i64)))] [(.exit 0), .ret] [(6, (.one .bool))] .n) .n)) .n)))
theorem f43c44_ok (N : Nat) : FnOK Tryd.prog 43 [(.one .slice), (.one .slice), (.clo 44 [])] (.val (.one .bool)) (fun x h => f43c44 N x.1 x.2.1 x.2.2.1 h) :=
  runK_ok envOK hmix (addCall_ok (f44_ok N) noCalls_ok) (N := N) (x := ann43c44) (fn := Tryd.f43) (c := Tryd.f43.body.getD .skip) (by kernel_rfl) (by kernel_rfl) (by kernel_rfl) (by kernel_rfl) (fun _ _ => by kernel_rfl)

/- usufruct/mir.Same -/
noncomputable def f21 (N : Nat) (a0 : (Int × Int × Int × SL × SL × SL × Unit)) (a1 : (Int × Int × Int × SL × SL × SL × Unit)) (h : Heap) : Option (Bool × Heap) :=
  let h1 : Heap := h.push (.row [(.int .i64 a0.1), (.int .i64 a0.2.1), (.int .i64 a0.2.2.1), (.slice a0.2.2.2.1.a a0.2.2.2.1.len a0.2.2.2.1.cap a0.2.2.2.1.sz), (.slice a0.2.2.2.2.1.a a0.2.2.2.2.1.len a0.2.2.2.2.1.cap a0.2.2.2.2.1.sz), (.slice a0.2.2.2.2.2.1.a a0.2.2.2.2.2.1.len a0.2.2.2.2.2.1.cap a0.2.2.2.2.2.1.sz)] .own)
  let h2 : Heap := h1.push (.row [(.int .i64 a1.1), (.int .i64 a1.2.1), (.int .i64 a1.2.2.1), (.slice a1.2.2.2.1.a a1.2.2.2.1.len a1.2.2.2.1.cap a1.2.2.2.1.sz), (.slice a1.2.2.2.2.1.a a1.2.2.2.2.1.len a1.2.2.2.2.1.cap a1.2.2.2.2.1.sz), (.slice a1.2.2.2.2.2.1.a a1.2.2.2.2.2.1.len a1.2.2.2.2.2.1.cap a1.2.2.2.2.2.1.sz)] .own)
  (bindV (.val (.one (.int .i64))) (h2.cell ((h.next, 0).1, (h.next, 0).2 + 0)) fun (x3 : Int) =>
  (bindV (.val (.one (.int .i64))) (h2.cell ((h1.next, 0).1, (h1.next, 0).2 + 0)) fun (x4 : Int) =>
  let x5 : Bool := eqInt x3 x4
  (bif x5 then
   (bindV (.val (.one (.int .i64))) (h2.cell ((h.next, 0).1, (h.next, 0).2 + 1)) fun (x6 : Int) =>
   (bindV (.val (.one (.int .i64))) (h2.cell ((h1.next, 0).1, (h1.next, 0).2 + 1)) fun (x7 : Int) =>
   let x8 : Bool := eqInt x6 x7
   (bif x8 then
    (bindV (.val (.one (.int .i64))) (h2.cell ((h.next, 0).1, (h.next, 0).2 + 2)) fun (x9 : Int) =>
    (bindV (.val (.one (.int .i64))) (h2.cell ((h1.next, 0).1, (h1.next, 0).2 + 2)) fun (x10 : Int) =>
    let x11 : Bool := eqInt x9 x10
    (bif x11 then
     (bindV (.val (.one .slice)) (h2.cell ((h.next, 0).1, (h.next, 0).2 + 3)) fun (x12 : SL) =>
     (bindV (.val (.one .slice)) (h2.cell ((h1.next, 0).1, (h1.next, 0).2 + 3)) fun (x13 : SL) =>
     (bind2 (f40 N x12 x13 h2) fun (x14 : Bool) h15 =>
     (bif x14 then
      (bindV (.val (.one .slice)) (h15.cell ((h.next, 0).1, (h.next, 0).2 + 4)) fun (x16 : SL) =>
      (bindV (.val (.one .slice)) (h15.cell ((h1.next, 0).1, (h1.next, 0).2 + 4)) fun (x17 : SL) =>
      (bind2 (f41c42 N x16 x17 (()) h15) fun (x18 : Bool) h19 =>
      (bif x18 then
       (bindV (.val (.one .slice)) (h19.cell ((h.next, 0).1, (h.next, 0).2 + 5)) fun (x20 : SL) =>
       (bindV (.val (.one .slice)) (h19.cell ((h1.next, 0).1, (h1.next, 0).2 + 5)) fun (x21 : SL) =>
       (bind2 (f43c44 N x20 x21 (()) h19) fun (x22 : Bool) h23 =>
       some (x22, h23))))
      else
       some (false, h19)))))
     else
      some (false, h15)))))
    else
     some (false, h2))))
   else
    some (false, h2))))
  else
   some (false, h2))))
noncomputable def ann21 : Ann := .n
theorem f21_ok (N : Nat) : FnOK Tryd.prog 21 [(.agg [(.int .i64), (.int .i64), (.int .i64), .slice, .slice, .slice]), (.agg [(.int .i64), (.int .i64), (.int .i64), .slice, .slice, .slice])] (.val (.one .bool)) (fun x h => f21 N x.1 x.2.1 h) :=
  runK_ok envOK hmix (addCallS_ok (sel := fun a => isClo 2 44 a) (f43c44_ok N) (addCallS_ok (sel := fun a => isClo 2 42 a) (f41c42_ok N) (addCall_ok (f40_ok N) noCalls_ok))) (N := N) (x := ann21) (fn := Tryd.f21) (c := Tryd.f21.body.getD .skip) (by kernel_rfl) (by kernel_rfl) (by kernel_rfl) (by kernel_rfl) (fun _ _ => by kernel_rfl)

/- usufruct/usufructlaw16.MirSpoils -/
noncomputable def f5 (N : Nat) (a0 : (Int × Int × Int × SL × SL × SL × Unit)) (a1 : Int) (a2 : Int) (h : Heap) : Option (Bool × Heap) :=
  let h1 : Heap := h.push (.row [(.int .i64 a0.1), (.int .i64 a0.2.1), (.int .i64 a0.2.2.1), (.slice a0.2.2.2.1.a a0.2.2.2.1.len a0.2.2.2.1.cap a0.2.2.2.1.sz), (.slice a0.2.2.2.2.1.a a0.2.2.2.2.1.len a0.2.2.2.2.1.cap a0.2.2.2.2.1.sz), (.slice a0.2.2.2.2.2.1.a a0.2.2.2.2.2.1.len a0.2.2.2.2.2.1.cap a0.2.2.2.2.2.1.sz)] .own)
  (bind2 (α := (Int × Int × Option (Nat × Nat) × Bool × Unit)) (
   (bindV (.val (.agg [(.int .i64), (.int .i64), (.int .i64), .slice, .slice, .slice])) (h1.cells (h.next, 0) 6) fun (x2 : (Int × Int × Int × SL × SL × SL × Unit)) =>
   (bind2 (f18 N (x2.1, x2.2.1, x2.2.2.1, x2.2.2.2.1, x2.2.2.2.2.1, x2.2.2.2.2.2.1, ()) h1) fun (x3 : Bool) h4 =>
   (bif x3 then
    some ((a1, a2, (some (h.next, 0)), true, ()), h4)
   else
    (bindV (.val (.agg [(.int .i64), (.int .i64), (.int .i64), .slice, .slice, .slice])) (h4.cells (h.next, 0) 6) fun (x5 : (Int × Int × Int × SL × SL × SL × Unit)) =>
    (bind2 (f19 N (x5.1, x5.2.1, x5.2.2.1, x5.2.2.2.1, x5.2.2.2.2.1, x5.2.2.2.2.2.1, ()) h4) fun (x6 : Bool) h7 =>
    let x8 : Bool := !x6
    some ((a1, a2, (some (h.next, 0)), x8, ()), h7))))))) fun (j9 : (Int × Int × Option (Nat × Nat) × Bool × Unit)) h10 =>
  (bif j9.2.2.2.1 then
   (bind2 (f6 N  h10) fun (x11 : Bool) h12 =>
   some (x11, h12))
  else
   (need j9.2.2.1 fun q13 =>
   (bindV (.val (.agg [(.int .i64), (.int .i64), (.int .i64), .slice, .slice, .slice])) (h10.cells q13 6) fun (x14 : (Int × Int × Int × SL × SL × SL × Unit)) =>
   let h15 : Heap := h10.push (.row [(.int .i64 0), (.int .i64 0), (.int .i64 0), (.slice none 0 0 0), (.slice none 0 0 0), (.slice none 0 0 0)] .own)
   (need (h15.store (h10.next, 0) [(.int .i64 x14.1), (.int .i64 x14.2.1), (.int .i64 x14.2.2.1), (.slice x14.2.2.2.1.a x14.2.2.2.1.len x14.2.2.2.1.cap x14.2.2.2.1.sz), (.slice x14.2.2.2.2.1.a x14.2.2.2.2.1.len x14.2.2.2.2.1.cap x14.2.2.2.2.1.sz), (.slice x14.2.2.2.2.2.1.a x14.2.2.2.2.2.1.len x14.2.2.2.2.2.1.cap x14.2.2.2.2.2.1.sz)]) fun h16 =>
   let h17 : Heap := h16.push (.row [] .own)
   (need j9.2.2.1 fun q18 =>
   (bindV (.val (.one .slice)) (h17.cell (q18.1, q18.2 + 5)) fun (x19 : SL) =>
   (bindT (.val (.one .slice)) (appendA E 34 34 (.slice (some (h16.next, 0)) 0 0 22) (.slice x19.a x19.len x19.cap x19.sz) h17) fun (x20 : SL) h21 =>
   (need (h21.store ((h10.next, 0).1, (h10.next, 0).2 + 5) [(.slice x20.a x20.len x20.cap x20.sz)]) fun h22 =>
   let h23 : Heap := h22.push (.row [] .own)
   (need j9.2.2.1 fun q24 =>
   (bindV (.val (.one .slice)) (h23.cell (q24.1, q24.2 + 4)) fun (x25 : SL) =>
   (bindT (.val (.one .slice)) (appendA E 33 33 (.slice (some (h22.next, 0)) 0 0 6) (.slice x25.a x25.len x25.cap x25.sz) h23) fun (x26 : SL) h27 =>
   (need (h27.store ((h10.next, 0).1, (h10.next, 0).2 + 4) [(.slice x26.a x26.len x26.cap x26.sz)]) fun h28 =>
   (bindV (.val (.one .slice)) (h28.cell ((h10.next, 0).1, (h10.next, 0).2 + 5)) fun (x29 : SL) =>
   (bindV (.val (.one (.int .i64))) (binInt .rem .i64 j9.1 (Int.ofNat x29.len)) fun (x30 : Int) =>
   (bindV (.val (.one .slice)) (h28.cell ((h10.next, 0).1, (h10.next, 0).2 + 5)) fun (x31 : SL) =>
   let x32 : Int := wrapA .i64 (x30 + (Int.ofNat x31.len))
   (bindV (.val (.one .slice)) (h28.cell ((h10.next, 0).1, (h10.next, 0).2 + 5)) fun (x33 : SL) =>
   (bindV (.val (.one (.int .i64))) (binInt .rem .i64 x32 (Int.ofNat x33.len)) fun (x34 : Int) =>
   (bindV (.val (.one .slice)) (h28.cell ((h10.next, 0).1, (h10.next, 0).2 + 5)) fun (x35 : SL) =>
   (ixK x35.a x35.len x34 22 fun q36 =>
   (bindV (.val (.agg [(.int .i64), (.int .i64), .bool, (.int .i64), .slice, (.int .i64), (.int .i64), (.int .i64), (.int .i64), .slice, (.int .i64), (.int .i64), (.int .i64), .slice, (.int .i64), (.int .i64), .slice, (.int .i64), .str, .slice, .slice, .slice])) (h28.cells q36 22) fun (x37 : (Int × Int × Bool × Int × SL × Int × Int × Int × Int × SL × Int × Int × Int × SL × Int × Int × SL × Int × List UInt8 × SL × SL × SL × Unit)) =>
   let h38 : Heap := h28.push (.row [(.int .i64 0), (.int .i64 0), (.bool false), (.int .i64 0), (.slice none 0 0 0), (.int .i64 0), (.int .i64 0), (.int .i64 0), (.int .i64 0), (.slice none 0 0 0), (.int .i64 0), (.int .i64 0), (.int .i64 0), (.slice none 0 0 0), (.int .i64 0), (.int .i64 0), (.slice none 0 0 0), (.int .i64 0), (.str []), (.slice none 0 0 0), (.slice none 0 0 0), (.slice none 0 0 0)] .own)
   (need (h38.store (h28.next, 0) [(.int .i64 x37.1), (.int .i64 x37.2.1), (.bool x37.2.2.1), (.int .i64 x37.2.2.2.1), (.slice x37.2.2.2.2.1.a x37.2.2.2.2.1.len x37.2.2.2.2.1.cap x37.2.2.2.2.1.sz), (.int .i64 x37.2.2.2.2.2.1), (.int .i64 x37.2.2.2.2.2.2.1), (.int .i64 x37.2.2.2.2.2.2.2.1), (.int .i64 x37.2.2.2.2.2.2.2.2.1), (.slice x37.2.2.2.2.2.2.2.2.2.1.a x37.2.2.2.2.2.2.2.2.2.1.len x37.2.2.2.2.2.2.2.2.2.1.cap x37.2.2.2.2.2.2.2.2.2.1.sz), (.int .i64 x37.2.2.2.2.2.2.2.2.2.2.1), (.int .i64 x37.2.2.2.2.2.2.2.2.2.2.2.1), (.int .i64 x37.2.2.2.2.2.2.2.2.2.2.2.2.1), (.slice x37.2.2.2.2.2.2.2.2.2.2.2.2.2.1.a x37.2.2.2.2.2.2.2.2.2.2.2.2.2.1.len x37.2.2.2.2.2.2.2.2.2.2.2.2.2.1.cap x37.2.2.2.2.2.2.2.2.2.2.2.2.2.1.sz), (.int .i64 x37.2.2.2.2.2.2.2.2.2.2.2.2.2.2.1), (.int .i64 x37.2.2.2.2.2.2.2.2.2.2.2.2.2.2.2.1), (.slice x37.2.2.2.2.2.2.2.2.2.2.2.2.2.2.2.2.1.a x37.2.2.2.2.2.2.2.2.2.2.2.2.2.2.2.2.1.len x37.2.2.2.2.2.2.2.2.2.2.2.2.2.2.2.2.1.cap x37.2.2.2.2.2.2.2.2.2.2.2.2.2.2.2.2.1.sz), (.int .i64 x37.2.2.2.2.2.2.2.2.2.2.2.2.2.2.2.2.2.1), (.str x37.2.2.2.2.2.2.2.2.2.2.2.2.2.2.2.2.2.2.1), (.slice x37.2.2.2.2.2.2.2.2.2.2.2.2.2.2.2.2.2.2.2.1.a x37.2.2.2.2.2.2.2.2.2.2.2.2.2.2.2.2.2.2.2.1.len x37.2.2.2.2.2.2.2.2.2.2.2.2.2.2.2.2.2.2.2.1.cap x37.2.2.2.2.2.2.2.2.2.2.2.2.2.2.2.2.2.2.2.1.sz), (.slice x37.2.2.2.2.2.2.2.2.2.2.2.2.2.2.2.2.2.2.2.2.1.a x37.2.2.2.2.2.2.2.2.2.2.2.2.2.2.2.2.2.2.2.2.1.len x37.2.2.2.2.2.2.2.2.2.2.2.2.2.2.2.2.2.2.2.2.1.cap x37.2.2.2.2.2.2.2.2.2.2.2.2.2.2.2.2.2.2.2.2.1.sz), (.slice x37.2.2.2.2.2.2.2.2.2.2.2.2.2.2.2.2.2.2.2.2.2.1.a x37.2.2.2.2.2.2.2.2.2.2.2.2.2.2.2.2.2.2.2.2.2.1.len x37.2.2.2.2.2.2.2.2.2.2.2.2.2.2.2.2.2.2.2.2.2.1.cap x37.2.2.2.2.2.2.2.2.2.2.2.2.2.2.2.2.2.2.2.2.2.1.sz)]) fun h39 =>
   (bind2 (α := (Option (Nat × Nat) × Option (Nat × Nat) × Int × Option (Nat × Nat) × Unit)) (
    (bindV (.val (.one (.int .i64))) (binInt .rem .i64 j9.2.1 6) fun (x40 : Int) =>
    let x41 : Int := wrapA .i64 (x40 + 6)
    (bindV (.val (.one (.int .i64))) (binInt .rem .i64 x41 6) fun (x42 : Int) =>
    let x43 : Bool := eqInt x42 0
    (bif x43 then
     (need (h39.store ((h28.next, 0).1, (h28.next, 0).2 + 0) [(.int .i64 7)]) fun h44 =>
     some ((j9.2.2.1, (some (h10.next, 0)), x34, (some (h28.next, 0)), ()), h44))
    else
     let x45 : Bool := eqInt x42 1
     (bif x45 then
      let h46 : Heap := h39.push (.row [] .own)
      (bindV (.val (.one .slice)) (h46.cell ((h28.next, 0).1, (h28.next, 0).2 + 21)) fun (x47 : SL) =>
      (bindT (.val (.one .slice)) (appendA E 40 40 (.slice (some (h39.next, 0)) 0 0 1) (.slice x47.a x47.len x47.cap x47.sz) h46) fun (x48 : SL) h49 =>
      let h50 : Heap := h49.push (.row [(.int .i64 0)] .own)
      (bindT (.val (.one .slice)) (appendA E 40 40 (.slice x48.a x48.len x48.cap x48.sz) (.slice (some (h49.next, 0)) 1 1 1) h50) fun (x51 : SL) h52 =>
      (need (h52.store ((h28.next, 0).1, (h28.next, 0).2 + 21) [(.slice x51.a x51.len x51.cap x51.sz)]) fun h53 =>
      some ((j9.2.2.1, (some (h10.next, 0)), x34, (some (h28.next, 0)), ()), h53)))))
     else
      let x54 : Bool := eqInt x42 2
      (bif x54 then
       (need j9.2.2.1 fun q55 =>
       (bindV (.val (.one .slice)) (h39.cell (q55.1, q55.2 + 4)) fun (x56 : SL) =>
       let h57 : Heap := h39.push (.row [(.int .i64 0)] .own)
       (need (h57.store (h28.next, 0) [(.int .i64 2), (.int .i64 0), (.bool false), (.int .i64 (Int.ofNat x56.len)), (.slice none 0 0 0), (.int .i64 0), (.int .i64 0), (.int .i64 0), (.int .i64 0), (.slice none 0 0 0), (.int .i64 0), (.int .i64 0), (.int .i64 0), (.slice none 0 0 0), (.int .i64 0), (.int .i64 0), (.slice none 0 0 0), (.int .i64 0), (.str []), (.slice none 0 0 0), (.slice none 0 0 0), (.slice (some (h39.next, 0)) 1 1 1)]) fun h58 =>
       some ((j9.2.2.1, (some (h10.next, 0)), x34, (some (h28.next, 0)), ()), h58))))
      else
       let x59 : Bool := eqInt x42 3
       (bif x59 then
        (need j9.2.2.1 fun q60 =>
        (bindV (.val (.one .slice)) (h39.cell (q60.1, q60.2 + 5)) fun (x61 : SL) =>
        let h62 : Heap := h39.push (.row [(.int .i64 (Int.ofNat x61.len))] .own)
        (need (h62.store (h28.next, 0) [(.int .i64 5), (.int .i64 0), (.bool false), (.int .i64 0), (.slice none 0 0 0), (.int .i64 0), (.int .i64 0), (.int .i64 0), (.int .i64 0), (.slice none 0 0 0), (.int .i64 0), (.int .i64 0), (.int .i64 0), (.slice none 0 0 0), (.int .i64 0), (.int .i64 0), (.slice none 0 0 0), (.int .i64 0), (.str []), (.slice none 0 0 0), (.slice none 0 0 0), (.slice (some (h39.next, 0)) 1 1 1)]) fun h63 =>
        some ((j9.2.2.1, (some (h10.next, 0)), x34, (some (h28.next, 0)), ()), h63))))
       else
        let x64 : Bool := eqInt x42 4
        (bif x64 then
         (bindV (.val (.one .slice)) (h39.cell ((h10.next, 0).1, (h10.next, 0).2 + 4)) fun (x65 : SL) =>
         (need j9.2.2.1 fun q66 =>
         (bindV (.val (.one (.int .i64))) (h39.cell (q66.1, q66.2 + 2)) fun (x67 : Int) =>
         let h68 : Heap := h39.push (.row [(.int .i64 x67)] .own)
         let h69 : Heap := h68.push (.row [(.int .i64 1), (.str []), (.slice none 0 0 0), (.slice none 0 0 0)] .own)
         (ixK x65.a x65.len 0 6 fun q70 =>
         (need (h69.store (q70.1, q70.2 + 1) [(.int .i64 4), (.str []), (.slice (some (h39.next, 0)) 1 1 1), (.slice (some (h68.next, 0)) 1 1 4)]) fun h71 =>
         some ((j9.2.2.1, (some (h10.next, 0)), x34, (some (h28.next, 0)), ()), h71))))))
        else
         (need j9.2.2.1 fun q72 =>
         (bindV (.val (.one (.int .i64))) (h39.cell (q72.1, q72.2 + 2)) fun (x73 : Int) =>
         let x74 : Int := wrapA .i64 (x73 + 1)
         (need (h39.store ((h10.next, 0).1, (h10.next, 0).2 + 1) [(.int .i64 x74)]) fun h75 =>
         some ((j9.2.2.1, (some (h10.next, 0)), x34, (some (h28.next, 0)), ()), h75)))))))))))) fun (j76 : (Option (Nat × Nat) × Option (Nat × Nat) × Int × Option (Nat × Nat) × Unit)) h77 =>
   (need j76.2.1 fun q78 =>
   (bindV (.val (.one .slice)) (h77.cell (q78.1, q78.2 + 5)) fun (x79 : SL) =>
   (need j76.2.2.2.1 fun q80 =>
   (bindV (.val (.agg [(.int .i64), (.int .i64), .bool, (.int .i64), .slice, (.int .i64), (.int .i64), (.int .i64), (.int .i64), .slice, (.int .i64), (.int .i64), (.int .i64), .slice, (.int .i64), (.int .i64), .slice, (.int .i64), .str, .slice, .slice, .slice])) (h77.cells q80 22) fun (x81 : (Int × Int × Bool × Int × SL × Int × Int × Int × Int × SL × Int × Int × Int × SL × Int × Int × SL × Int × List UInt8 × SL × SL × SL × Unit)) =>
   (ixK x79.a x79.len j76.2.2.1 22 fun q82 =>
   (need (h77.store q82 [(.int .i64 x81.1), (.int .i64 x81.2.1), (.bool x81.2.2.1), (.int .i64 x81.2.2.2.1), (.slice x81.2.2.2.2.1.a x81.2.2.2.2.1.len x81.2.2.2.2.1.cap x81.2.2.2.2.1.sz), (.int .i64 x81.2.2.2.2.2.1), (.int .i64 x81.2.2.2.2.2.2.1), (.int .i64 x81.2.2.2.2.2.2.2.1), (.int .i64 x81.2.2.2.2.2.2.2.2.1), (.slice x81.2.2.2.2.2.2.2.2.2.1.a x81.2.2.2.2.2.2.2.2.2.1.len x81.2.2.2.2.2.2.2.2.2.1.cap x81.2.2.2.2.2.2.2.2.2.1.sz), (.int .i64 x81.2.2.2.2.2.2.2.2.2.2.1), (.int .i64 x81.2.2.2.2.2.2.2.2.2.2.2.1), (.int .i64 x81.2.2.2.2.2.2.2.2.2.2.2.2.1), (.slice x81.2.2.2.2.2.2.2.2.2.2.2.2.2.1.a x81.2.2.2.2.2.2.2.2.2.2.2.2.2.1.len x81.2.2.2.2.2.2.2.2.2.2.2.2.2.1.cap x81.2.2.2.2.2.2.2.2.2.2.2.2.2.1.sz), (.int .i64 x81.2.2.2.2.2.2.2.2.2.2.2.2.2.2.1), (.int .i64 x81.2.2.2.2.2.2.2.2.2.2.2.2.2.2.2.1), (.slice x81.2.2.2.2.2.2.2.2.2.2.2.2.2.2.2.2.1.a x81.2.2.2.2.2.2.2.2.2.2.2.2.2.2.2.2.1.len x81.2.2.2.2.2.2.2.2.2.2.2.2.2.2.2.2.1.cap x81.2.2.2.2.2.2.2.2.2.2.2.2.2.2.2.2.1.sz), (.int .i64 x81.2.2.2.2.2.2.2.2.2.2.2.2.2.2.2.2.2.1), (.str x81.2.2.2.2.2.2.2.2.2.2.2.2.2.2.2.2.2.2.1), (.slice x81.2.2.2.2.2.2.2.2.2.2.2.2.2.2.2.2.2.2.2.1.a x81.2.2.2.2.2.2.2.2.2.2.2.2.2.2.2.2.2.2.2.1.len x81.2.2.2.2.2.2.2.2.2.2.2.2.2.2.2.2.2.2.2.1.cap x81.2.2.2.2.2.2.2.2.2.2.2.2.2.2.2.2.2.2.2.1.sz), (.slice x81.2.2.2.2.2.2.2.2.2.2.2.2.2.2.2.2.2.2.2.2.1.a x81.2.2.2.2.2.2.2.2.2.2.2.2.2.2.2.2.2.2.2.2.1.len x81.2.2.2.2.2.2.2.2.2.2.2.2.2.2.2.2.2.2.2.2.1.cap x81.2.2.2.2.2.2.2.2.2.2.2.2.2.2.2.2.2.2.2.2.1.sz), (.slice x81.2.2.2.2.2.2.2.2.2.2.2.2.2.2.2.2.2.2.2.2.2.1.a x81.2.2.2.2.2.2.2.2.2.2.2.2.2.2.2.2.2.2.2.2.2.1.len x81.2.2.2.2.2.2.2.2.2.2.2.2.2.2.2.2.2.2.2.2.2.1.cap x81.2.2.2.2.2.2.2.2.2.2.2.2.2.2.2.2.2.2.2.2.2.1.sz)]) fun h83 =>
   (bind2 (f6 N  h83) fun (x84 : Bool) h85 =>
   (bif x84 then
    (need j76.1 fun q86 =>
    (bindV (.val (.agg [(.int .i64), (.int .i64), (.int .i64), .slice, .slice, .slice])) (h85.cells q86 6) fun (x87 : (Int × Int × Int × SL × SL × SL × Unit)) =>
    (bind2 (f20 N (x87.1, x87.2.1, x87.2.2.1, x87.2.2.2.1, x87.2.2.2.2.1, x87.2.2.2.2.2.1, ()) h85) fun (x88 : Bool) h89 =>
    (bif x88 then
     (need j76.2.1 fun q90 =>
     (bindV (.val (.agg [(.int .i64), (.int .i64), (.int .i64), .slice, .slice, .slice])) (h89.cells q90 6) fun (x91 : (Int × Int × Int × SL × SL × SL × Unit)) =>
     (bind2 (f20 N (x91.1, x91.2.1, x91.2.2.1, x91.2.2.2.1, x91.2.2.2.2.1, x91.2.2.2.2.2.1, ()) h89) fun (x92 : Bool) h93 =>
     let x94 : Bool := !x92
     (bif x94 then
      (need j76.1 fun q95 =>
      (bindV (.val (.agg [(.int .i64), (.int .i64), (.int .i64), .slice, .slice, .slice])) (h93.cells q95 6) fun (x96 : (Int × Int × Int × SL × SL × SL × Unit)) =>
      (need j76.2.1 fun q97 =>
      (bindV (.val (.agg [(.int .i64), (.int .i64), (.int .i64), .slice, .slice, .slice])) (h93.cells q97 6) fun (x98 : (Int × Int × Int × SL × SL × SL × Unit)) =>
      (bind2 (f21 N (x96.1, x96.2.1, x96.2.2.1, x96.2.2.2.1, x96.2.2.2.2.1, x96.2.2.2.2.2.1, ()) (x98.1, x98.2.1, x98.2.2.1, x98.2.2.2.1, x98.2.2.2.2.1, x98.2.2.2.2.2.1, ()) h93) fun (x99 : Bool) h100 =>
      let x101 : Bool := !x99
      some (x101, h100))))))
     else
      some (false, h93)))))
    else
     some (false, h89)))))
   else
    some (false, h85))))))))))))))))))))))))))))))))
noncomputable def ann5 : Ann := (.two .n (.two (.two (.join [(1, (.one (.int .i64))), (2, (.one (.int .i64))), (3, (.one .ptr)), (16, (.one .bool))] .n) .n) (.two .n (.two .n (.two .n (.two .n (.two .n (.two (.join [(3, (.one .ptr)), (7, (.one .ptr)), (8, (.one (.int .i64))), (9, (.one .ptr))] .n) .n))))))))
theorem f5_ok (N : Nat) : FnOK Tryd.prog 5 [(.agg [(.int .i64), (.int .i64), (.int .i64), .slice, .slice, .slice]), (.one (.int .i64)), (.one (.int .i64))] (.val (.one .bool)) (fun x h => f5 N x.1 x.2.1 x.2.2.1 h) :=
  runK_ok envOK hmix (addCall_ok (f6_ok N) (addCall_ok (f21_ok N) (addCall_ok (f20_ok N) (addCall_ok (f19_ok N) (addCall_ok (f18_ok N) noCalls_ok))))) (N := N) (x := ann5) (fn := Tryd.f5) (c := Tryd.f5.body.getD .skip) (by kernel_rfl) (by kernel_rfl) (by kernel_rfl) (by kernel_rfl) (fun _ _ => by kernel_rfl)
end Go.Proofs.YtjeaammlambkeaaDoor.My

set_option linter.unusedVariables false
set_option linter.unusedSimpArgs false
open Go Go.Proofs.YtjeaammlambkeaaDoor.Ai
namespace Go.Proofs.YtjeaammlambkeaaDoor.My
/-! points, as trees: which may be; the law MirSpoils, plainly -/
def wi (i n : Int) : Bool := decide (0 ≤ i) && decide (i < n)
def wiD (n : Int) : D → Bool
  | .i x => wi x n
  | _ => false
def pairB (n : Int) : D → Bool
  | .t [.i a, .i b] => wi a n && wi b n
  | _ => false
def tyB (R : Int) : Nat → D → Bool
  | 0, _ => false
  | g + 1, .t [.i k, .s _, .l rs, .l el] => rs.all (wiD R) && (if k = 4 ∨ k = 5 then (decide (rs.length = 1) && match el with | [e] => tyB R g e | _ => false) else (decide (0 ≤ k ∧ k ≤ 3) && el.isEmpty))
  | _, _ => false
def locB (R : Int) : D → Bool
  | .t [_, ty, _] => tyB R 64 ty
  | _ => false
def opB (L : Int) : D → Bool
  | .t [.i k, .i _, .t [.i l, .l _]] => if k = 3 ∨ k = 4 then wi l L else decide (k = 1 ∨ k = 2)
  | _ => false
def vaB (L R : Int) : D → Bool
  | .t [.i k, a, b, .i _, .t [.i pl, .l _], .i rg, .s _, .l rgs, .l ag] =>
    if k = 2 ∨ k = 3 then wi pl L && wi rg R
    else if k = 5 then opB L b && opB L a
    else if k = 1 ∨ k = 4 then opB L a
    else if k = 6 ∨ k = 7 then rgs.all (wiD R) && ag.all (opB L)
    else false
  | _ => false
def vA : D → D
  | .t (_ :: a :: _) => a
  | _ => .i 0
def inB (L R P : Int) : D → Bool
  | .t [.i k, .i _, .b hs, .t [.i tl, .l _], va, .l nx] =>
    (if k = 1 then vaB L R va && (!hs || wi tl L) && decide (nx.length = 1)
    else if k = 2 ∨ k = 3 then wi tl L && decide (nx.length = 1)
    else if k = 4 then opB L (vA va) && decide (nx.length = 2)
    else if k = 5 then decide (nx.length = 1)
    else if k = 6 then decide (nx.length = 0)
    else false) && nx.all (wiD P)
  | _ => false
def miB : D → Bool
  | .t [.i _, .i fr, .i rg, .l kn, .l lo, .l co] => decide (0 ≤ fr) && decide (fr ≤ rg) && decide (rg ≤ 1048576) && decide (1 ≤ lo.length ∧ lo.length ≤ 6000) && decide (1 ≤ co.length ∧ co.length ≤ 6000) && kn.all (pairB fr) && lo.all (locB rg) && co.all (inB lo.length rg co.length)
  | _ => false
def miD (a f r : Int) (kn lo co : List D) : D := .t [.i a, .i f, .i r, .l kn, .l lo, .l co]
def inD (k a : Int) (hs : Bool) (tl : Int) (ts : List D) (va : D) (nx : List D) : D := .t [.i k, .i a, .b hs, .t [.i tl, .l ts], va, .l nx]
def opZ : D := .t [.i 0, .i 0, .t [.i 0, .l []]]
def vaZ : D := .t [.i 0, opZ, opZ, .i 0, .t [.i 0, .l []], .i 0, .s [], .l [], .l []]
theorem all_set {p : D → Bool} : ∀ {l : List D} {i : Nat} {x : D}, i < l.length → p x = false → (l.set i x).all p = false
  | [], _, _, h, _ => by simp at h
  | a :: l, 0, x, _, hx => by simp [hx]
  | a :: l, i + 1, x, h, hx => by
    rw [List.set_cons_succ, List.all_cons, all_set (by simpa using h) hx, Bool.and_false]
/-- one point spoilt -/
theorem spoil_code {a f r : Int} {kn lo co : List D} {i : Nat} {x : D} (hi : i < co.length) (hx : inB lo.length r co.length x = false) : miB (miD a f r kn lo (co.set i x)) = false := by
  simp only [miD, miB, List.length_set, all_set hi hx, Bool.and_false]
theorem bad_kind {L R P a : Int} {hs : Bool} {tl : Int} {ts : List D} {va : D} {nx : List D} : inB L R P (inD 7 a hs tl ts va nx) = false := rfl
theorem bad_next {L R P k a : Int} {hs : Bool} {tl : Int} {ts : List D} {va : D} {nx : List D} {x : D} (h : inB L R P (inD k a hs tl ts va nx) = true) : inB L R P (inD k a hs tl ts va (nx ++ [x])) = false := by
  simp only [inD, inB, Bool.and_eq_true] at h
  obtain ⟨h, _⟩ := h
  have e : (nx ++ [x]).length = nx.length + 1 := by simp
  simp only [inD, inB, e]
  by_cases h1 : k = 1
  · simp only [h1, if_true, Bool.and_eq_true, decide_eq_true_eq] at h
    have : decide (nx.length + 1 = 1) = false := decide_eq_false (by omega)
    simp only [h1, if_true, this, Bool.and_false, Bool.false_and]
  · by_cases h2 : k = 2 ∨ k = 3
    · simp only [h1, h2, if_true, if_false, Bool.and_eq_true, decide_eq_true_eq] at h
      have : decide (nx.length + 1 = 1) = false := decide_eq_false (by omega)
      simp only [h1, h2, if_true, if_false, this, Bool.and_false, Bool.false_and]
    · by_cases h3 : k = 4
      · simp only [h1, h2, h3, if_true, if_false, Bool.and_eq_true, decide_eq_true_eq] at h
        subst h3
        simp only [show ¬ ((4 : Int) = 1) by decide, show ¬ ((4 : Int) = 2 ∨ (4 : Int) = 3) by decide, if_false, if_true, Bool.and_eq_true, decide_eq_true_eq] at h ⊢
        have : decide (nx.length + 1 = 2) = false := decide_eq_false (by omega)
        simp only [this, Bool.and_false, Bool.false_and]
      · by_cases h4 : k = 5
        · subst h4
          simp only [show ¬ ((5 : Int) = 1) by decide, show ¬ ((5 : Int) = 2 ∨ (5 : Int) = 3) by decide, show ¬ ((5 : Int) = 4) by decide, if_false, if_true, decide_eq_true_eq] at h ⊢
          have : decide (nx.length + 1 = 1) = false := decide_eq_false (by omega)
          simp only [this, Bool.false_and]
        · by_cases h5 : k = 6
          · subst h5
            simp only [show ¬ ((6 : Int) = 1) by decide, show ¬ ((6 : Int) = 2 ∨ (6 : Int) = 3) by decide, show ¬ ((6 : Int) = 4) by decide, show ¬ ((6 : Int) = 5) by decide, if_false, if_true, decide_eq_true_eq] at h ⊢
            have : decide (nx.length + 1 = 0) = false := decide_eq_false (by omega)
            simp only [this, Bool.false_and]
          · simp only [h1, h2, h3, h4, h5, if_false] at h
            cases h
theorem wi_self (n : Int) : wi n n = false := by
  unfold wi
  have : decide (n < n) = false := decide_eq_false (Int.lt_irrefl n)
  rw [this, Bool.and_false]
theorem bad_dead {R P : Int} {L : Int} {va : D} {nx : List D} : inB L R P (inD 2 0 false L [] va nx) = false := by
  simp only [inD, inB, show ¬ ((2 : Int) = 1) by decide, true_or, if_false, if_true, wi_self, Bool.false_and]
theorem bad_go {L R P : Int} {va : D} {ts : List D} : inB L R P (inD 5 0 false 0 ts va [.i P]) = false := by
  simp only [inD, inB, List.all_cons, wiD, wi_self, Bool.false_and, Bool.and_false]
theorem spoil_type {a f r : Int} {kn lo co : List D} {nm b : D} {el : List D} {x : List UInt8} (hl : 0 < lo.length) : miB (miD a f r kn (lo.set 0 (.t [nm, .t [.i 4, .s x, .l [.i r], .l el], b])) co) = false := by
  have : locB r (.t [nm, .t [.i 4, .s x, .l [.i r], .l el], b]) = false := by
    simp only [locB, tyB, List.all_cons, wiD, wi_self, Bool.false_and]
  simp only [miD, miB, all_set hl this, Bool.and_false, Bool.false_and]
theorem spoil_free {a r : Int} {kn lo co : List D} : miB (miD a (r + 1) r kn lo co) = false := by
  have : decide (r + 1 ≤ r) = false := decide_eq_false (by omega)
  simp only [miD, miB, this, Bool.and_false, Bool.false_and]
end Go.Proofs.YtjeaammlambkeaaDoor.My

set_option linter.unusedVariables false
set_option linter.unusedSimpArgs false
open Go Go.Proofs.YtjeaammlambkeaaDoor.Ai Go.Proofs
namespace Go.Proofs.YtjeaammlambkeaaDoor.My
abbrev Bs := List UInt8
/-! small rules -/
theorem guardB_true {β : Type} (k : Option β) : guardB true k = k := rfl
theorem lt_nat (a b : Nat) : ltInt (a : Int) (Int.ofNat b) = decide (a < b) := by
  rw [ltInt_dec]; by_cases h : a < b <;> simp [h] <;> omega
theorem lt_nat' (a b : Nat) : ltInt (a : Int) (b : Int) = decide (a < b) := lt_nat a b
theorem wrap_succ {i : Nat} (h : i ≤ 4000000000000000000) : wrapA .i64 ((i : Int) + 1) = ((i + 1 : Nat) : Int) := by rw [wrapA_small (by omega) (by omega)]; rfl
theorem eqI (a b : Int) : eqInt a b = decide (a = b) := eqInt_dec a b
theorem leI (a b : Int) : leInt a b = decide (a ≤ b) := leInt_dec a b
theorem ltI (a b : Int) : ltInt a b = decide (a < b) := ltInt_dec a b
theorem eqBy (a b : Bs) : eqBytes a b = decide (a = b) := by
  rw [eqBytes_eq]
  by_cases h : a = b
  · subst h; simp
  · simp [h]
theorem lenI (a b : Nat) : eqInt (Int.ofNat a) (Int.ofNat b) = decide (a = b) := by
  rw [eqI]; by_cases h : a = b
  · subst h; simp
  · rw [decide_eq_false h, decide_eq_false]; intro e; exact h (Int.ofNat.inj e)
/-! records: their cells, what they are read as -/
structure Rec (tys : List CTy) (n : Nat) (c : dens tys → List AV) (P : D → Prop) : Prop where
  len : ∀ r, (c r).length = n
  agg : ∀ {β : Type} (r : dens tys) (K : dens tys → Option β), bindV (.val (.agg tys)) (some (.agg (c r))) K = K r
  inv : ∀ {h : Heap} {V : Nat → Prop} {x : D} {cs : List AV}, P x → Dt h V x cs → ∃ r, cs = c r
section
variable {tys : List CTy} {n : Nat} {c : dens tys → List AV} {z : List AV} {P : D → Prop}
theorem Rec.el (R : Rec tys n c P) {h : Heap} {V : Nat → Prop} {s : SL} {xs : List D} (x : Sl h V s xs) {i : Nat} (hi : i < xs.length) (hP : P xs[i]) : ∃ r, Elt h V (s.at i n) n xs[i] (c r) := by
  obtain ⟨cs, e⟩ := x.elt hi
  obtain ⟨r, rfl⟩ := R.inv hP e.dt
  have hz : s.sz = n := by rw [← e.len, R.len]
  rw [hz] at e
  exact ⟨r, e⟩
theorem Rec.elt (R : Rec tys n c P) {h : Heap} {V : Nat → Prop} {s : SL} {xs : List D} (x : Sl h V s xs) {i : Nat} (hi : i < xs.length) (hP : P xs[i]) : ∃ r, h.cells (s.at i n) n = some (.agg (c r)) ∧ Dt h V xs[i] (c r) := by
  obtain ⟨r, e⟩ := R.el x hi hP
  exact ⟨r, e.whole, e.dt⟩
theorem Rec.cells (R : Rec tys n c P) {H : Heap} {A : Nat} {r : dens tys} (o : H.own A (c r)) {β : Type} (K : dens tys → Option β) : bindV (.val (.agg tys)) (H.cells (A, 0) n) K = K r := by
  have : H.cells (A, 0) n = some (.agg (c r)) := by
    rw [o.cells (j := 0) (m := n) (by rw [R.len]; omega), List.drop_zero, List.take_of_length_le (by rw [R.len]; exact Nat.le_refl _)]
  rw [this, R.agg]
theorem Rec.park (R : Rec tys n c P) (hz : z.length = n) (h : Heap) (r : dens tys) : ∃ h', (∀ {β : Type} (K : Heap → Option β), need ((h.push (.row z .own)).store (h.next, 0) (c r)) K = K h') ∧ Chg [] h h' ∧ h'.own h.next (c r) := by
  have o := own_push h z
  have ch := chg_push h (.row z .own)
  have hst : (h.push (.row z .own)).store (h.next, 0) (c r) = some ((h.push (.row z .own)).put h.next (.row (c r) .own)) := o.store (by rw [R.len, hz])
  exact ⟨_, fun K => by rw [hst, need_some], ch.put (.inr (Nat.le_refl _)) _, own_put o _⟩
theorem Rec.inj (R : Rec tys n c P) {r r' : dens tys} (h : c r = c r') : r = r' := by
  have h1 := R.agg r (fun x => some x)
  rw [h, R.agg] at h1
  exact (Option.some.inj h1).symm
end
/-! shapes -/
abbrev PaV := Int × SL × Unit
def pac (x : PaV) : List AV := [.int .i64 x.1, SL.av x.2.1]
abbrev OpV := Int × Int × Int × SL × Unit
def opc (x : OpV) : List AV := [.int .i64 x.1, .int .i64 x.2.1, .int .i64 x.2.2.1, SL.av x.2.2.2.1]
abbrev TyV := Int × Bs × SL × SL × Unit
def tyc (r : TyV) : List AV := [.int .i64 r.1, .str r.2.1, SL.av r.2.2.1, SL.av r.2.2.2.1]
abbrev LoV := Bs × Int × Bs × SL × SL × Bool × Unit
def loc (r : LoV) : List AV := [.str r.1, .int .i64 r.2.1, .str r.2.2.1, SL.av r.2.2.2.1, SL.av r.2.2.2.2.1, .bool r.2.2.2.2.2.1]
abbrev MiV := Int × Int × Int × SL × SL × SL × Unit
def mic (r : MiV) : List AV := [.int .i64 r.1, .int .i64 r.2.1, .int .i64 r.2.2.1, SL.av r.2.2.2.1, SL.av r.2.2.2.2.1, SL.av r.2.2.2.2.2.1]
def paD (l : Int) (ss : List Bs) : D := .t [.i l, .l (ss.map D.s)]
def opD (k n : Int) (p : D) : D := .t [.i k, .i n, p]
def rtD (k : Int) (nm : Bs) (rs : List Int) (el : List D) : D := .t [.i k, .s nm, .l (rs.map D.i), .l el]
def loD (nm : Bs) (ty : D) (pm : Bool) : D := .t [.s nm, ty, .b pm]
def isPa (d : D) : Prop := ∃ l ss, d = paD l ss
def isOp (d : D) : Prop := ∃ k n p, d = opD k n p ∧ isPa p
def isRt : Nat → D → Prop
  | 0, _ => False
  | g + 1, d => ∃ k nm rs el, d = rtD k nm rs el ∧ rs.length ≤ 70 ∧ el.length ≤ 2 ∧ ∀ e ∈ el, isRt g e
def isLo (d : D) : Prop := ∃ nm ty pm, d = loD nm ty pm ∧ isRt 67 ty
def vaD (k : Int) (a b : D) (op : Int) (p : D) (rg : Int) (nm : Bs) (rs : List Int) (ag : List D) : D := .t [.i k, a, b, .i op, p, .i rg, .s nm, .l (rs.map D.i), .l ag]
def isVa (d : D) : Prop := ∃ k a b op p rg nm rs ag, d = vaD k a b op p rg nm rs ag ∧ isOp a ∧ isOp b ∧ isPa p ∧ rs.length ≤ 20 ∧ ag.length ≤ 20 ∧ ∀ o ∈ ag, isOp o
def itD (k a : Int) (hs : Bool) (to va : D) (nx : List Int) : D := .t [.i k, .i a, .b hs, to, va, .l (nx.map D.i)]
def isIn (d : D) : Prop := ∃ k a hs to va nx, d = itD k a hs to va nx ∧ isPa to ∧ isVa va ∧ nx.length ≤ 5
abbrev VaV := Int × Int × Int × Int × SL × Int × Int × Int × SL × Int × Int × SL × Int × Bs × SL × SL × Unit
def vac (x : VaV) : List AV := [.int .i64 x.1, .int .i64 x.2.1, .int .i64 x.2.2.1, .int .i64 x.2.2.2.1, SL.av x.2.2.2.2.1, .int .i64 x.2.2.2.2.2.1, .int .i64 x.2.2.2.2.2.2.1, .int .i64 x.2.2.2.2.2.2.2.1, SL.av x.2.2.2.2.2.2.2.2.1, .int .i64 x.2.2.2.2.2.2.2.2.2.1, .int .i64 x.2.2.2.2.2.2.2.2.2.2.1, SL.av x.2.2.2.2.2.2.2.2.2.2.2.1, .int .i64 x.2.2.2.2.2.2.2.2.2.2.2.2.1, .str x.2.2.2.2.2.2.2.2.2.2.2.2.2.1, SL.av x.2.2.2.2.2.2.2.2.2.2.2.2.2.2.1, SL.av x.2.2.2.2.2.2.2.2.2.2.2.2.2.2.2.1]
def vaOf (k : Int) (a b : OpV) (op : Int) (p : PaV) (rg : Int) (nm : Bs) (rs ag : SL) : VaV := (k, a.1, a.2.1, a.2.2.1, a.2.2.2.1, b.1, b.2.1, b.2.2.1, b.2.2.2.1, op, p.1, p.2.1, rg, nm, rs, ag, ())
abbrev InV := Int × Int × Bool × Int × SL × Int × Int × Int × Int × SL × Int × Int × Int × SL × Int × Int × SL × Int × Bs × SL × SL × SL × Unit
def itOf (k a : Int) (hs : Bool) (to : PaV) (v : VaV) (nx : SL) : InV := (k, a, hs, to.1, to.2.1, v.1, v.2.1, v.2.2.1, v.2.2.2.1, v.2.2.2.2.1, v.2.2.2.2.2.1, v.2.2.2.2.2.2.1, v.2.2.2.2.2.2.2.1, v.2.2.2.2.2.2.2.2.1, v.2.2.2.2.2.2.2.2.2.1, v.2.2.2.2.2.2.2.2.2.2.1, v.2.2.2.2.2.2.2.2.2.2.2.1, v.2.2.2.2.2.2.2.2.2.2.2.2.1, v.2.2.2.2.2.2.2.2.2.2.2.2.2.1, v.2.2.2.2.2.2.2.2.2.2.2.2.2.2.1, v.2.2.2.2.2.2.2.2.2.2.2.2.2.2.2.1, nx, ())
def itc (x : InV) : List AV := [.int .i64 x.1, .int .i64 x.2.1, .bool x.2.2.1, .int .i64 x.2.2.2.1, SL.av x.2.2.2.2.1, .int .i64 x.2.2.2.2.2.1, .int .i64 x.2.2.2.2.2.2.1, .int .i64 x.2.2.2.2.2.2.2.1, .int .i64 x.2.2.2.2.2.2.2.2.1, SL.av x.2.2.2.2.2.2.2.2.2.1, .int .i64 x.2.2.2.2.2.2.2.2.2.2.1, .int .i64 x.2.2.2.2.2.2.2.2.2.2.2.1, .int .i64 x.2.2.2.2.2.2.2.2.2.2.2.2.1, SL.av x.2.2.2.2.2.2.2.2.2.2.2.2.2.1, .int .i64 x.2.2.2.2.2.2.2.2.2.2.2.2.2.2.1, .int .i64 x.2.2.2.2.2.2.2.2.2.2.2.2.2.2.2.1, SL.av x.2.2.2.2.2.2.2.2.2.2.2.2.2.2.2.2.1, .int .i64 x.2.2.2.2.2.2.2.2.2.2.2.2.2.2.2.2.2.1, .str x.2.2.2.2.2.2.2.2.2.2.2.2.2.2.2.2.2.2.1, SL.av x.2.2.2.2.2.2.2.2.2.2.2.2.2.2.2.2.2.2.2.1, SL.av x.2.2.2.2.2.2.2.2.2.2.2.2.2.2.2.2.2.2.2.2.1, SL.av x.2.2.2.2.2.2.2.2.2.2.2.2.2.2.2.2.2.2.2.2.2.1]
section
variable {h : Heap} {V : Nat → Prop} {cs : List AV}
theorem lInv {xs : List D} (x : ∃ (s : SL) (vs : List AV), cs = [s.av] ∧ s.len = xs.length ∧ s.len ≤ s.cap ∧ (∀ A, s.blk = some A → V A) ∧ Sees h s vs ∧ De h V s.sz xs vs) : ∃ s : SL, cs = [s.av] ∧ Sl h V s xs := by
  have : Dt h V (.l xs) cs := by simp only [Dt]; exact x
  exact dt_l.1 this
theorem sl_str {s : SL} {xs : List Bs} (x : Sl h V s (xs.map D.s)) {i : Nat} (hi : i < xs.length) : h.cell (s.at i 1) = some (.str xs[i]) := by
  obtain ⟨cs, e⟩ := x.elt (i := i) (by rw [List.length_map]; exact hi)
  have hd := e.dt
  rw [List.getElem_map] at hd
  simp only [Dt] at hd
  have hl := e.len
  rw [hd] at hl
  have hz : s.sz = 1 := by simpa using hl.symm
  have := e.cell 0 (by omega)
  rw [hz, hd] at this
  simpa using this
theorem sl_int {s : SL} {xs : List Int} (x : Sl h V s (xs.map D.i)) {i : Nat} (hi : i < xs.length) : h.cell (s.at i 1) = some (.int .i64 xs[i]) := by
  obtain ⟨cs, e⟩ := x.elt (i := i) (by rw [List.length_map]; exact hi)
  have hd := e.dt
  rw [List.getElem_map] at hd
  simp only [Dt] at hd
  have hl := e.len
  rw [hd] at hl
  have hz : s.sz = 1 := by simpa using hl.symm
  have := e.cell 0 (by omega)
  rw [hz, hd] at this
  simpa using this
theorem inv_pa {l : Int} {ss : List Bs} (x : Dt h V (paD l ss) cs) : ∃ s : SL, cs = pac (l, s, ()) ∧ Sl h V s (ss.map D.s) := by
  simp only [paD, Dt, Dp] at x
  obtain ⟨_, _, rfl, e1, _, _, rfl, x2, rfl⟩ := x
  subst e1
  obtain ⟨s, rfl, hs⟩ := lInv x2
  exact ⟨s, rfl, hs⟩
theorem inv_pa' {d : D} (t : isPa d) (x : Dt h V d cs) : ∃ r : PaV, cs = pac r := by
  obtain ⟨l, ss, rfl⟩ := t
  obtain ⟨s, hc, _⟩ := inv_pa x
  exact ⟨_, hc⟩
theorem inv_op {k n : Int} {p : D} (t : isPa p) (x : Dt h V (opD k n p) cs) : ∃ r : PaV, cs = opc (k, n, r.1, r.2.1, ()) ∧ Dt h V p (pac r) := by
  simp only [opD, Dt, Dp] at x
  obtain ⟨_, _, rfl, e1, _, _, rfl, e2, _, _, rfl, x3, rfl⟩ := x
  subst e1 e2
  obtain ⟨r, rfl⟩ := inv_pa' t x3
  exact ⟨r, rfl, x3⟩
theorem inv_op' {d : D} (t : isOp d) (x : Dt h V d cs) : ∃ r : OpV, cs = opc r := by
  obtain ⟨k, n, p, rfl, ht⟩ := t
  obtain ⟨r, hc, _⟩ := inv_op ht x
  exact ⟨_, hc⟩
theorem inv_rt {k : Int} {nm : Bs} {rs : List Int} {el : List D} (x : Dt h V (rtD k nm rs el) cs) : ∃ s1 s2 : SL, cs = tyc (k, nm, s1, s2, ()) ∧ Sl h V s1 (rs.map D.i) ∧ Sl h V s2 el := by
  simp only [rtD, Dt, Dp] at x
  obtain ⟨_, _, rfl, e1, _, _, rfl, e2, _, _, rfl, x3, _, _, rfl, x4, rfl⟩ := x
  subst e1 e2
  obtain ⟨s1, rfl, h1⟩ := lInv x3
  obtain ⟨s2, rfl, h2⟩ := lInv x4
  exact ⟨s1, s2, rfl, h1, h2⟩
theorem inv_rt' {n : Nat} {d : D} (t : isRt n d) (x : Dt h V d cs) : ∃ r : TyV, cs = tyc r := by
  cases n with
  | zero => cases t
  | succ n =>
    obtain ⟨k, nm, rs, el, rfl, _⟩ := t
    obtain ⟨s1, s2, hc, _⟩ := inv_rt x
    exact ⟨_, hc⟩
theorem inv_lo {nm : Bs} {ty : D} {pm : Bool} {n : Nat} (t : isRt n ty) (x : Dt h V (loD nm ty pm) cs) : ∃ r : TyV, cs = loc (nm, r.1, r.2.1, r.2.2.1, r.2.2.2.1, pm, ()) ∧ Dt h V ty (tyc r) := by
  simp only [loD, Dt, Dp] at x
  obtain ⟨_, _, rfl, e1, _, _, rfl, x2, _, _, rfl, e3, rfl⟩ := x
  subst e1 e3
  obtain ⟨r, rfl⟩ := inv_rt' t x2
  exact ⟨r, rfl, x2⟩
theorem inv_va {k op rg : Int} {a b p : D} {nm : Bs} {rs : List Int} {ag : List D} (ta : isOp a) (tb : isOp b) (tp : isPa p) (x : Dt h V (vaD k a b op p rg nm rs ag) cs) : ∃ (ra rb : OpV) (rp : PaV) (s1 s2 : SL), cs = vac (vaOf k ra rb op rp rg nm s1 s2) ∧ Dt h V a (opc ra) ∧ Dt h V b (opc rb) ∧ Dt h V p (pac rp) ∧ Sl h V s1 (rs.map D.i) ∧ Sl h V s2 ag := by
  simp only [vaD, Dt, Dp] at x
  obtain ⟨_, _, rfl, e1, _, _, rfl, x2, _, _, rfl, x3, _, _, rfl, e4, _, _, rfl, x5, _, _, rfl, e6, _, _, rfl, e7, _, _, rfl, x8, _, _, rfl, x9, rfl⟩ := x
  subst e1 e4 e6 e7
  obtain ⟨ra, rfl⟩ := inv_op' ta x2
  obtain ⟨rb, rfl⟩ := inv_op' tb x3
  obtain ⟨rp, rfl⟩ := inv_pa' tp x5
  obtain ⟨s1, rfl, h1⟩ := lInv x8
  obtain ⟨s2, rfl, h2⟩ := lInv x9
  exact ⟨ra, rb, rp, s1, s2, rfl, x2, x3, x5, h1, h2⟩
theorem inv_va' {d : D} (t : isVa d) (x : Dt h V d cs) : ∃ r : VaV, cs = vac r := by
  obtain ⟨k, a, b, op, p, rg, nm, rs, ag, rfl, ta, tb, tp, _⟩ := t
  obtain ⟨ra, rb, rp, s1, s2, hc, _⟩ := inv_va ta tb tp x
  exact ⟨_, hc⟩
theorem inv_it {k a : Int} {hs : Bool} {to va : D} {nx : List Int} (tt : isPa to) (tv : isVa va) (x : Dt h V (itD k a hs to va nx) cs) : ∃ (rt : PaV) (rv : VaV) (s : SL), cs = itc (itOf k a hs rt rv s) ∧ Dt h V to (pac rt) ∧ Dt h V va (vac rv) ∧ Sl h V s (nx.map D.i) := by
  simp only [itD, Dt, Dp] at x
  obtain ⟨_, _, rfl, e1, _, _, rfl, e2, _, _, rfl, e3, _, _, rfl, x4, _, _, rfl, x5, _, _, rfl, x6, rfl⟩ := x
  subst e1 e2 e3
  obtain ⟨rt, rfl⟩ := inv_pa' tt x4
  obtain ⟨rv, rfl⟩ := inv_va' tv x5
  obtain ⟨s, rfl, h1⟩ := lInv x6
  exact ⟨rt, rv, s, rfl, x4, x5, h1⟩
theorem inv_it' {d : D} (t : isIn d) (x : Dt h V d cs) : ∃ r : InV, cs = itc r := by
  obtain ⟨k, a, hs, to, va, nx, rfl, tt, tv, _⟩ := t
  obtain ⟨rt, rv, s, hc, _⟩ := inv_it tt tv x
  exact ⟨_, hc⟩
theorem inv_mi {a f r : Int} {kn lo co : List D} (x : Dt h V (miD a f r kn lo co) cs) : ∃ s1 s2 s3 : SL, cs = mic (a, f, r, s1, s2, s3, ()) ∧ Sl h V s1 kn ∧ Sl h V s2 lo ∧ Sl h V s3 co := by
  simp only [miD, Dt, Dp] at x
  obtain ⟨_, _, rfl, e1, _, _, rfl, e2, _, _, rfl, e3, _, _, rfl, x4, _, _, rfl, x5, _, _, rfl, x6, rfl⟩ := x
  subst e1 e2 e3
  obtain ⟨s1, rfl, h1⟩ := lInv x4
  obtain ⟨s2, rfl, h2⟩ := lInv x5
  obtain ⟨s3, rfl, h3⟩ := lInv x6
  exact ⟨s1, s2, s3, rfl, h1, h2, h3⟩
end
theorem recPa : Rec [(.int .i64), .slice] 2 pac isPa := ⟨fun _ => rfl, fun r K => by obtain ⟨x1, x2, _⟩ := r; simp [pac, SL.av], fun t x => inv_pa' t x⟩
theorem recOp : Rec [(.int .i64), (.int .i64), (.int .i64), .slice] 4 opc isOp := ⟨fun _ => rfl, fun r K => by obtain ⟨x1, x2, x3, x4, _⟩ := r; simp [opc, SL.av], fun t x => inv_op' t x⟩
theorem recTy (n : Nat) : Rec [(.int .i64), .str, .slice, .slice] 4 tyc (isRt n) := ⟨fun _ => rfl, fun r K => by obtain ⟨x1, x2, x3, x4, _⟩ := r; simp [tyc, SL.av], fun t x => inv_rt' t x⟩
theorem recLo : Rec [.str, (.int .i64), .str, .slice, .slice, .bool] 6 loc isLo := ⟨fun _ => rfl, fun r K => by obtain ⟨x1, x2, x3, x4, x5, x6, _⟩ := r; simp [loc, SL.av], fun t x => by
  obtain ⟨nm, ty, pm, rfl, ht⟩ := t
  obtain ⟨r, hc, _⟩ := inv_lo ht x
  exact ⟨_, hc⟩⟩
theorem recVa : Rec [(.int .i64), (.int .i64), (.int .i64), (.int .i64), .slice, (.int .i64), (.int .i64), (.int .i64), .slice, (.int .i64), (.int .i64), .slice, (.int .i64), .str, .slice, .slice] 16 vac isVa := ⟨fun _ => rfl, fun r K => by
  obtain ⟨x1, x2, x3, x4, x5, x6, x7, x8, x9, x10, x11, x12, x13, x14, x15, x16, _⟩ := r; simp [vac, SL.av], fun t x => inv_va' t x⟩
theorem recIn : Rec [(.int .i64), (.int .i64), .bool, (.int .i64), .slice, (.int .i64), (.int .i64), (.int .i64), (.int .i64), .slice, (.int .i64), (.int .i64), (.int .i64), .slice, (.int .i64), (.int .i64), .slice, (.int .i64), .str, .slice, .slice, .slice] 22 itc isIn := ⟨fun _ => rfl, fun r K => by
  obtain ⟨x1, x2, x3, x4, x5, x6, x7, x8, x9, x10, x11, x12, x13, x14, x15, x16, x17, x18, x19, x20, x21, x22, _⟩ := r; simp [itc, SL.av], fun t x => inv_it' t x⟩
theorem aggM {β : Type} (r : MiV) (K : MiV → Option β) : bindV (.val (.agg [(.int .i64), (.int .i64), (.int .i64), .slice, .slice, .slice])) (some (.agg (mic r))) K = K r := by
  obtain ⟨x1, x2, x3, x4, x5, x6, _⟩ := r; simp [mic, SL.av]
end Go.Proofs.YtjeaammlambkeaaDoor.My

set_option linter.unusedVariables false
set_option linter.unusedSimpArgs false
open Go Go.Proofs.YtjeaammlambkeaaDoor.Ai Go.Proofs
namespace Go.Proofs.YtjeaammlambkeaaDoor.My
/-! mir.May: numbers, types, operands -/
section
variable {N : Nat} {h : Heap} {V : Nat → Prop}
theorem f34_eq (a b : Int) (h : Heap) : f34 N a b h = some (wi a b, h) := by
  unfold f34 wi
  simp only [leI, ltI]
  cases decide (0 ≤ a) <;> rfl
theorem f53_eq {q : Nat × Nat} {n : Int} (hq : h.cell q = some (.int .i64 n)) (a : Int) : f53 N a (some q) h = some (!wi a n, h) := by
  unfold f53
  simp only [need_some, hq, bindV_some, cast_int]
  rw [f34_eq, bind2_some]
theorem ints_loop {q : Nat × Nat} {n : Int} (hq : h.cell q = some (.int .i64 n)) {s : SL} {xs : List Int} (x : Sl h V s (xs.map D.i)) (hl : xs.length ≤ 1000000) : ∀ (M i : Nat), i ≤ xs.length → xs.length - i < M →
    (((xs.drop i).all fun a => wi a n) = true → f65c53_l1 N M s (some q, ()) 0 (xs.length : Int) (i : Int) h = some (.exit 0, (0, ()), h)) ∧
    (((xs.drop i).all fun a => wi a n) = false → ∃ j : Nat, f65c53_l1 N M s (some q, ()) 0 (xs.length : Int) (i : Int) h = some (.ret, ((j : Int), ()), h)) := by
  intro M
  induction M with
  | zero => intro i _ h; omega
  | succ M ih =>
    intro i hi hM
    rw [f65c53_l1_succ]
    unfold f65c53_l1_b
    simp only [lt_nat']
    by_cases w : i < xs.length
    · simp only [w, decide_true, cond_true]
      have w' : i < (xs.map D.i).length := by rw [List.length_map]; exact w
      rw [x.ix w' 1, sl_int x w]
      simp only [bindV_some, cast_int]
      rw [f53_eq hq, bind2_some, List.drop_eq_getElem_cons w, List.all_cons]
      cases hw : wi xs[i] n with
      | true =>
        rw [Bool.true_and]
        simp only [Bool.not_true, cond_false]
        rw [wrap_succ (by omega)]
        exact ih (i + 1) w (by omega)
      | false =>
        rw [Bool.false_and]
        exact ⟨(fun h => by cases h), fun _ => ⟨i, rfl⟩⟩
    · rw [List.drop_eq_nil_of_le (by omega)]
      have z : decide (i < xs.length) = false := decide_eq_false w
      rw [z]
      exact ⟨fun _ => rfl, (fun h => by cases h)⟩
theorem all_ints (xs : List Int) (n : Int) : (xs.map D.i).all (wiD n) = xs.all fun a => wi a n := by
  induction xs with
  | nil => rfl
  | cons a r ih => simp only [List.map_cons, List.all_cons, ih]; rfl
theorem f35_eq (n : Int) {s : SL} {xs : List Int} (x : Sl h V s (xs.map D.i)) (hl : xs.length ≤ 1000000) (hN : 1000001 ≤ N) : ∃ h', f35 N s n h = some ((xs.map D.i).all (wiD n), h') ∧ Chg [] h h' := by
  unfold f35 f52c53 f65c53
  have o := own_push h [(.int .i64 n)]
  have c := chg_push h (.row [(.int .i64 n)] .own)
  dsimp only
  have x := x.chg c (by simp)
  generalize h.push (.row [(.int .i64 n)] .own) = H at *
  have l1 : s.len = xs.length := by rw [x.len, List.length_map]
  obtain ⟨h1, h2⟩ := ints_loop (N := N) (q := (h.next, 0)) (o.cell 0) x hl N 0 (Nat.zero_le _) (by omega)
  rw [show ((0 : Nat) : Int) = 0 from rfl, List.drop_zero] at h1 h2
  rw [all_ints, l1, show Int.ofNat xs.length = (xs.length : Int) from rfl]
  cases ha : xs.all fun a => wi a n with
  | true =>
    rw [h1 ha]
    simp only [bind3_some, eqOut_exit, decide_true, cond_true, bind2_some]
    exact ⟨H, rfl, c⟩
  | false =>
    obtain ⟨j, e⟩ := h2 ha
    rw [e]
    have e0 : eqOut .ret (.exit 0) = false := rfl
    have e1 : leInt 0 (j : Int) = true := by rw [leI, decide_eq_true_eq]; omega
    simp only [bind3_some, e0, cond_false, bind2_some, e1]
    exact ⟨H, rfl, c⟩
theorem tyB_all {R : Int} {g : Nat} {k : Int} {nm : Bs} {rs : List Int} {el : List D} : tyB R (g + 1) (rtD k nm rs el) = ((rs.map D.i).all (wiD R) && (if k = 4 ∨ k = 5 then (decide (rs.length = 1) && match el with | [e] => tyB R g e | _ => false) else (decide (0 ≤ k ∧ k ≤ 3) && el.isEmpty))) := by
  match el with
  | [] => rw [rtD, tyB, List.length_map]; intro e h; cases h
  | [e] => rw [rtD, tyB, List.length_map]
  | a :: b :: r => rw [rtD, tyB, List.length_map]; intro e h; cases h
theorem len1 {el : List D} (h : el.length = 1) : ∃ e, el = [e] := by
  match el, h with
  | [e], _ => exact ⟨e, rfl⟩
theorem f36_eq (hN : 1000001 ≤ N) (R : Int) : ∀ (g M m : Nat) (d : D) (h : Heap) (r : TyV) (V : Nat → Prop), g + 1 ≤ M → g ≤ 64 → isRt m d → Dt h V d (tyc r) → ∃ h', f36 N M r R ((65 - g : Nat) : Int) h = some (tyB R g d, h') ∧ Chg [] h h' := by
  intro g
  induction g with
  | zero =>
    intro M m d h r V hM _ t x
    obtain ⟨M, rfl⟩ : ∃ m, M = m + 1 := ⟨M - 1, by omega⟩
    rw [f36_succ]
    unfold f36_r
    have z : ltInt 64 ((65 - 0 : Nat) : Int) = true := rfl
    simp only [z, cond_true, tyB]
    exact ⟨_, rfl, chg_push _ _⟩
  | succ g ih =>
    intro M m d h r V hM hg t x
    obtain ⟨M, rfl⟩ : ∃ m, M = m + 1 := ⟨M - 1, by omega⟩
    obtain ⟨m, rfl⟩ : ∃ n, m = n + 1 := by
      cases m with
      | zero => cases t
      | succ m => exact ⟨m, rfl⟩
    obtain ⟨k, nm, rs, el, rfl, hrs, hel, tel⟩ := t
    obtain ⟨s1, s2, hc, y1, y2⟩ := inv_rt x
    obtain rfl := (recTy 1).inj hc
    rw [f36_succ]
    unfold f36_r
    have o := own_push h (tyc (k, nm, s1, s2, ()))
    have c := chg_push h (.row (tyc (k, nm, s1, s2, ())) .own)
    have e1 : h.push (.row [(.int .i64 k), (.str nm), (.slice s1.a s1.len s1.cap s1.sz), (.slice s2.a s2.len s2.cap s2.sz)] .own) = h.push (.row (tyc (k, nm, s1, s2, ())) .own) := rfl
    dsimp only
    rw [e1]
    have y1 := y1.chg c (by simp)
    have y2 := y2.chg c (by simp)
    generalize h.push (.row (tyc (k, nm, s1, s2, ())) .own) = H at *
    have z : ltInt 64 ((65 - (g + 1) : Nat) : Int) = false := by rw [ltI, decide_eq_false_iff_not]; omega
    have a2 : H.cell (h.next, 2) = some (.slice s1.a s1.len s1.cap s1.sz) := o.cell 2
    simp only [z, cond_false, Nat.zero_add, a2, bindV_some, cast_slice]
    obtain ⟨H1, e, c1⟩ := f35_eq (N := N) R y1 (by omega) hN
    have e' : f35 N ⟨s1.a, s1.len, s1.cap, s1.sz⟩ R H = some ((rs.map D.i).all (wiD R), H1) := e
    rw [e', bind2_some, tyB_all]
    have c01 := c.trans c1
    cases hall : (rs.map D.i).all (wiD R) with
    | false => exact ⟨H1, by simp, c01⟩
    | true =>
      have o1 := o.chg c1 (by simp)
      have b0 : H1.cell (h.next, 0) = some (.int .i64 k) := o1.cell 0
      have b2 : H1.cell (h.next, 2) = some (.slice s1.a s1.len s1.cap s1.sz) := o1.cell 2
      have b3 : H1.cell (h.next, 3) = some (.slice s2.a s2.len s2.cap s2.sz) := o1.cell 3
      have l1 : s1.len = rs.length := by rw [y1.len, List.length_map]
      have l2 : s2.len = el.length := y2.len
      have y2 := y2.chg c1 (by simp)
      have q1 : ∀ n : Nat, eqInt (Int.ofNat n) 1 = decide (n = 1) := fun n => lenI n 1
      have q0 : ∀ n : Nat, eqInt (Int.ofNat n) 0 = decide (n = 0) := fun n => lenI n 0
      simp only [Bool.not_true, cond_false, b0, bindV_some, cast_int, Bool.true_and]
      have ew : wrapA .i64 (((65 - (g + 1) : Nat) : Int) + 1) = ((65 - g : Nat) : Int) := by
        rw [wrap_succ (by omega), show 65 - (g + 1) + 1 = 65 - g by omega]
      have emp : ∃ h', some (decide (s2.len = 0), H1) = some (el.isEmpty, h') ∧ Chg [] h h' := by
        rw [l2]
        refine ⟨H1, ?_, c01⟩
        cases el <;> rfl
      -- a reference
      have ref : (k = 4 ∨ k = 5) → ∃ h', (bif decide (s2.len = 1) then (bindV (.val (.one .slice)) (H1.cell (h.next, 2)) fun (x22 : SL) => (bif eqInt (Int.ofNat x22.len) 1 then (bindV (.val (.one .slice)) (H1.cell (h.next, 3)) fun (x24 : SL) => (ixK x24.a x24.len 0 4 fun q25 => (bindV (.val (.agg [(.int .i64), .str, .slice, .slice])) (H1.cells q25 4) fun x26 => (bind2 (f36 N M (x26.1, x26.2.1, x26.2.2.1, x26.2.2.2.1, ()) R (wrapA .i64 (((65 - (g + 1) : Nat) : Int) + 1)) H1) fun x28 h29 => some (x28, h29))))) else some (false, H1))) else some (false, H1)) = some (decide (rs.length = 1) && (match el with | [e] => tyB R g e | _ => false), h') ∧ Chg [] h h' := fun _ => by
        by_cases w2 : el.length = 1
        · obtain ⟨e, rfl⟩ := len1 w2
          have l2' : s2.len = 1 := l2
          simp only [l2', decide_true, cond_true, b2, bindV_some, cast_slice, q1, l1]
          by_cases w1 : rs.length = 1
          · simp only [w1, decide_true, cond_true, b3, bindV_some, cast_slice, l2', Bool.true_and]
            have hi : 0 < [e].length := by simp
            have hix : ∀ {β : Type} (K : Nat × Nat → Option β), ixK s2.a 1 ((0 : Nat) : Int) 4 K = K (s2.at 0 4) := fun K => by
              have := y2.ix hi 4 K
              rwa [l2'] at this
            rw [show (0 : Int) = ((0 : Nat) : Int) from rfl, hix]
            obtain ⟨r1, hr1, d1⟩ := (recTy m).elt y2 hi (tel e (by simp))
            rw [hr1, (recTy m).agg, ew]
            obtain ⟨H2, e2, c2⟩ := ih M m e H1 r1 V (by omega) (by omega) (tel e (by simp)) d1
            have e2' : f36 N M (r1.1, r1.2.1, r1.2.2.1, r1.2.2.2.1, ()) R ((65 - g : Nat) : Int) H1 = some (tyB R g e, H2) := e2
            rw [e2', bind2_some]
            exact ⟨H2, rfl, c01.trans c2⟩
          · simp only [w1, decide_false, cond_false, Bool.false_and]
            exact ⟨H1, rfl, c01⟩
        · have : ¬ s2.len = 1 := by rw [l2]; exact w2
          simp only [this, decide_false, cond_false]
          refine ⟨H1, ?_, c01⟩
          match el, w2 with
          | [], _ => simp
          | [a], w2 => exact absurd rfl w2
          | a :: b :: r, _ => simp
      simp only [q1, q0, b3, bindV_some, cast_slice]
      by_cases k4 : k = 4
      · have z4 : eqInt k 4 = true := by rw [k4]; rfl
        have hif : (k = 4 ∨ k = 5) = True := eq_true (.inl k4)
        simp only [z4, cond_true, hif, if_true]
        have := ref (.inl k4)
        simp only [q1, b2, b3, bindV_some, cast_slice] at this
        rw [b2]
        exact this
      have z4 : eqInt k 4 = false := by rw [eqI, decide_eq_false k4]
      by_cases k5 : k = 5
      · have z5 : eqInt k 5 = true := by rw [k5]; rfl
        have hif : (k = 4 ∨ k = 5) = True := eq_true (.inr k5)
        simp only [z4, z5, cond_true, cond_false, hif, if_true]
        have := ref (.inr k5)
        simp only [q1, b2, b3, bindV_some, cast_slice] at this
        rw [b2]
        exact this
      have z5 : eqInt k 5 = false := by rw [eqI, decide_eq_false k5]
      have hif : (k = 4 ∨ k = 5) = False := eq_false (fun h => h.elim k4 k5)
      simp only [z4, z5, cond_false, hif, if_false]
      by_cases k0 : k = 0
      · have z0 : eqInt k 0 = true := by rw [k0]; rfl
        have hd : decide (0 ≤ k ∧ k ≤ 3) = true := decide_eq_true (by omega)
        simp only [z0, cond_true, hd, Bool.true_and]; exact emp
      have z0 : eqInt k 0 = false := by rw [eqI, decide_eq_false k0]
      by_cases k1 : k = 1
      · have z1 : eqInt k 1 = true := by rw [k1]; rfl
        have hd : decide (0 ≤ k ∧ k ≤ 3) = true := decide_eq_true (by omega)
        simp only [z0, z1, cond_true, cond_false, hd, Bool.true_and]; exact emp
      have z1 : eqInt k 1 = false := by rw [eqI, decide_eq_false k1]
      by_cases k2 : k = 2
      · have z2 : eqInt k 2 = true := by rw [k2]; rfl
        have hd : decide (0 ≤ k ∧ k ≤ 3) = true := decide_eq_true (by omega)
        simp only [z0, z1, z2, cond_true, cond_false, hd, Bool.true_and]; exact emp
      have z2 : eqInt k 2 = false := by rw [eqI, decide_eq_false k2]
      by_cases k3 : k = 3
      · have z3 : eqInt k 3 = true := by rw [k3]; rfl
        have hd : decide (0 ≤ k ∧ k ≤ 3) = true := decide_eq_true (by omega)
        simp only [z0, z1, z2, z3, cond_true, cond_false, hd, Bool.true_and]; exact emp
      have z3 : eqInt k 3 = false := by rw [eqI, decide_eq_false k3]
      have hd : decide (0 ≤ k ∧ k ≤ 3) = false := decide_eq_false (by omega)
      simp only [z0, z1, z2, z3, cond_false, hd, Bool.false_and]
      exact ⟨H1, rfl, c01⟩
end
end Go.Proofs.YtjeaammlambkeaaDoor.My

set_option linter.unusedVariables false
set_option linter.unusedSimpArgs false
open Go Go.Proofs.YtjeaammlambkeaaDoor.Ai Go.Proofs
namespace Go.Proofs.YtjeaammlambkeaaDoor.My
/-! mir.May: values, points -/
section
variable {N : Nat} {h : Heap} {V : Nat → Prop}
theorem f56_eq (L k n l : Int) (s : SL) (ss : List Bs) (h : Heap) : ∃ h', f56 N (k, n, l, s, ()) L h = some (opB L (opD k n (paD l ss)), h') ∧ Chg [] h h' := by
  unfold f56
  have o := own_push h [(.int .i64 k), (.int .i64 n), (.int .i64 l), (.slice s.a s.len s.cap s.sz)]
  have c := chg_push h (.row [(.int .i64 k), (.int .i64 n), (.int .i64 l), (.slice s.a s.len s.cap s.sz)] .own)
  dsimp only
  generalize h.push (.row [(.int .i64 k), (.int .i64 n), (.int .i64 l), (.slice s.a s.len s.cap s.sz)] .own) = H at *
  have a0 : H.cell (h.next, 0) = some (.int .i64 k) := o.cell 0
  have a2 : H.cell (h.next, 2) = some (.int .i64 l) := o.cell 2
  simp only [Nat.zero_add, Nat.add_zero, a0, a2, bindV_some, cast_int, f34_eq, bind2_some]
  refine ⟨H, ?_, c⟩
  simp only [opD, paD, opB, eqI]
  by_cases k1 : k = 1
  · subst k1; rfl
  by_cases k2 : k = 2
  · subst k2; rfl
  by_cases k3 : k = 3
  · subst k3; rfl
  by_cases k4 : k = 4
  · subst k4; rfl
  simp only [k1, k2, k3, k4, decide_false, cond_false, or_self, if_false]
theorem op_eq {L : Int} {d : D} (t : isOp d) {r : OpV} (x : Dt h V d (opc r)) (H : Heap) : ∃ h', f56 N (r.1, r.2.1, r.2.2.1, r.2.2.2.1, ()) L H = some (opB L d, h') ∧ Chg [] H h' := by
  obtain ⟨k, n, p, rfl, l, ss, rfl⟩ := t
  obtain ⟨rp, hc, y⟩ := inv_op ⟨l, ss, rfl⟩ x
  obtain rfl := recOp.inj hc
  obtain ⟨s, hc', _⟩ := inv_pa y
  obtain rfl := recPa.inj hc'
  exact f56_eq L k n l s ss H
theorem ops_loop {A : Nat} {L : Int} {s : SL} {xs : List D} (hl : xs.length ≤ 1000000) (ht : ∀ o ∈ xs, isOp o) : ∀ (M i : Nat) (h : Heap), h.own A [.int .i64 L] → Sl h V s xs → i ≤ xs.length → xs.length - i < M → ∃ h', Chg [] h h' ∧
    (((xs.drop i).all (opB L) = true ∧ f77c67_l1 N M s (some (A, 0), ()) 0 (xs.length : Int) (i : Int) h = some (.exit 0, (0, ()), h')) ∨
    ((xs.drop i).all (opB L) = false ∧ ∃ j : Nat, f77c67_l1 N M s (some (A, 0), ()) 0 (xs.length : Int) (i : Int) h = some (.ret, ((j : Int), ()), h'))) := by
  intro M
  induction M with
  | zero => intro i h _ _ _ h; omega
  | succ M ih =>
    intro i h o x hi hM
    rw [f77c67_l1_succ]
    unfold f77c67_l1_b
    simp only [lt_nat']
    by_cases w : i < xs.length
    · simp only [w, decide_true, cond_true]
      obtain ⟨r, hr, d⟩ := recOp.elt x w (ht _ (List.getElem_mem w))
      rw [x.ix w 4, hr, recOp.agg]
      unfold f67
      have o1 := own_push h (opc r)
      have c1 := chg_push h (.row (opc r) .own)
      have e1 : h.push (.row [(.int .i64 r.1), (.int .i64 r.2.1), (.int .i64 r.2.2.1), (.slice r.2.2.2.1.a r.2.2.2.1.len r.2.2.2.1.cap r.2.2.2.1.sz)] .own) = h.push (.row (opc r) .own) := rfl
      dsimp only
      rw [e1]
      have o := o.chg c1 (by simp)
      have x := x.chg c1 (by simp)
      generalize h.push (.row (opc r) .own) = H at *
      have aq : H.cell (A, 0) = some (.int .i64 L) := o.cell 0
      rw [recOp.cells o1]
      simp only [need_some, aq, bindV_some, cast_int]
      obtain ⟨H1, e, c⟩ := op_eq (N := N) (L := L) (ht _ (List.getElem_mem w)) d H
      rw [e, bind2_some, bind2_some, List.drop_eq_getElem_cons w, List.all_cons]
      have o := o.chg c (by simp)
      have x := x.chg c (by simp)
      cases hw : opB L xs[i] with
      | true =>
        rw [Bool.true_and]
        simp only [Bool.not_true, cond_false]
        rw [wrap_succ (by omega)]
        obtain ⟨h', c', d'⟩ := ih (i + 1) H1 o x w (by omega)
        exact ⟨h', (c1.trans c).trans c', d'⟩
      | false =>
        rw [Bool.false_and]
        exact ⟨H1, c1.trans c, .inr ⟨rfl, i, rfl⟩⟩
    · rw [List.drop_eq_nil_of_le (by omega)]
      have z : decide (i < xs.length) = false := decide_eq_false w
      rw [z]
      exact ⟨h, Chg.refl _ _, .inl ⟨rfl, rfl⟩⟩
theorem f66_eq {A : Nat} {L : Int} {s : SL} {xs : List D} (hl : xs.length ≤ 1000000) (ht : ∀ o ∈ xs, isOp o) (o : h.own A [.int .i64 L]) (x : Sl h V s xs) (hN : 1000001 ≤ N) : ∃ h', f66c67 N s (some (A, 0), ()) h = some (!xs.all (opB L), h') ∧ Chg [] h h' := by
  unfold f66c67 f77c67
  obtain ⟨h', c, d⟩ := ops_loop (N := N) hl ht N 0 h o x (Nat.zero_le _) (by omega)
  rw [show ((0 : Nat) : Int) = 0 from rfl, List.drop_zero] at d
  rw [x.len, show Int.ofNat xs.length = (xs.length : Int) from rfl]
  rcases d with ⟨ha, e⟩ | ⟨ha, j, e⟩
  · rw [e, ha]
    simp only [bind3_some, eqOut_exit, decide_true, cond_true, bind2_some]
    exact ⟨h', rfl, c⟩
  · rw [e, ha]
    have e0 : eqOut .ret (.exit 0) = false := rfl
    have e1 : leInt 0 (j : Int) = true := by rw [leI, decide_eq_true_eq]; omega
    simp only [bind3_some, e0, cond_false, bind2_some, e1]
    exact ⟨h', rfl, c⟩
abbrev rowV (x : VaV) : List AV := [(.int .i64 x.1), (.int .i64 x.2.1), (.int .i64 x.2.2.1), (.int .i64 x.2.2.2.1), (.slice x.2.2.2.2.1.a x.2.2.2.2.1.len x.2.2.2.2.1.cap x.2.2.2.2.1.sz), (.int .i64 x.2.2.2.2.2.1), (.int .i64 x.2.2.2.2.2.2.1), (.int .i64 x.2.2.2.2.2.2.2.1), (.slice x.2.2.2.2.2.2.2.2.1.a x.2.2.2.2.2.2.2.2.1.len x.2.2.2.2.2.2.2.2.1.cap x.2.2.2.2.2.2.2.2.1.sz), (.int .i64 x.2.2.2.2.2.2.2.2.2.1), (.int .i64 x.2.2.2.2.2.2.2.2.2.2.1), (.slice x.2.2.2.2.2.2.2.2.2.2.2.1.a x.2.2.2.2.2.2.2.2.2.2.2.1.len x.2.2.2.2.2.2.2.2.2.2.2.1.cap x.2.2.2.2.2.2.2.2.2.2.2.1.sz), (.int .i64 x.2.2.2.2.2.2.2.2.2.2.2.2.1), (.str x.2.2.2.2.2.2.2.2.2.2.2.2.2.1), (.slice x.2.2.2.2.2.2.2.2.2.2.2.2.2.2.1.a x.2.2.2.2.2.2.2.2.2.2.2.2.2.2.1.len x.2.2.2.2.2.2.2.2.2.2.2.2.2.2.1.cap x.2.2.2.2.2.2.2.2.2.2.2.2.2.2.1.sz), (.slice x.2.2.2.2.2.2.2.2.2.2.2.2.2.2.2.1.a x.2.2.2.2.2.2.2.2.2.2.2.2.2.2.2.1.len x.2.2.2.2.2.2.2.2.2.2.2.2.2.2.2.1.cap x.2.2.2.2.2.2.2.2.2.2.2.2.2.2.2.1.sz)]
theorem f55_eq (hN : 1000001 ≤ N) (L R : Int) {d : D} (t : isVa d) {r : VaV} (x : Dt h V d (vac r)) : ∃ h', f55 N r L R h = some (vaB L R d, h') ∧ Chg [] h h' := by
  obtain ⟨k, a, b, op, p, rg, nm, rs, ag, rfl, ta, tb, tp, hrs, hag, tag⟩ := t
  obtain ⟨ra, rb, rp, s1, s2, hc, xa, xb, xp, y1, y2⟩ := inv_va ta tb tp x
  have hr := recVa.inj hc
  clear hc x
  obtain ⟨pl, ss, rfl⟩ := tp
  obtain ⟨sp, hcp, _⟩ := inv_pa xp
  obtain rfl := recPa.inj hcp
  unfold f55
  have o := own_push h (vac r)
  have c := chg_push h (.row (vac r) .own)
  have e1 : h.push (.row (rowV r) .own) = h.push (.row (vac r) .own) := rfl
  dsimp only
  rw [e1]
  have y1 := y1.chg c (by simp)
  have y2 := y2.chg c (by simp)
  generalize h.push (.row (vac r) .own) = h1 at *
  have oq := own_push h1 [(.int .i64 L)]
  have cq := chg_push h1 (.row [(.int .i64 L)] .own)
  have o := o.chg cq (by simp)
  have y1 := y1.chg cq (by simp)
  have y2 := y2.chg cq (by simp)
  have c := c.trans cq
  generalize h1.push (.row [(.int .i64 L)] .own) = H at *
  subst hr
  have a0 : H.cell (h.next, 0) = some (.int .i64 k) := o.cell 0
  have a10 : H.cell (h.next, 10) = some (.int .i64 pl) := o.cell 10
  have a12 : H.cell (h.next, 12) = some (.int .i64 rg) := o.cell 12
  have a14 : H.cell (h.next, 14) = some (.slice s1.a s1.len s1.cap s1.sz) := o.cell 14
  have aa : H.cells (h.next, 1) 4 = some (.agg (opc ra)) := o.cells (j := 1) (m := 4) (show 1 + 4 ≤ 16 by decide)
  have ab : H.cells (h.next, 5) 4 = some (.agg (opc rb)) := o.cells (j := 5) (m := 4) (show 5 + 4 ≤ 16 by decide)
  have aq : H.cell (h1.next, 0) = some (.int .i64 L) := oq.cell 0
  simp only [Nat.zero_add, Nat.add_zero, a0, bindV_some, cast_int]
  by_cases k2 : k = 2
  · subst k2
    simp only [show eqInt (2 : Int) 2 = true from rfl, show eqInt (2 : Int) 3 = false from rfl, show eqInt (2 : Int) 5 = false from rfl, show eqInt (2 : Int) 1 = false from rfl, show eqInt (2 : Int) 4 = false from rfl, show eqInt (2 : Int) 6 = false from rfl, show eqInt (2 : Int) 7 = false from rfl, cond_true, a10, aq, bindV_some, cast_int, f34_eq, bind2_some, a12]
    refine ⟨H, ?_, c⟩
    rw [show vaB L R (vaD 2 a b op (paD pl ss) rg nm rs ag) = (wi pl L && wi rg R) from rfl]
    cases wi pl L <;> rfl
  by_cases k3 : k = 3
  · subst k3
    simp only [show eqInt (3 : Int) 2 = false from rfl, show eqInt (3 : Int) 3 = true from rfl, show eqInt (3 : Int) 5 = false from rfl, show eqInt (3 : Int) 1 = false from rfl, show eqInt (3 : Int) 4 = false from rfl, show eqInt (3 : Int) 6 = false from rfl, show eqInt (3 : Int) 7 = false from rfl, cond_true, cond_false, a10, aq, bindV_some, cast_int, f34_eq, bind2_some, a12]
    refine ⟨H, ?_, c⟩
    rw [show vaB L R (vaD 3 a b op (paD pl ss) rg nm rs ag) = (wi pl L && wi rg R) from rfl]
    cases wi pl L <;> rfl
  by_cases k5 : k = 5
  · subst k5
    rw [show vaB L R (vaD 5 a b op (paD pl ss) rg nm rs ag) = (opB L b && opB L a) from rfl]
    simp only [show eqInt (5 : Int) 2 = false from rfl, show eqInt (5 : Int) 3 = false from rfl, show eqInt (5 : Int) 5 = true from rfl, show eqInt (5 : Int) 1 = false from rfl, show eqInt (5 : Int) 4 = false from rfl, show eqInt (5 : Int) 6 = false from rfl, show eqInt (5 : Int) 7 = false from rfl, cond_true, cond_false, ab, recOp.agg, aq, bindV_some, cast_int]
    obtain ⟨H1, e, c1⟩ := op_eq (N := N) (L := L) tb xb H
    rw [e, bind2_some]
    cases opB L b with
    | false => exact ⟨H1, rfl, c.trans c1⟩
    | true =>
      have aa1 : H1.cells (h.next, 1) 4 = some (.agg (opc ra)) := (o.chg c1 (by simp)).cells (j := 1) (m := 4) (show 1 + 4 ≤ 16 by decide)
      have aq1 : H1.cell (h1.next, 0) = some (.int .i64 L) := (oq.chg c1 (by simp)).cell 0
      simp only [Bool.not_true, cond_false, aa1, recOp.agg, aq1, bindV_some, cast_int, Bool.true_and]
      obtain ⟨H2, e, c2⟩ := op_eq (N := N) (L := L) ta xa H1
      rw [e, bind2_some]
      exact ⟨H2, rfl, (c.trans c1).trans c2⟩
  by_cases k1 : k = 1
  · subst k1
    rw [show vaB L R (vaD 1 a b op (paD pl ss) rg nm rs ag) = opB L a from rfl]
    simp only [show eqInt (1 : Int) 2 = false from rfl, show eqInt (1 : Int) 3 = false from rfl, show eqInt (1 : Int) 5 = false from rfl, show eqInt (1 : Int) 1 = true from rfl, show eqInt (1 : Int) 4 = false from rfl, show eqInt (1 : Int) 6 = false from rfl, show eqInt (1 : Int) 7 = false from rfl, cond_true, cond_false, aa, recOp.agg, aq, bindV_some, cast_int]
    obtain ⟨H1, e, c1⟩ := op_eq (N := N) (L := L) ta xa H
    rw [e, bind2_some]
    exact ⟨H1, rfl, c.trans c1⟩
  by_cases k4 : k = 4
  · subst k4
    rw [show vaB L R (vaD 4 a b op (paD pl ss) rg nm rs ag) = opB L a from rfl]
    simp only [show eqInt (4 : Int) 2 = false from rfl, show eqInt (4 : Int) 3 = false from rfl, show eqInt (4 : Int) 5 = false from rfl, show eqInt (4 : Int) 1 = false from rfl, show eqInt (4 : Int) 4 = true from rfl, show eqInt (4 : Int) 6 = false from rfl, show eqInt (4 : Int) 7 = false from rfl, cond_true, cond_false, aa, recOp.agg, aq, bindV_some, cast_int]
    obtain ⟨H1, e, c1⟩ := op_eq (N := N) (L := L) ta xa H
    rw [e, bind2_some]
    exact ⟨H1, rfl, c.trans c1⟩
  have lst : ∀ b : Bool, b = ((rs.map D.i).all (wiD R) && ag.all (opB L)) → ∃ h', (bindV (.val (.one .slice)) (some (.slice s1.a s1.len s1.cap s1.sz)) fun (x28 : SL) =>
         (bind2 (f35 N x28 R H) fun (x29 : Bool) h30 =>
         (bif x29 then
          (bindV (.val (.one .slice)) (h30.cell (h.next, 15)) fun (x31 : SL) =>
          (bind2 (f66c67 N x31 ((some (h1.next, 0)), ()) h30) fun (x32 : Bool) h33 =>
          some (!x32, h33)))
         else
          some (false, h30)))) = some (b, h') ∧ Chg [] h h' := by
    rintro _ rfl
    rw [bindV_some, cast_slice]
    obtain ⟨H1, e, c1⟩ := f35_eq (N := N) R y1 (by omega) hN
    have e' : f35 N ⟨s1.a, s1.len, s1.cap, s1.sz⟩ R H = some ((rs.map D.i).all (wiD R), H1) := e
    rw [e', bind2_some]
    cases (rs.map D.i).all (wiD R) with
    | false => exact ⟨H1, rfl, c.trans c1⟩
    | true =>
      have a15 : H1.cell (h.next, 15) = some (.slice s2.a s2.len s2.cap s2.sz) := (o.chg c1 (by simp)).cell 15
      rw [a15]
      simp only [cond_true, bindV_some, cast_slice, Bool.true_and]
      obtain ⟨H2, e2, c2⟩ := f66_eq (N := N) (by omega) tag (oq.chg c1 (by simp)) (y2.chg c1 (by simp)) hN
      have e2' : f66c67 N ⟨s2.a, s2.len, s2.cap, s2.sz⟩ ((some (h1.next, 0)), ()) H1 = some (!ag.all (opB L), H2) := e2
      rw [e2', bind2_some, Bool.not_not]
      exact ⟨H2, rfl, (c.trans c1).trans c2⟩
  by_cases k6 : k = 6
  · subst k6
    simp only [show eqInt (6 : Int) 2 = false from rfl, show eqInt (6 : Int) 3 = false from rfl, show eqInt (6 : Int) 5 = false from rfl, show eqInt (6 : Int) 1 = false from rfl, show eqInt (6 : Int) 4 = false from rfl, show eqInt (6 : Int) 6 = true from rfl, show eqInt (6 : Int) 7 = false from rfl, cond_true, cond_false, a14]
    exact lst _ rfl
  by_cases k7 : k = 7
  · subst k7
    simp only [show eqInt (7 : Int) 2 = false from rfl, show eqInt (7 : Int) 3 = false from rfl, show eqInt (7 : Int) 5 = false from rfl, show eqInt (7 : Int) 1 = false from rfl, show eqInt (7 : Int) 4 = false from rfl, show eqInt (7 : Int) 6 = false from rfl, show eqInt (7 : Int) 7 = true from rfl, cond_true, cond_false, a14]
    exact lst _ rfl
  have z : ∀ c : Int, k ≠ c → eqInt k c = false := fun c h => by rw [eqI, decide_eq_false h]
  simp only [z _ k1, z _ k2, z _ k3, z _ k4, z _ k5, z _ k6, z _ k7, cond_false]
  refine ⟨H, ?_, c⟩
  simp only [vaD, paD, vaB, k1, k2, k3, k4, k5, k6, k7, or_self, if_false]
end
end Go.Proofs.YtjeaammlambkeaaDoor.My

set_option linter.unusedVariables false
set_option linter.unusedSimpArgs false
open Go Go.Proofs.YtjeaammlambkeaaDoor.Ai Go.Proofs
namespace Go.Proofs.YtjeaammlambkeaaDoor.My
/-! mir.May: points -/
section
variable {N : Nat} {h : Heap} {V : Nat → Prop}
abbrev rowI (x : InV) : List AV := [(.int .i64 x.1), (.int .i64 x.2.1), (.bool x.2.2.1), (.int .i64 x.2.2.2.1), (.slice x.2.2.2.2.1.a x.2.2.2.2.1.len x.2.2.2.2.1.cap x.2.2.2.2.1.sz), (.int .i64 x.2.2.2.2.2.1), (.int .i64 x.2.2.2.2.2.2.1), (.int .i64 x.2.2.2.2.2.2.2.1), (.int .i64 x.2.2.2.2.2.2.2.2.1), (.slice x.2.2.2.2.2.2.2.2.2.1.a x.2.2.2.2.2.2.2.2.2.1.len x.2.2.2.2.2.2.2.2.2.1.cap x.2.2.2.2.2.2.2.2.2.1.sz), (.int .i64 x.2.2.2.2.2.2.2.2.2.2.1), (.int .i64 x.2.2.2.2.2.2.2.2.2.2.2.1), (.int .i64 x.2.2.2.2.2.2.2.2.2.2.2.2.1), (.slice x.2.2.2.2.2.2.2.2.2.2.2.2.2.1.a x.2.2.2.2.2.2.2.2.2.2.2.2.2.1.len x.2.2.2.2.2.2.2.2.2.2.2.2.2.1.cap x.2.2.2.2.2.2.2.2.2.2.2.2.2.1.sz), (.int .i64 x.2.2.2.2.2.2.2.2.2.2.2.2.2.2.1), (.int .i64 x.2.2.2.2.2.2.2.2.2.2.2.2.2.2.2.1), (.slice x.2.2.2.2.2.2.2.2.2.2.2.2.2.2.2.2.1.a x.2.2.2.2.2.2.2.2.2.2.2.2.2.2.2.2.1.len x.2.2.2.2.2.2.2.2.2.2.2.2.2.2.2.2.1.cap x.2.2.2.2.2.2.2.2.2.2.2.2.2.2.2.2.1.sz), (.int .i64 x.2.2.2.2.2.2.2.2.2.2.2.2.2.2.2.2.2.1), (.str x.2.2.2.2.2.2.2.2.2.2.2.2.2.2.2.2.2.2.1), (.slice x.2.2.2.2.2.2.2.2.2.2.2.2.2.2.2.2.2.2.2.1.a x.2.2.2.2.2.2.2.2.2.2.2.2.2.2.2.2.2.2.2.1.len x.2.2.2.2.2.2.2.2.2.2.2.2.2.2.2.2.2.2.2.1.cap x.2.2.2.2.2.2.2.2.2.2.2.2.2.2.2.2.2.2.2.1.sz), (.slice x.2.2.2.2.2.2.2.2.2.2.2.2.2.2.2.2.2.2.2.2.1.a x.2.2.2.2.2.2.2.2.2.2.2.2.2.2.2.2.2.2.2.2.1.len x.2.2.2.2.2.2.2.2.2.2.2.2.2.2.2.2.2.2.2.2.1.cap x.2.2.2.2.2.2.2.2.2.2.2.2.2.2.2.2.2.2.2.2.1.sz), (.slice x.2.2.2.2.2.2.2.2.2.2.2.2.2.2.2.2.2.2.2.2.2.1.a x.2.2.2.2.2.2.2.2.2.2.2.2.2.2.2.2.2.2.2.2.2.1.len x.2.2.2.2.2.2.2.2.2.2.2.2.2.2.2.2.2.2.2.2.2.1.cap x.2.2.2.2.2.2.2.2.2.2.2.2.2.2.2.2.2.2.2.2.2.1.sz)]
def nxB (P : Int) (f : Bool) (c : Nat) (nx : List Int) : Bool := f && decide (nx.length = c) && (nx.map D.i).all (wiD P)
theorem inB_1 {L R P a tl : Int} {hs : Bool} {ss : List Bs} {va : D} {nx : List Int} : inB L R P (itD 1 a hs (paD tl ss) va nx) = nxB P (vaB L R va && (!hs || wi tl L)) 1 nx := by
  simp only [itD, paD, inB, nxB, if_true, List.length_map]
theorem inB_2 {L R P k a tl : Int} {hs : Bool} {ss : List Bs} {va : D} {nx : List Int} (h : k = 2 ∨ k = 3) : inB L R P (itD k a hs (paD tl ss) va nx) = nxB P (wi tl L) 1 nx := by
  have h1 : ¬ k = 1 := by omega
  simp only [itD, paD, inB, nxB, h1, h, if_true, if_false, List.length_map]
theorem inB_4 {L R P a tl : Int} {hs : Bool} {ss : List Bs} {va : D} {nx : List Int} : inB L R P (itD 4 a hs (paD tl ss) va nx) = nxB P (opB L (vA va)) 2 nx := by
  simp only [itD, paD, inB, nxB, show ¬ ((4 : Int) = 1) by decide, show ¬ ((4 : Int) = 2 ∨ (4 : Int) = 3) by decide, if_true, if_false, List.length_map]
theorem inB_5 {L R P a tl : Int} {hs : Bool} {ss : List Bs} {va : D} {nx : List Int} : inB L R P (itD 5 a hs (paD tl ss) va nx) = nxB P true 1 nx := by
  simp only [itD, paD, inB, nxB, show ¬ ((5 : Int) = 1) by decide, show ¬ ((5 : Int) = 2 ∨ (5 : Int) = 3) by decide, show ¬ ((5 : Int) = 4) by decide, if_true, if_false, List.length_map, Bool.true_and]
theorem inB_6 {L R P a tl : Int} {hs : Bool} {ss : List Bs} {va : D} {nx : List Int} : inB L R P (itD 6 a hs (paD tl ss) va nx) = nxB P true 0 nx := by
  simp only [itD, paD, inB, nxB, show ¬ ((6 : Int) = 1) by decide, show ¬ ((6 : Int) = 2 ∨ (6 : Int) = 3) by decide, show ¬ ((6 : Int) = 4) by decide, show ¬ ((6 : Int) = 5) by decide, if_true, if_false, List.length_map, Bool.true_and]
theorem f39_eq (hN : 1000001 ≤ N) (L R P : Int) {d : D} (t : isIn d) {r : InV} (x : Dt h V d (itc r)) : ∃ h', f39 N r L R P h = some (inB L R P d, h') ∧ Chg [] h h' := by
  obtain ⟨k, a, hs, to, va, nx, rfl, tt, tv, hnx⟩ := t
  obtain ⟨rt, rv, s, hc, xt, xv, y⟩ := inv_it tt tv x
  have hr := recIn.inj hc
  clear hc x
  obtain ⟨tl, ss, rfl⟩ := tt
  obtain ⟨sp, hcp, _⟩ := inv_pa xt
  obtain rfl := recPa.inj hcp
  have tv' := tv
  obtain ⟨vk, va1, vb, vop, vp, vrg, vnm, vrs, vag, hva, ta, tb, tp, _, _, _⟩ := tv'
  have xv' := xv
  rw [hva] at xv'
  obtain ⟨ra, rb, rp, w1, w2, hcv, xa, _, _, _, _⟩ := inv_va ta tb tp xv'
  have hrv := recVa.inj hcv
  clear hcv xv'
  unfold f39
  have o := own_push h (itc r)
  have c := chg_push h (.row (itc r) .own)
  have e1 : h.push (.row (rowI r) .own) = h.push (.row (itc r) .own) := rfl
  dsimp only
  rw [e1]
  have y := y.chg c (by simp)
  generalize h.push (.row (itc r) .own) = H at *
  subst hr
  have a0 : H.cell (h.next, 0) = some (.int .i64 k) := o.cell 0
  have a2 : H.cell (h.next, 2) = some (.bool hs) := o.cell 2
  have a3 : H.cell (h.next, 3) = some (.int .i64 tl) := o.cell 3
  have av : H.cells (h.next, 5) 16 = some (.agg (vac rv)) := o.cells (j := 5) (m := 16) (show 5 + 16 ≤ 22 by decide)
  have aa : H.cells (h.next, 6) 4 = some (.agg (opc ra)) := by
    subst hrv
    exact o.cells (j := 6) (m := 4) (show 6 + 4 ≤ 22 by decide)
  -- the end
  have fin : ∀ (f : Bool) (n : Nat) (H' : Heap), Chg [] H H' → ∃ h', (bif f then (bindV (.val (.one .slice)) (H'.cell (h.next, 21)) fun (x32 : SL) =>
    (bif eqInt (Int.ofNat x32.len) (Int.ofNat n) then (bindV (.val (.one .slice)) (H'.cell (h.next, 21)) fun (x35 : SL) => (bind2 (f35 N x35 P H') fun (x36 : Bool) h37 => some (x36, h37))) else some (false, H'))) else some (false, H')) = some (nxB P f n nx, h') ∧ Chg [] h h' := by
    intro f n H' c'
    unfold nxB
    cases f with
    | false => exact ⟨H', by simp, c.trans c'⟩
    | true =>
      have a21 : H'.cell (h.next, 21) = some (.slice s.a s.len s.cap s.sz) := (o.chg c' (by simp)).cell 21
      have ln : s.len = nx.length := by rw [y.len, List.length_map]
      simp only [cond_true, a21, bindV_some, cast_slice, lenI, ln, Bool.true_and]
      by_cases w : nx.length = n
      · simp only [w, decide_true, cond_true, Bool.true_and]
        obtain ⟨H1, e, c1⟩ := f35_eq (N := N) P (y.chg c' (by simp)) (by omega) hN
        have e' : f35 N ⟨s.a, n, s.cap, s.sz⟩ P H' = some ((nx.map D.i).all (wiD P), H1) := by
          rw [← e]
          congr 1
          rw [← w, ← ln]
        rw [e', bind2_some]
        exact ⟨H1, rfl, (c.trans c').trans c1⟩
      · have : decide (nx.length = n) = false := decide_eq_false w
        simp only [this, cond_false, Bool.false_and]
        exact ⟨H', rfl, c.trans c'⟩
  simp only [Nat.zero_add, Nat.add_zero, a0, bindV_some, cast_int]
  by_cases k1 : k = 1
  · subst k1
    rw [inB_1]
    simp only [show eqInt (1 : Int) 1 = true from rfl, show eqInt (1 : Int) 2 = false from rfl, show eqInt (1 : Int) 3 = false from rfl, show eqInt (1 : Int) 4 = false from rfl, show eqInt (1 : Int) 5 = false from rfl, show eqInt (1 : Int) 6 = false from rfl, cond_true, cond_false, av, recVa.agg]
    obtain ⟨H1, e, c1⟩ := f55_eq (N := N) hN L R tv (xv.chg c (by simp))
    have e' : f55 N (rv.1, rv.2.1, rv.2.2.1, rv.2.2.2.1, rv.2.2.2.2.1, rv.2.2.2.2.2.1, rv.2.2.2.2.2.2.1, rv.2.2.2.2.2.2.2.1, rv.2.2.2.2.2.2.2.2.1, rv.2.2.2.2.2.2.2.2.2.1, rv.2.2.2.2.2.2.2.2.2.2.1, rv.2.2.2.2.2.2.2.2.2.2.2.1, rv.2.2.2.2.2.2.2.2.2.2.2.2.1, rv.2.2.2.2.2.2.2.2.2.2.2.2.2.1, rv.2.2.2.2.2.2.2.2.2.2.2.2.2.2.1, rv.2.2.2.2.2.2.2.2.2.2.2.2.2.2.2.1, ()) L R H = some (vaB L R va, H1) := e
    rw [e', bind2_some]
    cases vaB L R va with
    | false =>
      simp only [cond_false, need_some, jcase_inl, Bool.false_and]
      exact fin false 1 H1 c1
    | true =>
      have o1 := o.chg c1 (by simp)
      have b2 : H1.cell (h.next, 2) = some (.bool hs) := o1.cell 2
      have b3 : H1.cell (h.next, 3) = some (.int .i64 tl) := o1.cell 3
      simp only [cond_true, b2, bindV_some, cast_bool, Bool.true_and]
      cases hs with
      | false =>
        simp only [Bool.not_false, cond_true, need_some, jcase_inl, Bool.true_or]
        exact fin true 1 H1 c1
      | true =>
        simp only [Bool.not_true, cond_false, b3, bindV_some, cast_int, f34_eq, bind2_some, need_some, jcase_inl, Bool.false_or]
        exact fin _ 1 H1 c1
  by_cases k2 : k = 2
  · rw [inB_2 (.inl k2)]
    subst k2
    simp only [show eqInt (2 : Int) 1 = false from rfl, show eqInt (2 : Int) 2 = true from rfl, show eqInt (2 : Int) 3 = false from rfl, show eqInt (2 : Int) 4 = false from rfl, show eqInt (2 : Int) 5 = false from rfl, show eqInt (2 : Int) 6 = false from rfl, cond_true, cond_false, bind2_some, need_some, Nat.zero_add, Nat.add_zero, a3, bindV_some, cast_int, f34_eq, jcase_inl]
    exact fin _ 1 H (Chg.refl _ _)
  by_cases k3 : k = 3
  · rw [inB_2 (.inr k3)]
    subst k3
    simp only [show eqInt (3 : Int) 1 = false from rfl, show eqInt (3 : Int) 2 = false from rfl, show eqInt (3 : Int) 3 = true from rfl, show eqInt (3 : Int) 4 = false from rfl, show eqInt (3 : Int) 5 = false from rfl, show eqInt (3 : Int) 6 = false from rfl, cond_true, cond_false, bind2_some, need_some, Nat.zero_add, Nat.add_zero, a3, bindV_some, cast_int, f34_eq, jcase_inl]
    exact fin _ 1 H (Chg.refl _ _)
  by_cases k4 : k = 4
  · subst k4
    rw [inB_4]
    simp only [show eqInt (4 : Int) 1 = false from rfl, show eqInt (4 : Int) 2 = false from rfl, show eqInt (4 : Int) 3 = false from rfl, show eqInt (4 : Int) 4 = true from rfl, show eqInt (4 : Int) 5 = false from rfl, show eqInt (4 : Int) 6 = false from rfl, cond_true, cond_false, bind2_some, need_some, Nat.zero_add, Nat.add_zero, show 5 + 1 = 6 from rfl, aa, recOp.agg]
    obtain ⟨H1, e, c1⟩ := op_eq (N := N) (L := L) ta xa H
    rw [e, bind2_some]
    simp only [need_some, jcase_inl]
    have ev : vA va = va1 := by rw [hva]; rfl
    rw [ev]
    exact fin _ 2 H1 c1
  by_cases k5 : k = 5
  · subst k5
    rw [inB_5]
    simp only [show eqInt (5 : Int) 1 = false from rfl, show eqInt (5 : Int) 2 = false from rfl, show eqInt (5 : Int) 3 = false from rfl, show eqInt (5 : Int) 4 = false from rfl, show eqInt (5 : Int) 5 = true from rfl, show eqInt (5 : Int) 6 = false from rfl, cond_true, cond_false, bind2_some, need_some, jcase_inl]
    exact fin true 1 H (Chg.refl _ _)
  by_cases k6 : k = 6
  · subst k6
    rw [inB_6]
    simp only [show eqInt (6 : Int) 1 = false from rfl, show eqInt (6 : Int) 2 = false from rfl, show eqInt (6 : Int) 3 = false from rfl, show eqInt (6 : Int) 4 = false from rfl, show eqInt (6 : Int) 5 = false from rfl, show eqInt (6 : Int) 6 = true from rfl, cond_true, cond_false, bind2_some, need_some, jcase_inl]
    exact fin true 0 H (Chg.refl _ _)
  have z : ∀ c : Int, k ≠ c → eqInt k c = false := fun c h => by rw [eqI, decide_eq_false h]
  simp only [z _ k1, z _ k2, z _ k3, z _ k4, z _ k5, z _ k6, cond_false, bind2_some, need_some, jcase_inl, jcase_inr]
  refine ⟨H, ?_, c⟩
  simp only [itD, paD, inB, k1, k2, k3, k4, k5, k6, or_self, if_false, Bool.false_and]
theorem f38_eq (hN : 1000001 ≤ N) {A : Nat} {m : MiV} (o : h.own A (mic m)) {d : D} (t : isIn d) {r : InV} (x : Dt h V d (itc r)) : ∃ h', f38 N r (some (A, 0)) h = some (!inB m.2.2.2.2.1.len m.2.2.1 m.2.2.2.2.2.1.len d, h') ∧ Chg [] h h' := by
  unfold f38
  have o1 := own_push h (itc r)
  have c := chg_push h (.row (itc r) .own)
  have e1 : h.push (.row (rowI r) .own) = h.push (.row (itc r) .own) := rfl
  dsimp only
  rw [e1]
  have o := o.chg c (by simp)
  have x := Dt.chg c (by simp) x
  generalize h.push (.row (itc r) .own) = H at *
  have a4 : H.cell (A, 4) = some (.slice m.2.2.2.2.1.a m.2.2.2.2.1.len m.2.2.2.2.1.cap m.2.2.2.2.1.sz) := o.cell 4
  have a2 : H.cell (A, 2) = some (.int .i64 m.2.2.1) := o.cell 2
  have a5 : H.cell (A, 5) = some (.slice m.2.2.2.2.2.1.a m.2.2.2.2.2.1.len m.2.2.2.2.2.1.cap m.2.2.2.2.2.1.sz) := o.cell 5
  rw [recIn.cells o1]
  simp only [need_some, Nat.zero_add, a4, a2, a5, bindV_some, cast_slice, cast_int]
  obtain ⟨H1, e, c1⟩ := f39_eq (N := N) hN m.2.2.2.2.1.len m.2.2.1 m.2.2.2.2.2.1.len t x
  have e' : f39 N (r.1, r.2.1, r.2.2.1, r.2.2.2.1, r.2.2.2.2.1, r.2.2.2.2.2.1, r.2.2.2.2.2.2.1, r.2.2.2.2.2.2.2.1, r.2.2.2.2.2.2.2.2.1, r.2.2.2.2.2.2.2.2.2.1, r.2.2.2.2.2.2.2.2.2.2.1, r.2.2.2.2.2.2.2.2.2.2.2.1, r.2.2.2.2.2.2.2.2.2.2.2.2.1, r.2.2.2.2.2.2.2.2.2.2.2.2.2.1, r.2.2.2.2.2.2.2.2.2.2.2.2.2.2.1, r.2.2.2.2.2.2.2.2.2.2.2.2.2.2.2.1, r.2.2.2.2.2.2.2.2.2.2.2.2.2.2.2.2.1, r.2.2.2.2.2.2.2.2.2.2.2.2.2.2.2.2.2.1, r.2.2.2.2.2.2.2.2.2.2.2.2.2.2.2.2.2.2.1, r.2.2.2.2.2.2.2.2.2.2.2.2.2.2.2.2.2.2.2.1, r.2.2.2.2.2.2.2.2.2.2.2.2.2.2.2.2.2.2.2.2.1, r.2.2.2.2.2.2.2.2.2.2.2.2.2.2.2.2.2.2.2.2.2.1, ()) (Int.ofNat m.2.2.2.2.1.len) m.2.2.1 (Int.ofNat m.2.2.2.2.2.1.len) H = some (inB m.2.2.2.2.1.len m.2.2.1 m.2.2.2.2.2.1.len d, H1) := e
  rw [e', bind2_some]
  exact ⟨H1, rfl, c.trans c1⟩
theorem ins_loop (hN : 1000001 ≤ N) {A : Nat} {m : MiV} {s : SL} {xs : List D} (hl : xs.length ≤ 1000000) (ht : ∀ o ∈ xs, isIn o) : ∀ (M i : Nat) (h : Heap), h.own A (mic m) → Sl h V s xs → i ≤ xs.length → xs.length - i < M → ∃ h', Chg [] h h' ∧
    (((xs.drop i).all (inB m.2.2.2.2.1.len m.2.2.1 m.2.2.2.2.2.1.len) = true ∧ f54c38_l1 N M s (some (A, 0), ()) 0 (xs.length : Int) (i : Int) h = some (.exit 0, (0, ()), h')) ∨
    ((xs.drop i).all (inB m.2.2.2.2.1.len m.2.2.1 m.2.2.2.2.2.1.len) = false ∧ ∃ j : Nat, f54c38_l1 N M s (some (A, 0), ()) 0 (xs.length : Int) (i : Int) h = some (.ret, ((j : Int), ()), h'))) := by
  intro M
  induction M with
  | zero => intro i h _ _ _ h; omega
  | succ M ih =>
    intro i h o x hi hM
    rw [f54c38_l1_succ]
    unfold f54c38_l1_b
    simp only [lt_nat']
    by_cases w : i < xs.length
    · simp only [w, decide_true, cond_true]
      obtain ⟨r, hr, d⟩ := recIn.elt x w (ht _ (List.getElem_mem w))
      rw [x.ix w 22, hr, recIn.agg]
      obtain ⟨H1, e, c⟩ := f38_eq hN o (ht _ (List.getElem_mem w)) d
      have e' : f38 N (r.1, r.2.1, r.2.2.1, r.2.2.2.1, r.2.2.2.2.1, r.2.2.2.2.2.1, r.2.2.2.2.2.2.1, r.2.2.2.2.2.2.2.1, r.2.2.2.2.2.2.2.2.1, r.2.2.2.2.2.2.2.2.2.1, r.2.2.2.2.2.2.2.2.2.2.1, r.2.2.2.2.2.2.2.2.2.2.2.1, r.2.2.2.2.2.2.2.2.2.2.2.2.1, r.2.2.2.2.2.2.2.2.2.2.2.2.2.1, r.2.2.2.2.2.2.2.2.2.2.2.2.2.2.1, r.2.2.2.2.2.2.2.2.2.2.2.2.2.2.2.1, r.2.2.2.2.2.2.2.2.2.2.2.2.2.2.2.2.1, r.2.2.2.2.2.2.2.2.2.2.2.2.2.2.2.2.2.1, r.2.2.2.2.2.2.2.2.2.2.2.2.2.2.2.2.2.2.1, r.2.2.2.2.2.2.2.2.2.2.2.2.2.2.2.2.2.2.2.1, r.2.2.2.2.2.2.2.2.2.2.2.2.2.2.2.2.2.2.2.2.1, r.2.2.2.2.2.2.2.2.2.2.2.2.2.2.2.2.2.2.2.2.2.1, ()) (some (A, 0)) h = some (!inB m.2.2.2.2.1.len m.2.2.1 m.2.2.2.2.2.1.len xs[i], H1) := e
      rw [e', bind2_some, List.drop_eq_getElem_cons w, List.all_cons]
      have o := o.chg c (by simp)
      have x := x.chg c (by simp)
      cases hw : inB m.2.2.2.2.1.len m.2.2.1 m.2.2.2.2.2.1.len xs[i] with
      | true =>
        rw [Bool.true_and]
        simp only [Bool.not_true, cond_false]
        rw [wrap_succ (by omega)]
        obtain ⟨h', c', d'⟩ := ih (i + 1) H1 o x w (by omega)
        exact ⟨h', c.trans c', d'⟩
      | false =>
        rw [Bool.false_and]
        exact ⟨H1, c, .inr ⟨rfl, i, rfl⟩⟩
    · rw [List.drop_eq_nil_of_le (by omega)]
      have z : decide (i < xs.length) = false := decide_eq_false w
      rw [z]
      exact ⟨h, Chg.refl _ _, .inl ⟨rfl, rfl⟩⟩
theorem f37_eq {A : Nat} {m : MiV} {s : SL} {xs : List D} (hl : xs.length ≤ 1000000) (ht : ∀ o ∈ xs, isIn o) (o : h.own A (mic m)) (x : Sl h V s xs) (hN : 1000001 ≤ N) : ∃ h', f37c38 N s (some (A, 0), ()) h = some (!xs.all (inB m.2.2.2.2.1.len m.2.2.1 m.2.2.2.2.2.1.len), h') ∧ Chg [] h h' := by
  unfold f37c38 f54c38
  obtain ⟨h', c, d⟩ := ins_loop hN hl ht N 0 h o x (Nat.zero_le _) (by omega)
  rw [show ((0 : Nat) : Int) = 0 from rfl, List.drop_zero] at d
  rw [x.len, show Int.ofNat xs.length = (xs.length : Int) from rfl]
  rcases d with ⟨ha, e⟩ | ⟨ha, j, e⟩
  · rw [e, ha]
    simp only [bind3_some, eqOut_exit, decide_true, cond_true, bind2_some]
    exact ⟨h', rfl, c⟩
  · rw [e, ha]
    have e0 : eqOut .ret (.exit 0) = false := rfl
    have e1 : leInt 0 (j : Int) = true := by rw [leI, decide_eq_true_eq]; omega
    simp only [bind3_some, e0, cond_false, bind2_some, e1]
    exact ⟨h', rfl, c⟩
end
end Go.Proofs.YtjeaammlambkeaaDoor.My
