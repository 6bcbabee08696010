import Derived.Test.YtfhddjjjhpicoaaGreatDoorProg
import Derived.WalkKit
import Derived.LaidEql
import Derived.Stop.Asserts
import Derived.RowKitTokens
import Derived.Test.YtfhddjjjhpicoaaGreatDoorAi3
import Derived.Laws.Externs
import Derived.Test.YtfhddjjjhpicoaaGreatDoorRows
import Derived.LaidMore
import Derived.LaidHandle
/- Functions of the program as plain functions, and what they come to; part 1. -/
set_option linter.unusedVariables false
set_option linter.unusedSimpArgs false
open Go Go.Proofs
namespace Go.Proofs.YtfhddjjjhpicoaaGreatDoor.Pa
open Go.RowKit Go.Extern.Stop Go.Stop Go.Extern
/-! errors.As at a target of type **api.Fault, an error of type *api.Fault: Go's own text walked (after the guide's toy of it) -/
theorem as_valueOf27 (t : Addr) (w : World) : (ReflectliteValue.unpack (.iface 110 (.pointer (some t)))).run Tryz.prog w
    = .ok (.agg #[.pointer (some ⟨7, 110, none⟩), .pointer (some ⟨w.heap.size, 0, none⟩), .int .u64 150]) (w.alloc (.cells #[.pointer (some t)] 110)) := by kernel_rfl
theorem as_type27 (a : Addr) (w : World) : (ReflectliteValue.methodAny (ReflectliteValue.valueError "reflectlite.Value.Type" 0) (fun t _ _ _ => ReflectliteType.toType t) #[.agg #[.pointer (some ⟨7, 110, none⟩), .pointer (some a), .int .u64 150]]).run Tryz.prog w
    = .ok (.iface 130 (.agg #[.pointer (some ⟨7, 110, none⟩)])) w := by kernel_rfl
theorem as_methodKind (h : Value) (w : World) : (Go.method 306 130 (.agg #[h]) "Kind").run Tryz.prog w = .ok (116, h) w := by kernel_rfl
theorem as_kind27 (w : World) : ((ReflectliteType.abiMethod fun t => (fun a : Nat => Value.int IntKind.u8 (a : Int)) <$> Rtype.kind t) #[.pointer (some ⟨7, 110, none⟩)]).run Tryz.prog w = .ok (.int .u8 22) w := by kernel_rfl
theorem as_kind25 (w : World) : ((ReflectliteType.abiMethod fun t => (fun a : Nat => Value.int IntKind.u8 (a : Int)) <$> Rtype.kind t) #[.pointer (some ⟨7, 67, none⟩)]).run Tryz.prog w = .ok (.int .u8 22) w := by kernel_rfl

theorem rlm (z : Sem Value) (f : TypeId → Addr → Nat → Nat → Sem Value) (v : Value) :
    ReflectliteValue.method z f #[v] = (do match ← ReflectliteValue.parts v with | none => z | some (t, a, fl) => f t a fl (fl % 32)) := rfl
theorem as_parts27 (a : Addr) (w : World) : (ReflectliteValue.parts (.agg #[.pointer (some ⟨7, 110, none⟩), .pointer (some a), .int .u64 150])).run Tryz.prog w = .ok (some (110, a, 150)) w := by kernel_rfl
theorem as_isNil27 (a p : Addr) (W : World) (ha : W.cell? a = some (.pointer (some p))) :
    (ReflectliteValue.method (ReflectliteValue.valueError "reflectlite.Value.IsNil" 0) ReflectliteValue.isNil #[.agg #[.pointer (some ⟨7, 110, none⟩), .pointer (some a), .int .u64 150]]).run Tryz.prog W = .ok (.bool false) W := by
  rw [rlm]
  simp only [Sem.run_bind, as_parts27, Result.andThen]
  simp [ReflectliteValue.isNil, loadVar, isAgg, underlying, Tryz.underlying110, ha, Result.andThen]

theorem as_methodElem (h : Value) (w : World) : (Go.method 306 130 (.agg #[h]) "Elem").run Tryz.prog w = .ok (128, .agg #[h]) w := by kernel_rfl
theorem as_methodImplements (h : Value) (w : World) : (Go.method 306 130 (.agg #[h]) "Implements").run Tryz.prog w = .ok (129, .agg #[h]) w := by kernel_rfl
theorem as_methodAssignableTo (h : Value) (w : World) : (Go.method 306 130 (.agg #[h]) "AssignableTo").run Tryz.prog w = .ok (126, .agg #[h]) w := by kernel_rfl
theorem as_elem27 (w : World) : (ReflectliteType.method ReflectliteType.elem #[.agg #[.pointer (some ⟨7, 110, none⟩)]]).run Tryz.prog w = .ok (.iface 130 (.agg #[.pointer (some ⟨7, 67, none⟩)])) w := by kernel_rfl
theorem as_implements25 (w : World) : (ReflectliteType.relation "Implements" ReflectliteType.implements_ #[.agg #[.pointer (some ⟨7, 67, none⟩)], .iface 130 (.agg #[.pointer (some ⟨7, 29, none⟩)])]).run Tryz.prog w = .ok (.bool true) w := by kernel_rfl
theorem as_typeOf25 (v : Value) (w : World) : (ReflectliteType.typeOf #[.iface 67 v]).run Tryz.prog w = .ok (.iface 130 (.agg #[.pointer (some ⟨7, 67, none⟩)])) w := by kernel_rfl
theorem as_assignable25 (w : World) : (ReflectliteType.relation "AssignableTo" ReflectliteType.assignableTo #[.agg #[.pointer (some ⟨7, 67, none⟩)], .iface 130 (.agg #[.pointer (some ⟨7, 67, none⟩)])]).run Tryz.prog w = .ok (.bool true) w := by kernel_rfl
theorem as_valueOf25 (e : Addr) (w : World) : (ReflectliteValue.unpack (.iface 67 (.pointer (some e)))).run Tryz.prog w
    = .ok (.agg #[.pointer (some ⟨7, 67, none⟩), .pointer (some ⟨w.heap.size, 0, none⟩), .int .u64 150]) (w.alloc (.cells #[.pointer (some e)] 67)) := by kernel_rfl

theorem as_elemOf27 (w : World) : (Rtype.elem? 110).run Tryz.prog w = .ok (some 67) w := by kernel_rfl
theorem as_mk25 (p : Addr) (w : World) : (ReflectliteValue.mk 67 p ReflectliteValue.flagAddr).run Tryz.prog w = .ok (.agg #[.pointer (some ⟨7, 67, none⟩), .pointer (some p), .int .u64 406]) w := by kernel_rfl
theorem as_elemV27 (a p : Addr) (W : World) (ha : W.cell? a = some (.pointer (some p))) :
    (ReflectliteValue.method (ReflectliteValue.valueError "reflectlite.Value.Elem" 0) ReflectliteValue.elem #[.agg #[.pointer (some ⟨7, 110, none⟩), .pointer (some a), .int .u64 150]]).run Tryz.prog W
      = .ok (.agg #[.pointer (some ⟨7, 67, none⟩), .pointer (some p), .int .u64 406]) W := by
  rw [rlm]
  simp only [Sem.run_bind, as_parts27, Result.andThen]
  simp [ReflectliteValue.elem, loadVar, isAgg, underlying, Tryz.underlying110, ha, Result.andThen, as_elemOf27, as_mk25]
theorem rls (v x : Value) : ReflectliteValue.set #[v, x] = (do
    let (some (dst, a, fl), some (src, b, _)) := (← ReflectliteValue.parts v, ← ReflectliteValue.parts x)
      | unsupported (.noEntry "extern/(internal/reflectlite.Value).Set.zeroValue")
    if fl / ReflectliteValue.flagAddr % 2 == 0 then unsupported (.noEntry "extern/(internal/reflectlite.Value).Set.unaddressable")
    let val ← loadVar src b
    if ← Rtype.directlyAssignable dst src then storeVar dst a val
    else if ← Rtype.implements dst src then
      if (← Rtype.kind src) == 20 then
        match val with
        | .nilIface => unsupported (.noEntry "extern/reflectlite: a nil value of one interface type handed on as a value of another")
        | _ => storeVar dst a val
      else storeVar dst a (.iface src val)
    else panicString ("reflectlite.Set: value of type " ++ (← Rtype.spelt src) ++ " is not assignable to type " ++ (← Rtype.spelt dst))
    pure (.tuple #[])) := rfl
theorem as_parts25a (a : Addr) (w : World) : (ReflectliteValue.parts (.agg #[.pointer (some ⟨7, 67, none⟩), .pointer (some a), .int .u64 406])).run Tryz.prog w = .ok (some (67, a, 406)) w := by kernel_rfl
theorem as_parts25 (a : Addr) (w : World) : (ReflectliteValue.parts (.agg #[.pointer (some ⟨7, 67, none⟩), .pointer (some a), .int .u64 150])).run Tryz.prog w = .ok (some (67, a, 150)) w := by kernel_rfl
theorem as_direct25 (w : World) : (Rtype.directlyAssignable 67 67).run Tryz.prog w = .ok true w := by kernel_rfl
theorem as_size25 (w : World) : (Go.sizeOf 67).run Tryz.prog w = .ok 1 w := by kernel_rfl
theorem as_set25 (ta b e : Addr) (old : Value) (W : World) (hb : W.cell? b = some (.pointer (some e))) (ht : W.cell? ta = some old) (hf : W.frozen? ta = false) :
    (ReflectliteValue.set #[.agg #[.pointer (some ⟨7, 67, none⟩), .pointer (some ta), .int .u64 406], .agg #[.pointer (some ⟨7, 67, none⟩), .pointer (some b), .int .u64 150]]).run Tryz.prog W
      = .ok (.tuple #[]) (W.setCell ta (.pointer (some e))) := by
  rw [rls]
  simp only [Sem.run_bind, as_parts25a, as_parts25, Result.andThen]
  simp [ReflectliteValue.flagAddr, loadVar, isAgg, underlying, Tryz.underlying67, hb, Result.andThen, as_direct25, storeVar, Value.cells, storeCells, Addr.add]
  rw [run_store Tryz.prog W ta _ _ (by rfl)]
  simp [ht, hf]

set_option maxRecDepth 100000 in
set_option maxHeartbeats 4000000 in
theorem as_hit (e t : Addr) (old : Value) (w : World) (hg : w.cell? ⟨0, 0, none⟩ = some (.iface 130 (.agg #[.pointer (some ⟨7, 29, none⟩)]))) (ht0 : w.cell? t = some old) (hf0 : w.frozen? t = false) :
    Calls Tryz.prog 53 #[.iface 67 (.pointer (some e)), .iface 110 (.pointer (some t))] w fun ev w' => ev = .returned (.bool true) ∧ w' = ((((w.alloc (.cells #[.pointer (some t)] 110)).alloc (.cells #[.pointer (some ⟨7, 110, none⟩), .pointer (some ⟨w.heap.size, 0, none⟩), .int .u64 150] 114)).alloc (.cells #[.pointer (some ⟨7, 110, none⟩), .pointer (some ⟨w.heap.size, 0, none⟩), .int .u64 150] 114)).alloc (.cells #[.pointer (some e)] 67)).setCell t (.pointer (some e)) := by
  have h6 := @run_callFunc_extern Tryz.prog 59 _ (fun args => ReflectliteValue.unpack (args.getD 0 (.tuple #[]))) Tryz.func59 (by kernel_rfl) (by kernel_rfl) (by kernel_rfl) (by kernel_rfl)
  have h7 := @run_callFunc_extern Tryz.prog 60 _ (ReflectliteValue.methodAny (ReflectliteValue.valueError "reflectlite.Value.Type" 0) (fun t _ _ _ => ReflectliteType.toType t)) Tryz.func60 (by kernel_rfl) (by kernel_rfl) (by kernel_rfl) (by kernel_rfl)
  have h8 := @run_callFunc_extern Tryz.prog 61 _ (ReflectliteValue.method (ReflectliteValue.valueError "reflectlite.Value.IsNil" 0) ReflectliteValue.isNil) Tryz.func61 (by kernel_rfl) (by kernel_rfl) (by kernel_rfl) (by kernel_rfl)
  have h27 := @run_callFunc_extern Tryz.prog 116 _ (ReflectliteType.abiMethod fun t => do pure (.int .u8 (← Rtype.kind t))) Tryz.func116 (by kernel_rfl) (by kernel_rfl) (by kernel_rfl) (by kernel_rfl)
  have h37 := @run_callFunc_extern Tryz.prog 128 _ (ReflectliteType.method ReflectliteType.elem) Tryz.func128 (by kernel_rfl) (by kernel_rfl) (by kernel_rfl) (by kernel_rfl)
  have h38 := @run_callFunc_extern Tryz.prog 129 _ (ReflectliteType.relation "Implements" ReflectliteType.implements_) Tryz.func129 (by kernel_rfl) (by kernel_rfl) (by kernel_rfl) (by kernel_rfl)
  have h10 := @run_callFunc_extern Tryz.prog 68 _ ReflectliteType.typeOf Tryz.func68 (by kernel_rfl) (by kernel_rfl) (by kernel_rfl) (by kernel_rfl)
  have h35 := @run_callFunc_extern Tryz.prog 126 _ (ReflectliteType.relation "AssignableTo" ReflectliteType.assignableTo) Tryz.func126 (by kernel_rfl) (by kernel_rfl) (by kernel_rfl) (by kernel_rfl)
  have h11 := @run_callFunc_extern Tryz.prog 69 _ (ReflectliteValue.method (ReflectliteValue.valueError "reflectlite.Value.Elem" 0) ReflectliteValue.elem) Tryz.func69 (by kernel_rfl) (by kernel_rfl) (by kernel_rfl) (by kernel_rfl)
  have h12 := @run_callFunc_extern Tryz.prog 70 _ ReflectliteValue.set Tryz.func70 (by kernel_rfl) (by kernel_rfl) (by kernel_rfl) (by kernel_rfl)
  have tO := as_typeOf25
  have mA := as_methodAssignableTo
  have a25 := as_assignable25
  have v25 := as_valueOf25
  have f6 := as_valueOf27
  have f7 := as_type27
  have mK := as_methodKind
  have mE := as_methodElem
  have mI := as_methodImplements
  have k27 := as_kind27
  have k25 := as_kind25
  have e27 := as_elem27
  have i25 := as_implements25
  have n8 := as_isNil27 ⟨w.heap.size, 0, none⟩ t ((w.alloc (.cells #[.pointer (some t)] 110)).alloc (.cells #[.pointer (some ⟨7, 110, none⟩), .pointer (some ⟨w.heap.size, 0, none⟩), .int .u64 150] 114)) (by simp)
  have hlt : 0 < w.heap.size := by
    rcases Nat.eq_zero_or_pos w.heap.size with h0 | h
    · simp [World.cell?, h0] at hg
    · exact h
  have hg2 : ((w.alloc (.cells #[.pointer (some t)] 110)).alloc (.cells #[.pointer (some ⟨7, 110, none⟩), .pointer (some ⟨w.heap.size, 0, none⟩), .int .u64 150] 114)).cell? ⟨0, 0, none⟩ = some (.iface 130 (.agg #[.pointer (some ⟨7, 29, none⟩)])) := by
    rw [World.cell?_alloc_lt _ _ ⟨0, 0, none⟩ (by simp), World.cell?_alloc_lt _ _ ⟨0, 0, none⟩ hlt]; exact hg
  have htl : t.block < w.heap.size := by
    rcases Nat.lt_or_ge t.block w.heap.size with h | h
    · exact h
    · simp [World.cell?, Array.getElem?_eq_none h] at ht0
  have el := as_elemV27 ⟨w.heap.size, 0, none⟩ t (((w.alloc (.cells #[.pointer (some t)] 110)).alloc (.cells #[.pointer (some ⟨7, 110, none⟩), .pointer (some ⟨w.heap.size, 0, none⟩), .int .u64 150] 114)).alloc (.cells #[.pointer (some ⟨7, 110, none⟩), .pointer (some ⟨w.heap.size, 0, none⟩), .int .u64 150] 114)) (by rw [World.cell?_alloc_lt _ _ ⟨w.heap.size, 0, none⟩ (by simp; omega)]; simp)
  have st := as_set25 t ⟨w.heap.size + 1 + 1 + 1, 0, none⟩ e old ((((w.alloc (.cells #[.pointer (some t)] 110)).alloc (.cells #[.pointer (some ⟨7, 110, none⟩), .pointer (some ⟨w.heap.size, 0, none⟩), .int .u64 150] 114)).alloc (.cells #[.pointer (some ⟨7, 110, none⟩), .pointer (some ⟨w.heap.size, 0, none⟩), .int .u64 150] 114)).alloc (.cells #[.pointer (some e)] 67))
    (by rw [World.cell?_alloc_at _ _ _ _ (by simp)]; rfl)
    (by rw [World.cell?_alloc_lt _ _ t (by simp; omega), World.cell?_alloc_lt _ _ t (by simp; omega), World.cell?_alloc_lt _ _ t (by simp; omega), World.cell?_alloc_lt _ _ t htl]; exact ht0)
    (by rw [World.frozen?_alloc_old _ _ t (by simp; omega), World.frozen?_alloc_old _ _ t (by simp; omega), World.frozen?_alloc_old _ _ t (by simp; omega), World.frozen?_alloc_old _ _ t (Nat.ne_of_lt htl)]; exact hf0)
  go_enter Tryz.func53, Tryz.ntmps53
  go_wp2
  refine wp_loop_rounds 1 ?_
  rw [rounds_succ]
  go_wp2
  go_ret
  exact ⟨rfl, rfl⟩

end Go.Proofs.YtfhddjjjhpicoaaGreatDoor.Pa

open Go Go.Proofs.YtfhddjjjhpicoaaGreatDoor.Ai Go.Proofs
open Go.RowKit (Below)
namespace Go.Proofs.YtfhddjjjhpicoaaGreatDoor.Pa
/-! errors.As and IndexByteString for the evaluator -/
def hdl : AV := .iface 130 (.agg [.ptr (some (1, 0))])
def loc0 : Ai.Loc := ⟨0, 0, 1, false⟩
def loc1 : Ai.Loc := ⟨7, 29, 30, false⟩
def locEq (a b : Ai.Loc) : Bool := Nat.beq a.b b.b && Nat.beq a.sh b.sh && Nat.beq a.tot b.tot && (bif a.ex then b.ex else !b.ex)
def pinIn (A : Nat) (l : Ai.Loc) : List (Nat × Ai.Loc) → Bool
  | [] => false
  | x :: r => (Nat.beq x.1 A && locEq x.2 l) || pinIn A l r
def isRow (b : Option Blk) (cs : List AV) : Bool := match b with
  | some (.row cs' .ro) => eqV (.agg cs') (.agg cs)
  | _ => false
theorem locEq_eq {a b : Ai.Loc} (h : locEq a b = true) : a = b := by
  obtain ⟨a1, a2, a3, a4⟩ := a
  obtain ⟨b1, b2, b3, b4⟩ := b
  simp only [locEq, Bool.and_eq_true] at h
  obtain ⟨⟨⟨h1, h2⟩, h3⟩, h4⟩ := h
  obtain rfl := Nat.eq_of_beq_eq_true h1
  obtain rfl := Nat.eq_of_beq_eq_true h2
  obtain rfl := Nat.eq_of_beq_eq_true h3
  have : a4 = b4 := by cases a4 <;> cases b4 <;> simp_all
  rw [this]
theorem pinIn_mem {A : Nat} {l : Ai.Loc} : ∀ {p : List (Nat × Ai.Loc)}, pinIn A l p = true → (A, l) ∈ p
  | [], h => by cases h
  | x :: r, h => by
    simp only [pinIn, Bool.or_eq_true, Bool.and_eq_true] at h
    rcases h with ⟨h1, h2⟩ | h
    · have e1 := Nat.eq_of_beq_eq_true h1
      have e2 := locEq_eq h2
      obtain ⟨x1, x2⟩ := x
      simp only at e1 e2
      rw [e1, e2]; exact List.mem_cons_self
    · exact List.mem_cons_of_mem _ (pinIn_mem h)
theorem isRow_eq {b : Option Blk} {cs : List AV} (h : isRow b cs = true) : b = some (.row cs .ro) := by
  unfold isRow at h
  split at h
  · have := eqV_eq _ _ h
    simp only [AV.agg.injEq] at this
    rw [this]
  · cases h
def asN : List AV → Heap → Option (AV × Heap)
  | [.iface t (.ptr (some p)), .iface t' (.ptr (some (A, off)))], h =>
    bif Nat.beq t 67 && Nat.beq t' 110 && pinIn 0 loc0 h.pins && pinIn 1 loc1 h.pins && isRow (h.t.get 0) [hdl] then
      match h.rowW A with
      | some (cs, st) => match over off cs [.ptr (some p)] with
        | some cs' => some (.bool true, h.put A (.row cs' st))
        | none => none
      | none => none
    else none
  | _, _ => none
theorem env0 : EnvOK (envOf Tryz.prog [] noNative) Tryz.prog := envOf_ok (by kernel_rfl) (by kernel_rfl)
theorem as_ok {args : List AV} {v : AV} {h h' : Heap} (hx : asN args h = some (v, h')) {μ : Mu} {w : World} {args' : Array Value} (hr : HR μ h w) (hv : VRs μ args args'.toList) :
    (callFunc 53 args').run Tryz.prog w = .ok (.enter 53 args') w ∧ Calls Tryz.prog 53 args' w fun e w' => ∃ u, e = .returned u ∧ Post μ h w v h' u w' := by
  refine ⟨enter_of env0 (fn := Tryz.f53) (by kernel_rfl) (by kernel_rfl) _ _, ?_⟩
  unfold asN at hx
  split at hx
  · rename_i t p t' A off
    cases hb : (Nat.beq t 67 && Nat.beq t' 110 && pinIn 0 loc0 h.pins && pinIn 1 loc1 h.pins && isRow (h.t.get 0) [hdl]) with
    | false => simp [hb] at hx
    | true =>
      simp only [hb, cond_true] at hx
      simp only [Bool.and_eq_true] at hb
      obtain ⟨⟨⟨⟨b1, b2⟩, b3⟩, b4⟩, b5⟩ := hb
      obtain rfl := Nat.eq_of_beq_eq_true b1
      obtain rfl := Nat.eq_of_beq_eq_true b2
      cases hw : h.rowW A with
      | none => simp [hw] at hx
      | some q =>
        obtain ⟨cs, st⟩ := q
        simp only [hw] at hx
        cases ho : over off cs [.ptr (some p)] with
        | none => simp [ho] at hx
        | some cs' =>
          simp only [ho, Option.some.injEq, Prod.mk.injEq] at hx
          obtain ⟨rfl, rfl⟩ := hx
          have hg : h.t.get A = some (.row cs st) ∧ (st = .own ∨ st = .grown) := by
            unfold Heap.rowW at hw
            split at hw
            · rename_i cs1 st1 hq
              split at hw
              · simp only [Option.some.injEq, Prod.mk.injEq] at hw; obtain ⟨rfl, rfl⟩ := hw; exact ⟨hq, .inl rfl⟩
              · simp only [Option.some.injEq, Prod.mk.injEq] at hw; obtain ⟨rfl, rfl⟩ := hw; exact ⟨hq, .inr rfl⟩
              · cases hw
            · cases hw
          obtain ⟨p1, p2⟩ := p
          simp only [VRs, VR] at hv
          obtain ⟨y1, ys1, e1, ⟨x1, rfl, l1, hl1, rfl⟩, y2, ys2, e2, ⟨x2, rfl, l2, hl2, rfl⟩, e3⟩ := hv
          subst e2 e3
          have ea : args' = #[.iface 67 (.pointer (some ⟨l1.b, l1.sh + p2, none⟩)), .iface 110 (.pointer (some ⟨l2.b, l2.sh + off, none⟩))] := by rw [← Array.toList_inj, e1]
          subst ea
          -- the handle's cell
          have hc0 : w.cell? ⟨0, 0, none⟩ = some (.iface 130 (.agg #[.pointer (some ⟨7, 29, none⟩)])) := by
            have hm0 := hr.pin _ (pinIn_mem b3)
            have hm1 := hr.pin _ (pinIn_mem b4)
            have hrow : RowR μ w loc0 [hdl] := hr.blk 0 loc0 _ hm0 (isRow_eq b5)
            obtain ⟨y, h1, h2⟩ := hrow.cell 0 hdl rfl
            simp only [hdl, VR, VRs] at h2
            obtain ⟨z, rfl, cs1, rfl, u, us, h4, ⟨l, h5, rfl⟩, rfl⟩ := h2
            have hm1' : μ 1 = some loc1 := hm1
            rw [hm1'] at h5
            simp only [Option.some.injEq] at h5
            subst h5
            have : cs1 = #[.pointer (some ⟨7, 29, none⟩)] := by rw [← Array.toList_inj, h4]; rfl
            rw [this] at h1
            exact h1
          have hvp : VRs μ [.ptr (some (p1, p2))] [.pointer (some ⟨l1.b, l1.sh + p2, none⟩)] := VRs.cons (by simp only [VR]; exact ⟨l1, hl1, rfl⟩) VRs.nil
          obtain ⟨w1, w2, _, _⟩ := hr.write hl2 hg.1 hg.2 ho hvp
          have hold := w1 0 (by simp)
          have hfz := w2 0 (by simp)
          rw [Nat.add_zero] at hold hfz
          obtain ⟨old, hold⟩ := Option.isSome_iff_exists.1 hold
          refine (as_hit ⟨l1.b, l1.sh + p2, none⟩ ⟨l2.b, l2.sh + off, none⟩ old w hc0 hold hfz).mono ?_
          rintro e w' ⟨rfl, rfl⟩
          have hbel : Below w.heap.size w ((((w.alloc (.cells #[.pointer (some ⟨l2.b, l2.sh + off, none⟩)] 110)).alloc (.cells #[.pointer (some ⟨7, 110, none⟩), .pointer (some ⟨w.heap.size, 0, none⟩), .int .u64 150] 114)).alloc (.cells #[.pointer (some ⟨7, 110, none⟩), .pointer (some ⟨w.heap.size, 0, none⟩), .int .u64 150] 114)).alloc (.cells #[.pointer (some ⟨l1.b, l1.sh + p2, none⟩)] 67)) :=
            ((((Below.refl _ w).alloc (Nat.le_refl _) _).alloc (by simp) _).alloc (by simp; omega) _).alloc (by simp; omega) _
          have hr4 := hr.below hbel
          obtain ⟨_, _, h5, h6⟩ := hr4.write hl2 hg.1 hg.2 ho hvp
          exact ⟨_, rfl, μ, by simp [VR], h5, Ext.trans hr (Ext.of_below hbel) h6⟩
  · cases hx
/-! the first byte -/
def idxL (c : UInt8) : List UInt8 → Nat → Int
  | [], _ => -1
  | x :: r, k => bif Nat.beq x.toNat c.toNat then .ofNat k else idxL c r (k + 1)
theorem idxL_find (c : UInt8) : ∀ (s : List UInt8) (k : Nat), idxL c s k = (match (List.range s.length).find? fun i => s.getD i 0 == c with | some i => ((k + i : Nat) : Int) | none => -1)
  | [], k => rfl
  | x :: r, k => by
    rw [List.length_cons, List.range_succ_eq_map]
    by_cases hx : x = c
    · subst hx
      have : Nat.beq x.toNat x.toNat = true := Nat.beq_refl _
      simp only [idxL, this, cond_true, List.find?_cons, List.getD_cons_zero, beq_self_eq_true, Nat.add_zero]
      rfl
    · have h1 : Nat.beq x.toNat c.toNat = false := by
        cases hq : Nat.beq x.toNat c.toNat with
        | false => rfl
        | true => exact absurd (UInt8.toNat.inj (Nat.eq_of_beq_eq_true hq)) hx
      have h2 : (x == c) = false := by simpa using hx
      simp only [idxL, h1, cond_false, List.find?_cons, List.getD_cons_zero, h2]
      rw [idxL_find c r (k + 1), List.find?_map]
      simp only [Function.comp_def, List.getD_cons_succ]
      cases (List.range r.length).find? fun i => r.getD i 0 == c with
      | none => rfl
      | some i => simp only [Option.map_some]; congr 1; omega
theorem find_congr {α : Type} {p q : α → Bool} : ∀ {l : List α}, (∀ x ∈ l, p x = q x) → l.find? p = l.find? q
  | [], _ => rfl
  | x :: r, h => by
    simp only [List.find?_cons, h x List.mem_cons_self, find_congr fun y hy => h y (List.mem_cons_of_mem _ hy)]
theorem firstIdx_eq (s : List UInt8) (c : UInt8) : firstIdx ⟨s.toArray⟩ c = idxL c s 0 := by
  rw [idxL_find]
  unfold firstIdx
  have hs : (⟨s.toArray⟩ : ByteArray).size = s.length := rfl
  rw [hs]
  have hp : (List.range s.length).find? (fun i => (⟨s.toArray⟩ : ByteArray)[i]! == c) = (List.range s.length).find? (fun i => s.getD i 0 == c) := by
    refine find_congr fun i hi => ?_
    have hi' : i < s.length := List.mem_range.1 hi
    have : (⟨s.toArray⟩ : ByteArray)[i]! = s.getD i 0 := by
      rw [getElem!_pos (⟨s.toArray⟩ : ByteArray) i hi']
      rw [List.getD_eq_getElem?_getD, List.getElem?_eq_getElem hi']
      rfl
    rw [this]
  rw [hp]
  cases (List.range s.length).find? fun i => s.getD i 0 == c with
  | none => rfl
  | some i => simp
def idxN : List AV → Heap → Option (AV × Heap)
  | [.str s, .int .u8 c], h => some (.int .i64 (idxL c.toNat.toUInt8 s 0), h)
  | _, _ => none
theorem idx_ok {args : List AV} {v : AV} {h h' : Heap} (hx : idxN args h = some (v, h')) {μ : Mu} {w : World} {args' : Array Value} (hr : HR μ h w) (hv : VRs μ args args'.toList) :
    ∃ u w', (callFunc 54 args').run Tryz.prog w = .ok (.value u) w' ∧ Post μ h w v h' u w' := by
  unfold idxN at hx
  split at hx
  · rename_i s c
    simp only [Option.some.injEq, Prod.mk.injEq] at hx
    obtain ⟨rfl, rfl⟩ := hx
    simp only [VRs, VR] at hv
    obtain ⟨y1, ys1, e1, rfl, y2, ys2, e2, rfl, e3⟩ := hv
    subst e2 e3
    have ea : args' = #[.string ⟨s.toArray⟩, .int .u8 c] := by rw [← Array.toList_inj, e1]
    subst ea
    refine ⟨.int .i64 (idxL c.toNat.toUInt8 s 0), w, ?_, μ, by simp only [VR], hr, Ext.refl μ h w⟩
    have h1 := @run_callFunc_extern Tryz.prog 54 _ Extern.BytealgIndexByte.indexByte Tryz.func54 (by kernel_rfl) (by kernel_rfl) (by kernel_rfl) (by kernel_rfl) #[.string ⟨s.toArray⟩, .int .u8 c] w
    rw [h1, run_indexByte_string, firstIdx_eq]
    rfl
  · cases hx
def idxF (s : List UInt8) (c : Int) (h : Heap) : Option (Int × Heap) := some (idxL c.toNat.toUInt8 s 0, h)
theorem f54_ok (N : Nat) : FnVal Tryz.prog 54 [(.one .str), (.one (.int .u8))] (.val (.one (.int .i64))) (fun x h => idxF x.1 x.2.1 h) := by
  intro xs h r h' hx μ w args' hr hv
  have hx' : some (idxL xs.2.1.toNat.toUInt8 xs.1 0, h) = some (r, h') := hx
  simp only [Option.some.injEq, Prod.mk.injEq] at hx'
  obtain ⟨rfl, rfl⟩ := hx'
  exact idx_ok (args := [.str xs.1, .int .u8 xs.2.1]) rfl hr hv
def nat : FuncId → Option (List AV → Heap → Option (AV × Heap)) := fun f => bif Nat.beq f 53 then some asN else bif Nat.beq f 54 then some idxN else none
theorem natOK {cmp : List TypeId} : NativeOK (envOf Tryz.prog cmp nat) Tryz.prog := by
  intro f g hg args h v h' hx μ w args' hr hv
  have hg' : nat f = some g := hg
  unfold nat at hg'
  cases hf : Nat.beq f 53 with
  | true =>
    simp only [hf, cond_true, Option.some.injEq] at hg'
    subst hg'
    obtain rfl := Nat.eq_of_beq_eq_true hf
    exact .inr (as_ok hx hr hv)
  | false =>
    simp only [hf, cond_false] at hg'
    cases hf2 : Nat.beq f 54 with
    | false => simp [hf2] at hg'
    | true =>
      simp only [hf2, cond_true, Option.some.injEq] at hg'
      subst hg'
      obtain rfl := Nat.eq_of_beq_eq_true hf2
      exact .inl (idx_ok hx hr hv)
end Go.Proofs.YtfhddjjjhpicoaaGreatDoor.Pa

set_option maxRecDepth 100000
open Go Go.Proofs.YtfhddjjjhpicoaaGreatDoor.Ai Go.Proofs
namespace Go.Proofs.YtfhddjjjhpicoaaGreatDoor.Pb
noncomputable def E : Env := envOf Tryz.prog [] noNative
theorem envOK : EnvOK E Tryz.prog := envOf_ok (by kernel_rfl) (by kernel_rfl)
theorem natOK : NativeOK E Tryz.prog := noNative_ok
theorem hmix : Tryz.prog.follows .mixedOrders = true := by kernel_rfl
/- usufruct/fault.New -/
noncomputable def f15 (N : Nat) (a0 : Int) (a1 : Int) (h : Heap) : Option (AV × Heap) :=
  let x1 : Bool := eqInt a0 0
  (bif x1 then
   some (AV.nilIface, h)
  else
   let h2 : Heap := h.push (.row [(.int .i64 a0), (.int .i64 a1), (AV.iface 64 (.int .i64 a0))] .own)
   some ((AV.iface 67 (.ptr (some (h.next, 0)))), h2))
noncomputable def ann15 : Ann := .n
theorem f15_ok (N : Nat) : FnOK Tryz.prog 15 [(.one (.int .i64)), (.one (.int .i64))] (.val (.one .any)) (fun x h => f15 N x.1 x.2.1 h) :=
  runK_ok envOK hmix noCalls_ok (N := N) (x := ann15) (fn := Tryz.f15) (c := Tryz.f15.body.getD .skip) (by kernel_rfl) (by kernel_rfl) (by kernel_rfl) (by kernel_rfl) (fun _ _ => by kernel_rfl)

/- internal/stringslite.HasPrefix -/
noncomputable def f43 (N : Nat) (a0 : List UInt8) (a1 : List UInt8) (h : Heap) : Option (Bool × Heap) :=
  let x1 : Bool := leInt (Int.ofNat a1.length) (Int.ofNat a0.length)
  (bif x1 then
   (bindV (.val (.one .str)) (sliceA E h 9 (.str a0) none (some (.int .i64 (Int.ofNat a1.length)))) fun (x2 : List UInt8) =>
   let x3 : Bool := eqBytes x2 a1
   some (x3, h))
  else
   some (false, h))
noncomputable def ann43 : Ann := .n
theorem f43_ok (N : Nat) : FnOK Tryz.prog 43 [(.one .str), (.one .str)] (.val (.one .bool)) (fun x h => f43 N x.1 x.2.1 h) :=
  runK_ok envOK hmix noCalls_ok (N := N) (x := ann43) (fn := Tryz.f43) (c := Tryz.f43.body.getD .skip) (by kernel_rfl) (by kernel_rfl) (by kernel_rfl) (by kernel_rfl) (fun _ _ => by kernel_rfl)

/- strings.HasPrefix -/
noncomputable def f23 (N : Nat) (a0 : List UInt8) (a1 : List UInt8) (h : Heap) : Option (Bool × Heap) :=
  (bind2 (f43 N a0 a1 h) fun (x1 : Bool) h2 =>
  some (x1, h2))
noncomputable def ann23 : Ann := .n
theorem f23_ok (N : Nat) : FnOK Tryz.prog 23 [(.one .str), (.one .str)] (.val (.one .bool)) (fun x h => f23 N x.1 x.2.1 h) :=
  runK_ok envOK hmix (addCall_ok (f43_ok N) noCalls_ok) (N := N) (x := ann23) (fn := Tryz.f23) (c := Tryz.f23.body.getD .skip) (by kernel_rfl) (by kernel_rfl) (by kernel_rfl) (by kernel_rfl) (fun _ _ => by kernel_rfl)

/- internal/bytealg.IndexByteString: by its contract -/
noncomputable def f54 (N : Nat) (a0 : List UInt8) (a1 : Int) (h : Heap) : Option (Int × Heap) := Pa.idxF a0 a1 h
theorem f54_ok (N : Nat) : FnVal Tryz.prog 54 [(.one .str), (.one (.int .u8))] (.val (.one (.int .i64))) (fun x h => f54 N x.1 x.2.1 h) := Pa.f54_ok N

/- internal/stringslite.IndexByte -/
noncomputable def f44 (N : Nat) (a0 : List UInt8) (a1 : Int) (h : Heap) : Option (Int × Heap) :=
  (bind2 (f54 N a0 a1 h) fun (x1 : Int) h2 =>
  some (x1, h2))
noncomputable def ann44 : Ann := .n
theorem f44_ok (N : Nat) : FnOK Tryz.prog 44 [(.one .str), (.one (.int .u8))] (.val (.one (.int .i64))) (fun x h => f44 N x.1 x.2.1 h) :=
  runK_ok envOK hmix (addCallV_ok (f54_ok N) noCalls_ok) (N := N) (x := ann44) (fn := Tryz.f44) (c := Tryz.f44.body.getD .skip) (by kernel_rfl) (by kernel_rfl) (by kernel_rfl) (by kernel_rfl) (fun _ _ => by kernel_rfl)

/- strings.IndexByte -/
noncomputable def f24 (N : Nat) (a0 : List UInt8) (a1 : Int) (h : Heap) : Option (Int × Heap) :=
  (bind2 (f44 N a0 a1 h) fun (x1 : Int) h2 =>
  some (x1, h2))
noncomputable def ann24 : Ann := .n
theorem f24_ok (N : Nat) : FnOK Tryz.prog 24 [(.one .str), (.one (.int .u8))] (.val (.one (.int .i64))) (fun x h => f24 N x.1 x.2.1 h) :=
  runK_ok envOK hmix (addCall_ok (f44_ok N) noCalls_ok) (N := N) (x := ann24) (fn := Tryz.f24) (c := Tryz.f24.body.getD .skip) (by kernel_rfl) (by kernel_rfl) (by kernel_rfl) (by kernel_rfl) (fun _ _ => by kernel_rfl)

/- usufruct/lex.blanks -/
noncomputable def f16_l1_b (N : Nat) (go : List UInt8 → Int → Int → Heap → Option (Out × (Int × Int × Unit) × Heap)) (v0 : List UInt8) (v1 : Int) (v4 : Int) (h : Heap) : Option (Out × (Int × Int × Unit) × Heap) :=
  let x1 : Bool := ltInt v1 (Int.ofNat v0.length)
  (bif x1 then
   (strK v0 v1 fun x2 =>
   let x3 : Bool := eqInt x2 32
   (bif x3 then
    let x4 : Int := wrapA .i64 (v1 + 1)
    go v0 x4 v4 h
   else
    (strK v0 v1 fun x5 =>
    let x6 : Bool := eqInt x5 9
    (bif x6 then
     let x7 : Int := wrapA .i64 (v1 + 1)
     go v0 x7 v4 h
    else
     (strK v0 v1 fun x8 =>
     let x9 : Bool := eqInt x8 10
     (bif x9 then
      let x10 : Int := wrapA .i64 (v1 + 1)
      go v0 x10 v4 h
     else
      (bindV (.val (.one .str)) (sliceA E h 9 (.str v0) (some (.int .i64 v1)) none) fun (x11 : List UInt8) =>
      (bind2 (f23 N x11 [47, 47] h) fun (x12 : Bool) h13 =>
      (bif x12 then
       (bindV (.val (.one .str)) (sliceA E h13 9 (.str v0) (some (.int .i64 v1)) none) fun (x14 : List UInt8) =>
       (bind2 (f24 N x14 10 h13) fun (x15 : Int) h16 =>
       let x17 : Bool := ltInt x15 0
       (bif x17 then
        some (Out.ret, (v1, (Int.ofNat v0.length), ()), h16)
       else
        let x18 : Int := wrapA .i64 (v1 + x15)
        go v0 x18 v4 h16)))
      else
       some (Out.ret, (v1, v1, ()), h13))))))))))
  else
   some ((Out.exit 0), (v1, v4, ()), h))
noncomputable def f16_l1 (N M : Nat) (v0 : List UInt8) (v1 : Int) (v4 : Int) (h : Heap) : Option (Out × (Int × Int × Unit) × Heap) := iter (fun go s h => f16_l1_b N (fun v0 v1 v4 h => go (v0, v1, v4, ()) h) s.1 s.2.1 s.2.2.1 h) M (v0, v1, v4, ()) h
theorem f16_l1_succ (N M : Nat) (v0 : List UInt8) (v1 : Int) (v4 : Int) (h : Heap) : f16_l1 N (M + 1) v0 v1 v4 h = f16_l1_b N (f16_l1 N M) v0 v1 v4 h := rfl
theorem f16_l1_zero (N : Nat) (v0 : List UInt8) (v1 : Int) (v4 : Int) (h : Heap) : f16_l1 N 0 v0 v1 v4 h = none := rfl
noncomputable def f16 (N : Nat) (a0 : List UInt8) (a1 : Int) (h : Heap) : Option (Int × Heap) :=
  (bind3 (f16_l1 N N a0 a1 0 h) fun o19 (j20 : (Int × Int × Unit)) h21 =>
  (bif eqOut o19 (.exit 0) then
   some (j20.1, h21)
  else
   some (j20.2.1, h21)))
noncomputable def ann16 : Ann := (.two .n (.two (.two (.loop [(0, (.one .str)), (1, (.one (.int .i64))), (4, (.one (.int .i64)))] [(.exit 0), .ret] [(1, (.one (.int .i64))), (4, (.one (.int .i64)))] .n) .n) .n))
theorem f16_ok (N : Nat) : FnOK Tryz.prog 16 [(.one .str), (.one (.int .i64))] (.val (.one (.int .i64))) (fun x h => f16 N x.1 x.2.1 h) :=
  runK_ok envOK hmix (addCall_ok (f24_ok N) (addCall_ok (f23_ok N) noCalls_ok)) (N := N) (x := ann16) (fn := Tryz.f16) (c := Tryz.f16.body.getD .skip) (by kernel_rfl) (by kernel_rfl) (by kernel_rfl) (by kernel_rfl) (fun _ _ => by kernel_rfl)

/- usufruct/lex.begins -/
noncomputable def f47 (N : Nat) (a0 : Int) (h : Heap) : Option (Bool × Heap) :=
  let x1 : Bool := leInt 97 a0
  (bif x1 then
   let x2 : Bool := leInt a0 122
   (bif x2 then
    some (true, h)
   else
    let x3 : Bool := leInt 65 a0
    (bif x3 then
     let x4 : Bool := leInt a0 90
     (bif x4 then
      some (true, h)
     else
      let x5 : Bool := eqInt a0 95
      (bif x5 then
       some (true, h)
      else
       some (false, h)))
    else
     let x6 : Bool := eqInt a0 95
     (bif x6 then
      some (true, h)
     else
      some (false, h))))
  else
   let x7 : Bool := leInt 65 a0
   (bif x7 then
    let x8 : Bool := leInt a0 90
    (bif x8 then
     some (true, h)
    else
     let x9 : Bool := eqInt a0 95
     (bif x9 then
      some (true, h)
     else
      some (false, h)))
   else
    let x10 : Bool := eqInt a0 95
    (bif x10 then
     some (true, h)
    else
     some (false, h))))
noncomputable def ann47 : Ann := .n
theorem f47_ok (N : Nat) : FnOK Tryz.prog 47 [(.one (.int .u8))] (.val (.one .bool)) (fun x h => f47 N x.1 h) :=
  runK_ok envOK hmix noCalls_ok (N := N) (x := ann47) (fn := Tryz.f47) (c := Tryz.f47.body.getD .skip) (by kernel_rfl) (by kernel_rfl) (by kernel_rfl) (by kernel_rfl) (fun _ _ => by kernel_rfl)

/- usufruct/lex.goes -/
noncomputable def f55 (N : Nat) (a0 : Int) (h : Heap) : Option (Bool × Heap) :=
  (bind2 (f47 N a0 h) fun (x1 : Bool) h2 =>
  (bif x1 then
   some (true, h2)
  else
   let x3 : Bool := leInt 48 a0
   (bif x3 then
    let x4 : Bool := leInt a0 57
    some (x4, h2)
   else
    some (false, h2))))
noncomputable def ann55 : Ann := .n
theorem f55_ok (N : Nat) : FnOK Tryz.prog 55 [(.one (.int .u8))] (.val (.one .bool)) (fun x h => f55 N x.1 h) :=
  runK_ok envOK hmix (addCall_ok (f47_ok N) noCalls_ok) (N := N) (x := ann55) (fn := Tryz.f55) (c := Tryz.f55.body.getD .skip) (by kernel_rfl) (by kernel_rfl) (by kernel_rfl) (by kernel_rfl) (fun _ _ => by kernel_rfl)

/- usufruct/lex.run -/
noncomputable def f45_l1_b (N : Nat) (go : List UInt8 → Int → Heap → Option (Out × (Int × Unit) × Heap)) (v0 : List UInt8) (v1 : Int) (h : Heap) : Option (Out × (Int × Unit) × Heap) :=
  let x1 : Bool := ltInt v1 (Int.ofNat v0.length)
  (bif x1 then
   (strK v0 v1 fun x2 =>
   (bind2 (f55 N x2 h) fun (x3 : Bool) h4 =>
   (bif x3 then
    let x5 : Int := wrapA .i64 (v1 + 1)
    go v0 x5 h4
   else
    some ((Out.exit 0), (v1, ()), h4))))
  else
   some ((Out.exit 0), (v1, ()), h))
noncomputable def f45_l1 (N M : Nat) (v0 : List UInt8) (v1 : Int) (h : Heap) : Option (Out × (Int × Unit) × Heap) := iter (fun go s h => f45_l1_b N (fun v0 v1 h => go (v0, v1, ()) h) s.1 s.2.1 h) M (v0, v1, ()) h
theorem f45_l1_succ (N M : Nat) (v0 : List UInt8) (v1 : Int) (h : Heap) : f45_l1 N (M + 1) v0 v1 h = f45_l1_b N (f45_l1 N M) v0 v1 h := rfl
theorem f45_l1_zero (N : Nat) (v0 : List UInt8) (v1 : Int) (h : Heap) : f45_l1 N 0 v0 v1 h = none := rfl
noncomputable def f45 (N : Nat) (a0 : List UInt8) (a1 : Int) (h : Heap) : Option (Int × Heap) :=
  (bind3 (f45_l1 N N a0 a1 h) fun _ (j7 : (Int × Unit)) h8 =>
  some (j7.1, h8))
noncomputable def ann45 : Ann := (.two .n (.two (.two (.loop [(0, (.one .str)), (1, (.one (.int .i64)))] [(.exit 0)] [(1, (.one (.int .i64)))] .n) .n) .n))
theorem f45_ok (N : Nat) : FnOK Tryz.prog 45 [(.one .str), (.one (.int .i64))] (.val (.one (.int .i64))) (fun x h => f45 N x.1 x.2.1 h) :=
  runK_ok envOK hmix (addCall_ok (f55_ok N) noCalls_ok) (N := N) (x := ann45) (fn := Tryz.f45) (c := Tryz.f45.body.getD .skip) (by kernel_rfl) (by kernel_rfl) (by kernel_rfl) (by kernel_rfl) (fun _ _ => by kernel_rfl)

/- usufruct/lex.Word -/
noncomputable def f46 (N : Nat) (a0 : List UInt8) (h : Heap) : Option (Bool × Heap) :=
  let x1 : Bool := eqBytes a0 [102, 110]
  (bif x1 then
   (bif x1 then
    some (true, h)
   else
    some (false, h))
  else
   let x2 : Bool := eqBytes a0 [115, 116, 114, 117, 99, 116]
   (bif x2 then
    (bif x2 then
     some (true, h)
    else
     some (false, h))
   else
    let x3 : Bool := eqBytes a0 [112, 117, 98]
    (bif x3 then
     (bif x3 then
      some (true, h)
     else
      some (false, h))
    else
     let x4 : Bool := eqBytes a0 [108, 101, 116]
     (bif x4 then
      (bif x4 then
       some (true, h)
      else
       some (false, h))
     else
      let x5 : Bool := eqBytes a0 [109, 117, 116]
      (bif x5 then
       (bif x5 then
        some (true, h)
       else
        some (false, h))
      else
       let x6 : Bool := eqBytes a0 [105, 102]
       (bif x6 then
        (bif x6 then
         some (true, h)
        else
         some (false, h))
       else
        let x7 : Bool := eqBytes a0 [101, 108, 115, 101]
        (bif x7 then
         (bif x7 then
          some (true, h)
         else
          some (false, h))
        else
         let x8 : Bool := eqBytes a0 [119, 104, 105, 108, 101]
         (bif x8 then
          (bif x8 then
           some (true, h)
          else
           some (false, h))
         else
          let x9 : Bool := eqBytes a0 [108, 111, 111, 112]
          (bif x9 then
           (bif x9 then
            some (true, h)
           else
            some (false, h))
          else
           let x10 : Bool := eqBytes a0 [98, 114, 101, 97, 107]
           (bif x10 then
            (bif x10 then
             some (true, h)
            else
             some (false, h))
           else
            let x11 : Bool := eqBytes a0 [99, 111, 110, 116, 105, 110, 117, 101]
            (bif x11 then
             (bif x11 then
              some (true, h)
             else
              some (false, h))
            else
             let x12 : Bool := eqBytes a0 [114, 101, 116, 117, 114, 110]
             (bif x12 then
              (bif x12 then
               some (true, h)
              else
               some (false, h))
             else
              let x13 : Bool := eqBytes a0 [100, 114, 111, 112]
              (bif x13 then
               (bif x13 then
                some (true, h)
               else
                some (false, h))
              else
               let x14 : Bool := eqBytes a0 [116, 114, 117, 101]
               (bif x14 then
                (bif x14 then
                 some (true, h)
                else
                 some (false, h))
               else
                let x15 : Bool := eqBytes a0 [102, 97, 108, 115, 101]
                (bif x15 then
                 (bif x15 then
                  some (true, h)
                 else
                  some (false, h))
                else
                 let x16 : Bool := eqBytes a0 [105, 110, 116]
                 (bif x16 then
                  (bif x16 then
                   some (true, h)
                  else
                   some (false, h))
                 else
                  let x17 : Bool := eqBytes a0 [98, 111, 111, 108]
                  (bif x17 then
                   some (true, h)
                  else
                   some (false, h))))))))))))))))))
noncomputable def ann46 : Ann := .n
theorem f46_ok (N : Nat) : FnOK Tryz.prog 46 [(.one .str)] (.val (.one .bool)) (fun x h => f46 N x.1 h) :=
  runK_ok envOK hmix noCalls_ok (N := N) (x := ann46) (fn := Tryz.f46) (c := Tryz.f46.body.getD .skip) (by kernel_rfl) (by kernel_rfl) (by kernel_rfl) (by kernel_rfl) (fun _ _ => by kernel_rfl)

/- usufruct/lex.name -/
noncomputable def f25 (N : Nat) (a0 : List UInt8) (a1 : Int) (h : Heap) : Option (((Int × List UInt8 × Int × Unit) × Int × Unit) × Heap) :=
  let h1 : Heap := h.push (.row [(.int .i64 0), (.str []), (.int .i64 0)] .own)
  (bind2 (f45 N a0 a1 h1) fun (x2 : Int) h3 =>
  (bindV (.val (.one .str)) (sliceA E h3 9 (.str a0) (some (.int .i64 a1)) (some (.int .i64 x2))) fun (x4 : List UInt8) =>
  (bind2 (f46 N x4 h3) fun (x5 : Bool) h6 =>
  (bif x5 then
   (need (h6.store (h.next, 0) [(.int .i64 2), (.str x4), (.int .i64 a1)]) fun h7 =>
   (bindV (.val (.agg [(.int .i64), .str, (.int .i64)])) (h7.cells (h.next, 0) 3) fun (x8 : (Int × List UInt8 × Int × Unit)) =>
   some (((x8.1, x8.2.1, x8.2.2.1, ()), x2, ()), h7)))
  else
   let x9 : Bool := leInt (Int.ofNat x4.length) 32
   (bif x9 then
    (need (h6.store (h.next, 0) [(.int .i64 1), (.str x4), (.int .i64 a1)]) fun h10 =>
    (bindV (.val (.agg [(.int .i64), .str, (.int .i64)])) (h10.cells (h.next, 0) 3) fun (x11 : (Int × List UInt8 × Int × Unit)) =>
    some (((x11.1, x11.2.1, x11.2.2.1, ()), x2, ()), h10)))
   else
    (need (h6.store (h.next, 0) [(.int .i64 0), (.str []), (.int .i64 0)]) fun h12 =>
    (bindV (.val (.agg [(.int .i64), .str, (.int .i64)])) (h12.cells (h.next, 0) 3) fun (x13 : (Int × List UInt8 × Int × Unit)) =>
    some (((x13.1, x13.2.1, x13.2.2.1, ()), 0, ()), h12))))))))
noncomputable def ann25 : Ann := .n
theorem f25_ok (N : Nat) : FnOK Tryz.prog 25 [(.one .str), (.one (.int .i64))] (.tup [(.agg [(.int .i64), .str, (.int .i64)]), (.one (.int .i64))]) (fun x h => f25 N x.1 x.2.1 h) :=
  runK_ok envOK hmix (addCall_ok (f46_ok N) (addCall_ok (f45_ok N) noCalls_ok)) (N := N) (x := ann25) (fn := Tryz.f25) (c := Tryz.f25.body.getD .skip) (by kernel_rfl) (by kernel_rfl) (by kernel_rfl) (by kernel_rfl) (fun _ _ => by kernel_rfl)

/- usufruct/lex.number -/
noncomputable def f26_l1_b (N : Nat) (go : List UInt8 → Int → Option (Nat × Nat) → Int → Int → Int → Int → Heap → Option (Out × (List UInt8 × Int × Option (Nat × Nat) × Int × Int × Unit) × Heap)) (v0 : List UInt8) (v1 : Int) (v4 : Option (Nat × Nat)) (v5 : Int) (v6 : Int) (v7 : Int) (v8 : Int) (h : Heap) : Option (Out × (List UInt8 × Int × Option (Nat × Nat) × Int × Int × Unit) × Heap) :=
  let x4 : Bool := ltInt v8 v6
  (bif x4 then
   (strK v0 v8 fun x5 =>
   let x6 : Bool := ltInt x5 48
   (bif x6 then
    (need v4 fun q8 =>
    (need (h.store q8 [(.int .i64 0), (.str []), (.int .i64 0)]) fun h7 =>
    some (Out.ret, (v0, v1, v4, 0, v6, ()), h7)))
   else
    (strK v0 v8 fun x9 =>
    let x10 : Bool := ltInt 57 x9
    (bif x10 then
     (need v4 fun q12 =>
     (need (h.store q12 [(.int .i64 0), (.str []), (.int .i64 0)]) fun h11 =>
     some (Out.ret, (v0, v1, v4, 0, v6, ()), h11)))
    else
     let x13 : Int := wrapA .i64 (v7 * 10)
     (strK v0 v8 fun x14 =>
     let x15 : Int := wrapA .u8 (x14 - 48)
     let x16 : Int := wrapA .i64 x15
     let x17 : Int := wrapA .i64 (x13 + x16)
     let x18 : Bool := ltInt 2147483647 x17
     (bif x18 then
      (need v4 fun q20 =>
      (need (h.store q20 [(.int .i64 0), (.str []), (.int .i64 0)]) fun h19 =>
      some (Out.ret, (v0, v1, v4, 0, v6, ()), h19)))
     else
      let x21 : Int := wrapA .i64 (v8 + 1)
      go v0 v1 v4 v5 v6 x17 x21 h))))))
  else
   some ((Out.exit 0), (v0, v1, v4, v5, v6, ()), h))
noncomputable def f26_l1 (N M : Nat) (v0 : List UInt8) (v1 : Int) (v4 : Option (Nat × Nat)) (v5 : Int) (v6 : Int) (v7 : Int) (v8 : Int) (h : Heap) : Option (Out × (List UInt8 × Int × Option (Nat × Nat) × Int × Int × Unit) × Heap) := iter (fun go s h => f26_l1_b N (fun v0 v1 v4 v5 v6 v7 v8 h => go (v0, v1, v4, v5, v6, v7, v8, ()) h) s.1 s.2.1 s.2.2.1 s.2.2.2.1 s.2.2.2.2.1 s.2.2.2.2.2.1 s.2.2.2.2.2.2.1 h) M (v0, v1, v4, v5, v6, v7, v8, ()) h
theorem f26_l1_succ (N M : Nat) (v0 : List UInt8) (v1 : Int) (v4 : Option (Nat × Nat)) (v5 : Int) (v6 : Int) (v7 : Int) (v8 : Int) (h : Heap) : f26_l1 N (M + 1) v0 v1 v4 v5 v6 v7 v8 h = f26_l1_b N (f26_l1 N M) v0 v1 v4 v5 v6 v7 v8 h := rfl
theorem f26_l1_zero (N : Nat) (v0 : List UInt8) (v1 : Int) (v4 : Option (Nat × Nat)) (v5 : Int) (v6 : Int) (v7 : Int) (v8 : Int) (h : Heap) : f26_l1 N 0 v0 v1 v4 v5 v6 v7 v8 h = none := rfl
noncomputable def f26 (N : Nat) (a0 : List UInt8) (a1 : Int) (h : Heap) : Option (((Int × List UInt8 × Int × Unit) × Int × Unit) × Heap) :=
  let h1 : Heap := h.push (.row [(.int .i64 0), (.str []), (.int .i64 0)] .own)
  (bind2 (f45 N a0 a1 h1) fun (x2 : Int) h3 =>
  (bind3 (f26_l1 N N a0 a1 (some (h.next, 0)) 0 x2 0 a1 h3) fun o22 (j23 : (List UInt8 × Int × Option (Nat × Nat) × Int × Int × Unit)) h24 =>
  (bif eqOut o22 (.exit 0) then
   (strK j23.1 j23.2.1 fun x25 =>
   let x26 : Bool := eqInt x25 48
   (bif x26 then
    let x27 : Int := wrapA .i64 (j23.2.2.2.2.1 - j23.2.1)
    let x28 : Bool := ltInt 1 x27
    (bif x28 then
     (need j23.2.2.1 fun q30 =>
     (need (h24.store q30 [(.int .i64 0), (.str []), (.int .i64 0)]) fun h29 =>
     (need j23.2.2.1 fun q31 =>
     (bindV (.val (.agg [(.int .i64), .str, (.int .i64)])) (h29.cells q31 3) fun (x32 : (Int × List UInt8 × Int × Unit)) =>
     some (((x32.1, x32.2.1, x32.2.2.1, ()), 0, ()), h29)))))
    else
     (bindV (.val (.one .str)) (sliceA E h24 9 (.str j23.1) (some (.int .i64 j23.2.1)) (some (.int .i64 j23.2.2.2.2.1))) fun (x33 : List UInt8) =>
     (need j23.2.2.1 fun q35 =>
     (need (h24.store q35 [(.int .i64 4), (.str x33), (.int .i64 j23.2.1)]) fun h34 =>
     (need j23.2.2.1 fun q36 =>
     (bindV (.val (.agg [(.int .i64), .str, (.int .i64)])) (h34.cells q36 3) fun (x37 : (Int × List UInt8 × Int × Unit)) =>
     some (((x37.1, x37.2.1, x37.2.2.1, ()), j23.2.2.2.2.1, ()), h34)))))))
   else
    (bindV (.val (.one .str)) (sliceA E h24 9 (.str j23.1) (some (.int .i64 j23.2.1)) (some (.int .i64 j23.2.2.2.2.1))) fun (x38 : List UInt8) =>
    (need j23.2.2.1 fun q40 =>
    (need (h24.store q40 [(.int .i64 4), (.str x38), (.int .i64 j23.2.1)]) fun h39 =>
    (need j23.2.2.1 fun q41 =>
    (bindV (.val (.agg [(.int .i64), .str, (.int .i64)])) (h39.cells q41 3) fun (x42 : (Int × List UInt8 × Int × Unit)) =>
    some (((x42.1, x42.2.1, x42.2.2.1, ()), j23.2.2.2.2.1, ()), h39))))))))
  else
   (need j23.2.2.1 fun q43 =>
   (bindV (.val (.agg [(.int .i64), .str, (.int .i64)])) (h24.cells q43 3) fun (x44 : (Int × List UInt8 × Int × Unit)) =>
   some (((x44.1, x44.2.1, x44.2.2.1, ()), j23.2.2.2.1, ()), h24))))))
noncomputable def ann26 : Ann := (.two .n (.two .n (.two .n (.two (.two .n (.two (.loop [(0, (.one .str)), (1, (.one (.int .i64))), (4, (.one .ptr)), (5, (.one (.int .i64))), (6, (.one (.int .i64))), (7, (.one (.int .i64))), (8, (.one (.int .i64)))] [(.exit 0), .ret] [(0, (.one .str)), (1, (.one (.int .i64))), (4, (.one .ptr)), (5, (.one (.int .i64))), (6, (.one (.int .i64)))] .n) .n)) .n))))
theorem f26_ok (N : Nat) : FnOK Tryz.prog 26 [(.one .str), (.one (.int .i64))] (.tup [(.agg [(.int .i64), .str, (.int .i64)]), (.one (.int .i64))]) (fun x h => f26 N x.1 x.2.1 h) :=
  runK_ok envOK hmix (addCall_ok (f45_ok N) noCalls_ok) (N := N) (x := ann26) (fn := Tryz.f26) (c := Tryz.f26.body.getD .skip) (by kernel_rfl) (by kernel_rfl) (by kernel_rfl) (by kernel_rfl) (fun _ _ => by kernel_rfl)

/- usufruct/lex.life -/
noncomputable def f27 (N : Nat) (a0 : List UInt8) (a1 : Int) (h : Heap) : Option (((Int × List UInt8 × Int × Unit) × Int × Unit) × Heap) :=
  let h1 : Heap := h.push (.row [(.int .i64 0), (.str []), (.int .i64 0)] .own)
  let x2 : Int := wrapA .i64 (a1 + 1)
  let x3 : Bool := eqInt x2 (Int.ofNat a0.length)
  (bif x3 then
   (need (h1.store (h.next, 0) [(.int .i64 0), (.str []), (.int .i64 0)]) fun h4 =>
   (bindV (.val (.agg [(.int .i64), .str, (.int .i64)])) (h4.cells (h.next, 0) 3) fun (x5 : (Int × List UInt8 × Int × Unit)) =>
   some (((x5.1, x5.2.1, x5.2.2.1, ()), 0, ()), h4)))
  else
   let x6 : Int := wrapA .i64 (a1 + 1)
   (strK a0 x6 fun x7 =>
   (bind2 (f47 N x7 h1) fun (x8 : Bool) h9 =>
   let x10 : Bool := !x8
   (bif x10 then
    (need (h9.store (h.next, 0) [(.int .i64 0), (.str []), (.int .i64 0)]) fun h11 =>
    (bindV (.val (.agg [(.int .i64), .str, (.int .i64)])) (h11.cells (h.next, 0) 3) fun (x12 : (Int × List UInt8 × Int × Unit)) =>
    some (((x12.1, x12.2.1, x12.2.2.1, ()), 0, ()), h11)))
   else
    let x13 : Int := wrapA .i64 (a1 + 1)
    (bind2 (f45 N a0 x13 h9) fun (x14 : Int) h15 =>
    let x16 : Int := wrapA .i64 (x14 - a1)
    let x17 : Int := wrapA .i64 (x16 - 1)
    let x18 : Bool := ltInt 32 x17
    (bif x18 then
     (need (h15.store (h.next, 0) [(.int .i64 0), (.str []), (.int .i64 0)]) fun h19 =>
     (bindV (.val (.agg [(.int .i64), .str, (.int .i64)])) (h19.cells (h.next, 0) 3) fun (x20 : (Int × List UInt8 × Int × Unit)) =>
     some (((x20.1, x20.2.1, x20.2.2.1, ()), 0, ()), h19)))
    else
     let x21 : Int := wrapA .i64 (a1 + 1)
     (bindV (.val (.one .str)) (sliceA E h15 9 (.str a0) (some (.int .i64 x21)) (some (.int .i64 x14))) fun (x22 : List UInt8) =>
     (need (h15.store (h.next, 0) [(.int .i64 3), (.str x22), (.int .i64 a1)]) fun h23 =>
     (bindV (.val (.agg [(.int .i64), .str, (.int .i64)])) (h23.cells (h.next, 0) 3) fun (x24 : (Int × List UInt8 × Int × Unit)) =>
     some (((x24.1, x24.2.1, x24.2.2.1, ()), x14, ()), h23))))))))))
noncomputable def ann27 : Ann := .n
theorem f27_ok (N : Nat) : FnOK Tryz.prog 27 [(.one .str), (.one (.int .i64))] (.tup [(.agg [(.int .i64), .str, (.int .i64)]), (.one (.int .i64))]) (fun x h => f27 N x.1 x.2.1 h) :=
  runK_ok envOK hmix (addCall_ok (f47_ok N) (addCall_ok (f45_ok N) noCalls_ok)) (N := N) (x := ann27) (fn := Tryz.f27) (c := Tryz.f27.body.getD .skip) (by kernel_rfl) (by kernel_rfl) (by kernel_rfl) (by kernel_rfl) (fun _ _ => by kernel_rfl)

/- usufruct/lex.sign -/
noncomputable def f28_l1_b (N : Nat) (go : List UInt8 → Int → Option (Nat × Nat) → Int → SL → Int → Int → Heap → Option (Out × (List UInt8 × Int × Option (Nat × Nat) × Int × Unit) × Heap)) (v0 : List UInt8) (v1 : Int) (v4 : Option (Nat × Nat)) (v5 : Int) (v8 : SL) (v9 : Int) (v10 : Int) (h : Heap) : Option (Out × (List UInt8 × Int × Option (Nat × Nat) × Int × Unit) × Heap) :=
  let x3 : Bool := ltInt v10 v9
  (bif x3 then
   (ixK v8.a v8.len v10 1 fun q4 =>
   (bindV (.val (.one .str)) (h.cell q4) fun (x5 : List UInt8) =>
   (bindV (.val (.one .str)) (sliceA E h 9 (.str v0) (some (.int .i64 v1)) none) fun (x6 : List UInt8) =>
   (bind2 (f23 N x6 x5 h) fun (x7 : Bool) h8 =>
   (bif x7 then
    let x9 : Int := wrapA .i64 (v1 + 2)
    (need v4 fun q11 =>
    (need (h8.store q11 [(.int .i64 5), (.str x5), (.int .i64 v1)]) fun h10 =>
    some (Out.ret, (v0, v1, v4, x9, ()), h10)))
   else
    let x12 : Int := wrapA .i64 (v10 + 1)
    go v0 v1 v4 v5 v8 v9 x12 h8)))))
  else
   some ((Out.exit 0), (v0, v1, v4, v5, ()), h))
noncomputable def f28_l1 (N M : Nat) (v0 : List UInt8) (v1 : Int) (v4 : Option (Nat × Nat)) (v5 : Int) (v8 : SL) (v9 : Int) (v10 : Int) (h : Heap) : Option (Out × (List UInt8 × Int × Option (Nat × Nat) × Int × Unit) × Heap) := iter (fun go s h => f28_l1_b N (fun v0 v1 v4 v5 v8 v9 v10 h => go (v0, v1, v4, v5, v8, v9, v10, ()) h) s.1 s.2.1 s.2.2.1 s.2.2.2.1 s.2.2.2.2.1 s.2.2.2.2.2.1 s.2.2.2.2.2.2.1 h) M (v0, v1, v4, v5, v8, v9, v10, ()) h
theorem f28_l1_succ (N M : Nat) (v0 : List UInt8) (v1 : Int) (v4 : Option (Nat × Nat)) (v5 : Int) (v8 : SL) (v9 : Int) (v10 : Int) (h : Heap) : f28_l1 N (M + 1) v0 v1 v4 v5 v8 v9 v10 h = f28_l1_b N (f28_l1 N M) v0 v1 v4 v5 v8 v9 v10 h := rfl
theorem f28_l1_zero (N : Nat) (v0 : List UInt8) (v1 : Int) (v4 : Option (Nat × Nat)) (v5 : Int) (v8 : SL) (v9 : Int) (v10 : Int) (h : Heap) : f28_l1 N 0 v0 v1 v4 v5 v8 v9 v10 h = none := rfl
noncomputable def f28 (N : Nat) (a0 : List UInt8) (a1 : Int) (h : Heap) : Option (((Int × List UInt8 × Int × Unit) × Int × Unit) × Heap) :=
  let h1 : Heap := h.push (.row [(.int .i64 0), (.str []), (.int .i64 0)] .own)
  let h2 : Heap := h1.push (.row [(.str [58, 58]), (.str [45, 62]), (.str [61, 61])] .own)
  (bind3 (f28_l1 N N a0 a1 (some (h.next, 0)) 0 ⟨(some (h1.next, 0)), 3, 3, 1⟩ (Int.ofNat 3) 0 h2) fun o13 (j14 : (List UInt8 × Int × Option (Nat × Nat) × Int × Unit)) h15 =>
  (bif eqOut o13 (.exit 0) then
   (strK j14.1 j14.2.1 fun x16 =>
   (bind2 (f24 N [40, 41, 123, 125, 60, 62, 44, 59, 58, 46, 42, 38, 43, 45, 61, 33] x16 h15) fun (x17 : Int) h18 =>
   let x19 : Bool := ltInt x17 0
   (bif x19 then
    (need j14.2.2.1 fun q21 =>
    (need (h18.store q21 [(.int .i64 0), (.str []), (.int .i64 0)]) fun h20 =>
    (need j14.2.2.1 fun q22 =>
    (bindV (.val (.agg [(.int .i64), .str, (.int .i64)])) (h20.cells q22 3) fun (x23 : (Int × List UInt8 × Int × Unit)) =>
    some (((x23.1, x23.2.1, x23.2.2.1, ()), 0, ()), h20)))))
   else
    let x24 : Int := wrapA .i64 (j14.2.1 + 1)
    (bindV (.val (.one .str)) (sliceA E h18 9 (.str j14.1) (some (.int .i64 j14.2.1)) (some (.int .i64 x24))) fun (x25 : List UInt8) =>
    let x26 : Int := wrapA .i64 (j14.2.1 + 1)
    (need j14.2.2.1 fun q28 =>
    (need (h18.store q28 [(.int .i64 5), (.str x25), (.int .i64 j14.2.1)]) fun h27 =>
    (need j14.2.2.1 fun q29 =>
    (bindV (.val (.agg [(.int .i64), .str, (.int .i64)])) (h27.cells q29 3) fun (x30 : (Int × List UInt8 × Int × Unit)) =>
    some (((x30.1, x30.2.1, x30.2.2.1, ()), x26, ()), h27)))))))))
  else
   (need j14.2.2.1 fun q31 =>
   (bindV (.val (.agg [(.int .i64), .str, (.int .i64)])) (h15.cells q31 3) fun (x32 : (Int × List UInt8 × Int × Unit)) =>
   some (((x32.1, x32.2.1, x32.2.2.1, ()), j14.2.2.2.1, ()), h15)))))
noncomputable def ann28 : Ann := (.two .n (.two (.two .n (.two (.loop [(0, (.one .str)), (1, (.one (.int .i64))), (4, (.one .ptr)), (5, (.one (.int .i64))), (8, (.one .slice)), (9, (.one (.int .i64))), (10, (.one (.int .i64)))] [(.exit 0), .ret] [(0, (.one .str)), (1, (.one (.int .i64))), (4, (.one .ptr)), (5, (.one (.int .i64)))] .n) .n)) .n))
theorem f28_ok (N : Nat) : FnOK Tryz.prog 28 [(.one .str), (.one (.int .i64))] (.tup [(.agg [(.int .i64), .str, (.int .i64)]), (.one (.int .i64))]) (fun x h => f28 N x.1 x.2.1 h) :=
  runK_ok envOK hmix (addCall_ok (f24_ok N) (addCall_ok (f23_ok N) noCalls_ok)) (N := N) (x := ann28) (fn := Tryz.f28) (c := Tryz.f28.body.getD .skip) (by kernel_rfl) (by kernel_rfl) (by kernel_rfl) (by kernel_rfl) (fun _ _ => by kernel_rfl)

/- usufruct/lex.next -/
noncomputable def f17 (N : Nat) (a0 : List UInt8) (a1 : Int) (h : Heap) : Option (((Int × List UInt8 × Int × Unit) × Int × Unit) × Heap) :=
  let h1 : Heap := h.push (.row [(.int .i64 0), (.str []), (.int .i64 0)] .own)
  (need (α := Sum ((List UInt8 × Int × Option (Nat × Nat) × Unit) × Heap) (Sum ((Option (Nat × Nat) × Int × Unit) × Heap) (Empty))) (
   (strK a0 a1 fun x2 =>
   (need (α := Sum ((List UInt8 × Int × Option (Nat × Nat) × Unit) × Heap) (Sum ((List UInt8 × Int × Option (Nat × Nat) × Unit) × Heap) (Sum ((Option (Nat × Nat) × Int × Unit) × Heap) (Empty)))) (
    (need (α := Sum ((List UInt8 × Int × Option (Nat × Nat) × Unit) × Heap) (Sum ((List UInt8 × Int × Option (Nat × Nat) × Unit) × Heap) (Sum ((List UInt8 × Int × Option (Nat × Nat) × Unit) × Heap) (Sum ((Option (Nat × Nat) × Int × Unit) × Heap) (Empty))))) (
     (need (α := Sum ((List UInt8 × Int × Option (Nat × Nat) × Unit) × Heap) (Sum ((List UInt8 × Int × Option (Nat × Nat) × Unit) × Heap) (Sum ((List UInt8 × Int × Option (Nat × Nat) × Unit) × Heap) (Sum ((List UInt8 × Int × Option (Nat × Nat) × Unit) × Heap) (Sum ((List UInt8 × Int × Option (Nat × Nat) × Unit) × Heap) (Empty)))))) (
      (need (α := Sum ((List UInt8 × Int × Option (Nat × Nat) × Int × Unit) × Heap) (Sum ((List UInt8 × Int × Option (Nat × Nat) × Unit) × Heap) (Empty))) (
       let x3 : Bool := leInt 97 x2
       (bif x3 then
        let x4 : Bool := leInt x2 122
        (bif x4 then
         some (Sum.inr (Sum.inl ((a0, a1, (some (h.next, 0)), ()), h1)))
        else
         some (Sum.inl ((a0, a1, (some (h.next, 0)), x2, ()), h1)))
       else
        some (Sum.inl ((a0, a1, (some (h.next, 0)), x2, ()), h1)))) fun j5 =>
      (jcase j5 (fun (j6 : (List UInt8 × Int × Option (Nat × Nat) × Int × Unit)) h7 =>
       (need (α := Sum ((List UInt8 × Int × Option (Nat × Nat) × Int × Unit) × Heap) (Sum ((List UInt8 × Int × Option (Nat × Nat) × Unit) × Heap) (Empty))) (
        (bind2 (α := (List UInt8 × Int × Option (Nat × Nat) × Int × Bool × Unit)) (
         let x9 : Bool := leInt 65 j6.2.2.2.1
         (bif x9 then
          let x10 : Bool := leInt j6.2.2.2.1 90
          some ((j6.1, j6.2.1, j6.2.2.1, j6.2.2.2.1, x10, ()), h7)
         else
          some ((j6.1, j6.2.1, j6.2.2.1, j6.2.2.2.1, false, ()), h7))) fun (j11 : (List UInt8 × Int × Option (Nat × Nat) × Int × Bool × Unit)) h12 =>
        (bif j11.2.2.2.2.1 then
         (bif j11.2.2.2.2.1 then
          some (Sum.inr (Sum.inl ((j11.1, j11.2.1, j11.2.2.1, ()), h12)))
         else
          some (Sum.inl ((j11.1, j11.2.1, j11.2.2.1, j11.2.2.2.1, ()), h12)))
        else
         let x13 : Bool := eqInt j11.2.2.2.1 95
         (bif x13 then
          some (Sum.inr (Sum.inl ((j11.1, j11.2.1, j11.2.2.1, ()), h12)))
         else
          some (Sum.inl ((j11.1, j11.2.1, j11.2.2.1, j11.2.2.2.1, ()), h12)))))) fun j14 =>
       (jcase j14 (fun (j15 : (List UInt8 × Int × Option (Nat × Nat) × Int × Unit)) h16 =>
        let x18 : Bool := eqInt j15.2.2.2.1 48
        (bif x18 then
         some (Sum.inr (Sum.inr (Sum.inl ((j15.1, j15.2.1, j15.2.2.1, ()), h16))))
        else
         (need (α := Sum ((List UInt8 × Int × Option (Nat × Nat) × Int × Unit) × Heap) (Sum ((List UInt8 × Int × Option (Nat × Nat) × Unit) × Heap) (Empty))) (
          let x19 : Bool := leInt 49 j15.2.2.2.1
          (bif x19 then
           let x20 : Bool := leInt j15.2.2.2.1 57
           (bif x20 then
            some (Sum.inr (Sum.inl ((j15.1, j15.2.1, j15.2.2.1, ()), h16)))
           else
            some (Sum.inl ((j15.1, j15.2.1, j15.2.2.1, j15.2.2.2.1, ()), h16)))
          else
           some (Sum.inl ((j15.1, j15.2.1, j15.2.2.1, j15.2.2.2.1, ()), h16)))) fun j21 =>
         (jcase j21 (fun (j22 : (List UInt8 × Int × Option (Nat × Nat) × Int × Unit)) h23 =>
          let x25 : Bool := eqInt j22.2.2.2.1 39
          (bif x25 then
           some (Sum.inr (Sum.inr (Sum.inr (Sum.inr (Sum.inl ((j22.1, j22.2.1, j22.2.2.1, ()), h23))))))
          else
           some (Sum.inr (Sum.inl ((j22.1, j22.2.1, j22.2.2.1, ()), h23))))) fun j24 =>
         (jcase j24 (fun (j26 : (List UInt8 × Int × Option (Nat × Nat) × Unit)) h27 =>
          some (Sum.inr (Sum.inr (Sum.inr (Sum.inl ((j26.1, j26.2.1, j26.2.2.1, ()), h27)))))) fun _ =>
         none))))) fun j17 =>
       (jcase j17 (fun (j29 : (List UInt8 × Int × Option (Nat × Nat) × Unit)) h30 =>
        some (Sum.inl ((j29.1, j29.2.1, j29.2.2.1, ()), h30))) fun _ =>
       none)))) fun j8 =>
      (jcase j8 (fun (j32 : (List UInt8 × Int × Option (Nat × Nat) × Unit)) h33 =>
       some (Sum.inl ((j32.1, j32.2.1, j32.2.2.1, ()), h33))) fun _ =>
      none)))) fun j35 =>
     (jcase j35 (fun (j36 : (List UInt8 × Int × Option (Nat × Nat) × Unit)) h37 =>
      (bind2 (f25 N j36.1 j36.2.1 h37) fun (x39 : ((Int × List UInt8 × Int × Unit) × Int × Unit)) h40 =>
      (need j36.2.2.1 fun q42 =>
      (need (h40.store q42 [(.int .i64 x39.1.1), (.str x39.1.2.1), (.int .i64 x39.1.2.2.1)]) fun h41 =>
      some (Sum.inr (Sum.inr (Sum.inr (Sum.inl ((j36.2.2.1, x39.2.1, ()), h41))))))))) fun j38 =>
     (jcase j38 (fun (j43 : (List UInt8 × Int × Option (Nat × Nat) × Unit)) h44 =>
      some (Sum.inr (Sum.inl ((j43.1, j43.2.1, j43.2.2.1, ()), h44)))) fun j45 =>
     (jcase j45 (fun (j46 : (List UInt8 × Int × Option (Nat × Nat) × Unit)) h47 =>
      some (Sum.inl ((j46.1, j46.2.1, j46.2.2.1, ()), h47))) fun j48 =>
     (jcase j48 (fun (j49 : (List UInt8 × Int × Option (Nat × Nat) × Unit)) h50 =>
      some (Sum.inl ((j49.1, j49.2.1, j49.2.2.1, ()), h50))) fun j51 =>
     (jcase j51 (fun (j52 : (List UInt8 × Int × Option (Nat × Nat) × Unit)) h53 =>
      some (Sum.inr (Sum.inr (Sum.inl ((j52.1, j52.2.1, j52.2.2.1, ()), h53))))) fun _ =>
     none))))))) fun j55 =>
    (jcase j55 (fun (j56 : (List UInt8 × Int × Option (Nat × Nat) × Unit)) h57 =>
     (bind2 (f26 N j56.1 j56.2.1 h57) fun (x59 : ((Int × List UInt8 × Int × Unit) × Int × Unit)) h60 =>
     (need j56.2.2.1 fun q62 =>
     (need (h60.store q62 [(.int .i64 x59.1.1), (.str x59.1.2.1), (.int .i64 x59.1.2.2.1)]) fun h61 =>
     some (Sum.inr (Sum.inr (Sum.inl ((j56.2.2.1, x59.2.1, ()), h61)))))))) fun j58 =>
    (jcase j58 (fun (j63 : (List UInt8 × Int × Option (Nat × Nat) × Unit)) h64 =>
     some (Sum.inr (Sum.inl ((j63.1, j63.2.1, j63.2.2.1, ()), h64)))) fun j65 =>
    (jcase j65 (fun (j66 : (List UInt8 × Int × Option (Nat × Nat) × Unit)) h67 =>
     some (Sum.inl ((j66.1, j66.2.1, j66.2.2.1, ()), h67))) fun j68 =>
    (jcase j68 (fun (j69 : (Option (Nat × Nat) × Int × Unit)) h70 =>
     some (Sum.inr (Sum.inr (Sum.inl ((j69.1, j69.2.1, ()), h70))))) fun _ =>
    none)))))) fun j72 =>
   (jcase j72 (fun (j73 : (List UInt8 × Int × Option (Nat × Nat) × Unit)) h74 =>
    (bind2 (f27 N j73.1 j73.2.1 h74) fun (x76 : ((Int × List UInt8 × Int × Unit) × Int × Unit)) h77 =>
    (need j73.2.2.1 fun q79 =>
    (need (h77.store q79 [(.int .i64 x76.1.1), (.str x76.1.2.1), (.int .i64 x76.1.2.2.1)]) fun h78 =>
    some (Sum.inr (Sum.inl ((j73.2.2.1, x76.2.1, ()), h78))))))) fun j75 =>
   (jcase j75 (fun (j80 : (List UInt8 × Int × Option (Nat × Nat) × Unit)) h81 =>
    some (Sum.inl ((j80.1, j80.2.1, j80.2.2.1, ()), h81))) fun j82 =>
   (jcase j82 (fun (j83 : (Option (Nat × Nat) × Int × Unit)) h84 =>
    some (Sum.inr (Sum.inl ((j83.1, j83.2.1, ()), h84)))) fun _ =>
   none)))))) fun j86 =>
  (jcase j86 (fun (j87 : (List UInt8 × Int × Option (Nat × Nat) × Unit)) h88 =>
   (bind2 (f28 N j87.1 j87.2.1 h88) fun (x90 : ((Int × List UInt8 × Int × Unit) × Int × Unit)) h91 =>
   (need j87.2.2.1 fun q93 =>
   (need (h91.store q93 [(.int .i64 x90.1.1), (.str x90.1.2.1), (.int .i64 x90.1.2.2.1)]) fun h92 =>
   (need j87.2.2.1 fun q94 =>
   (bindV (.val (.agg [(.int .i64), .str, (.int .i64)])) (h92.cells q94 3) fun (x95 : (Int × List UInt8 × Int × Unit)) =>
   some (((x95.1, x95.2.1, x95.2.2.1, ()), x90.2.1, ()), h92))))))) fun j89 =>
  (jcase j89 (fun (j96 : (Option (Nat × Nat) × Int × Unit)) h97 =>
   (need j96.1 fun q99 =>
   (bindV (.val (.agg [(.int .i64), .str, (.int .i64)])) (h97.cells q99 3) fun (x100 : (Int × List UInt8 × Int × Unit)) =>
   some (((x100.1, x100.2.1, x100.2.2.1, ()), j96.2.1, ()), h97)))) fun _ =>
  none)))
noncomputable def ann17 : Ann := (.two .n (.two (.joinO [(.norm, [(0, (.one .str)), (1, (.one (.int .i64))), (4, (.one .ptr))]), (.ret, [(4, (.one .ptr)), (5, (.one (.int .i64)))])] (.two .n (.two (.two (.joinO [(.norm, [(0, (.one .str)), (1, (.one (.int .i64))), (4, (.one .ptr))]), ((.exit 0), [(0, (.one .str)), (1, (.one (.int .i64))), (4, (.one .ptr))]), (.ret, [(4, (.one .ptr)), (5, (.one (.int .i64)))])] (.two (.two (.joinO [(.norm, [(0, (.one .str)), (1, (.one (.int .i64))), (4, (.one .ptr))]), ((.exit 0), [(0, (.one .str)), (1, (.one (.int .i64))), (4, (.one .ptr))]), ((.exit 5), [(0, (.one .str)), (1, (.one (.int .i64))), (4, (.one .ptr))]), (.ret, [(4, (.one .ptr)), (5, (.one (.int .i64)))])] (.two (.two (.two (.joinO [(.norm, [(0, (.one .str)), (1, (.one (.int .i64))), (4, (.one .ptr))]), ((.exit 0), [(0, (.one .str)), (1, (.one (.int .i64))), (4, (.one .ptr))]), ((.exit 3), [(0, (.one .str)), (1, (.one (.int .i64))), (4, (.one .ptr))]), ((.exit 4), [(0, (.one .str)), (1, (.one (.int .i64))), (4, (.one .ptr))]), ((.exit 5), [(0, (.one .str)), (1, (.one (.int .i64))), (4, (.one .ptr))])] (.two (.two (.two (.two (.joinO [(.norm, [(0, (.one .str)), (1, (.one (.int .i64))), (4, (.one .ptr)), (6, (.one (.int .u8)))]), ((.exit 1), [(0, (.one .str)), (1, (.one (.int .i64))), (4, (.one .ptr))])] .n) (.two (.joinO [(.norm, [(0, (.one .str)), (1, (.one (.int .i64))), (4, (.one .ptr)), (6, (.one (.int .u8)))]), ((.exit 2), [(0, (.one .str)), (1, (.one (.int .i64))), (4, (.one .ptr))])] (.two (.two (.join [(0, (.one .str)), (1, (.one (.int .i64))), (4, (.one .ptr)), (6, (.one (.int .u8))), (17, (.one .bool))] .n) .n) .n)) (.two .n (.two (.joinO [(.norm, [(0, (.one .str)), (1, (.one (.int .i64))), (4, (.one .ptr)), (6, (.one (.int .u8)))]), ((.exit 4), [(0, (.one .str)), (1, (.one (.int .i64))), (4, (.one .ptr))])] .n) .n)))) .n) .n) .n)) .n) .n) .n)) .n) .n)) .n) .n))) .n))
theorem f17_ok (N : Nat) : FnOK Tryz.prog 17 [(.one .str), (.one (.int .i64))] (.tup [(.agg [(.int .i64), .str, (.int .i64)]), (.one (.int .i64))]) (fun x h => f17 N x.1 x.2.1 h) :=
  runK_ok envOK hmix (addCall_ok (f28_ok N) (addCall_ok (f27_ok N) (addCall_ok (f26_ok N) (addCall_ok (f25_ok N) noCalls_ok)))) (N := N) (x := ann17) (fn := Tryz.f17) (c := Tryz.f17.body.getD .skip) (by kernel_rfl) (by kernel_rfl) (by kernel_rfl) (by kernel_rfl) (fun _ _ => by kernel_rfl)

/- usufruct/lex.Lex -/
noncomputable def f8_l1_b (N : Nat) (go : List UInt8 → SL → AV → SL → Int → Heap → Option (Out × (List UInt8 × SL × AV × SL × Unit) × Heap)) (v0 : List UInt8) (v2 : SL) (v3 : AV) (v4 : SL) (v5 : Int) (h : Heap) : Option (Out × (List UInt8 × SL × AV × SL × Unit) × Heap) :=
  let x6 : Bool := ltInt v5 (Int.ofNat v0.length)
  (bif x6 then
   (bind2 (f17 N v0 v5 h) fun (x7 : ((Int × List UInt8 × Int × Unit) × Int × Unit)) h8 =>
   let h9 : Heap := h8.push (.row [(.int .i64 0), (.str []), (.int .i64 0)] .own)
   (need (h9.store (h8.next, 0) [(.int .i64 x7.1.1), (.str x7.1.2.1), (.int .i64 x7.1.2.2.1)]) fun h10 =>
   let x11 : Bool := eqInt x7.2.1 0
   (bif x11 then
    (bind2 (f15 N 20 v5 h10) fun (x12 : AV) h13 =>
    some (Out.ret, (v0, ⟨none, 0, 0, 0⟩, x12, v4, ()), h13))
   else
    (bindV (.val (.agg [(.int .i64), .str, (.int .i64)])) (h10.cells (h8.next, 0) 3) fun (x14 : (Int × List UInt8 × Int × Unit)) =>
    let h15 : Heap := h10.push (.row [(.int .i64 x14.1), (.str x14.2.1), (.int .i64 x14.2.2.1)] .own)
    (bindT (.val (.one .slice)) (appendA E 54 54 (.slice v4.a v4.len v4.cap v4.sz) (.slice (some (h10.next, 0)) 1 1 3) h15) fun (x16 : SL) h17 =>
    (bind2 (f16 N v0 x7.2.1 h17) fun (x18 : Int) h19 =>
    go v0 v2 v3 x16 x18 h19))))))
  else
   some ((Out.exit 0), (v0, v2, v3, v4, ()), h))
noncomputable def f8_l1 (N M : Nat) (v0 : List UInt8) (v2 : SL) (v3 : AV) (v4 : SL) (v5 : Int) (h : Heap) : Option (Out × (List UInt8 × SL × AV × SL × Unit) × Heap) := iter (fun go s h => f8_l1_b N (fun v0 v2 v3 v4 v5 h => go (v0, v2, v3, v4, v5, ()) h) s.1 s.2.1 s.2.2.1 s.2.2.2.1 s.2.2.2.2.1 h) M (v0, v2, v3, v4, v5, ()) h
theorem f8_l1_succ (N M : Nat) (v0 : List UInt8) (v2 : SL) (v3 : AV) (v4 : SL) (v5 : Int) (h : Heap) : f8_l1 N (M + 1) v0 v2 v3 v4 v5 h = f8_l1_b N (f8_l1 N M) v0 v2 v3 v4 v5 h := rfl
theorem f8_l1_zero (N : Nat) (v0 : List UInt8) (v2 : SL) (v3 : AV) (v4 : SL) (v5 : Int) (h : Heap) : f8_l1 N 0 v0 v2 v3 v4 v5 h = none := rfl
noncomputable def f8 (N : Nat) (a0 : List UInt8) (h : Heap) : Option ((SL × AV × Unit) × Heap) :=
  let x1 : Bool := ltInt 1048576 (Int.ofNat a0.length)
  (bif x1 then
   (bind2 (f15 N 5 0 h) fun (x2 : AV) h3 =>
   some ((⟨none, 0, 0, 0⟩, x2, ()), h3))
  else
   (bind2 (f16 N a0 0 h) fun (x4 : Int) h5 =>
   (bind3 (f8_l1 N N a0 ⟨none, 0, 0, 0⟩ AV.nilIface ⟨none, 0, 0, 0⟩ x4 h5) fun o20 (j21 : (List UInt8 × SL × AV × SL × Unit)) h22 =>
   (bif eqOut o20 (.exit 0) then
    let h23 : Heap := h22.push (.row [(.int .i64 0), (.str []), (.int .i64 (Int.ofNat j21.1.length))] .own)
    (bindT (.val (.one .slice)) (appendA E 54 54 (.slice j21.2.2.2.1.a j21.2.2.2.1.len j21.2.2.2.1.cap j21.2.2.2.1.sz) (.slice (some (h22.next, 0)) 1 1 3) h23) fun (x24 : SL) h25 =>
    some ((x24, AV.nilIface, ()), h25))
   else
    some ((j21.2.1, j21.2.2.1, ()), h22)))))
noncomputable def ann8 : Ann := (.two .n (.two .n (.two .n (.two .n (.two (.two (.loop [(0, (.one .str)), (2, (.one .slice)), (3, (.one .any)), (4, (.one .slice)), (5, (.one (.int .i64)))] [(.exit 0), .ret] [(0, (.one .str)), (2, (.one .slice)), (3, (.one .any)), (4, (.one .slice))] .n) .n) .n)))))
theorem f8_ok (N : Nat) : FnOK Tryz.prog 8 [(.one .str)] (.tup [(.one .slice), (.one .any)]) (fun x h => f8 N x.1 h) :=
  runK_ok envOK hmix (addCall_ok (f17_ok N) (addCall_ok (f16_ok N) (addCall_ok (f15_ok N) noCalls_ok))) (N := N) (x := ann8) (fn := Tryz.f8) (c := Tryz.f8.body.getD .skip) (by kernel_rfl) (by kernel_rfl) (by kernel_rfl) (by kernel_rfl) (fun _ _ => by kernel_rfl)

/- (*usufruct/parse.parser).peek -/
noncomputable def f9 (N : Nat) (a0 : Option (Nat × Nat)) (h : Heap) : Option ((Int × List UInt8 × Int × Unit) × Heap) :=
  let h1 : Heap := h.push (.row [(.int .i64 0), (.str []), (.int .i64 0)] .own)
  (need a0 fun q2 =>
  (bindV (.val (.one .slice)) (h1.cell (q2.1, q2.2 + 0)) fun (x3 : SL) =>
  (need a0 fun q4 =>
  (bindV (.val (.one (.int .i64))) (h1.cell (q4.1, q4.2 + 1)) fun (x5 : Int) =>
  (ixK x3.a x3.len x5 3 fun q6 =>
  (bindV (.val (.agg [(.int .i64), .str, (.int .i64)])) (h1.cells q6 3) fun (x7 : (Int × List UInt8 × Int × Unit)) =>
  (need (h1.store (h.next, 0) [(.int .i64 x7.1), (.str x7.2.1), (.int .i64 x7.2.2.1)]) fun h8 =>
  (bindV (.val (.agg [(.int .i64), .str, (.int .i64)])) (h8.cells (h.next, 0) 3) fun (x9 : (Int × List UInt8 × Int × Unit)) =>
  some ((x9.1, x9.2.1, x9.2.2.1, ()), h8)))))))))
noncomputable def ann9 : Ann := .n
theorem f9_ok (N : Nat) : FnOK Tryz.prog 9 [(.one .ptr)] (.val (.agg [(.int .i64), .str, (.int .i64)])) (fun x h => f9 N x.1 h) :=
  runK_ok envOK hmix noCalls_ok (N := N) (x := ann9) (fn := Tryz.f9) (c := Tryz.f9.body.getD .skip) (by kernel_rfl) (by kernel_rfl) (by kernel_rfl) (by kernel_rfl) (fun _ _ => by kernel_rfl)

/- (*usufruct/parse.parser).is -/
noncomputable def f29 (N : Nat) (a0 : Option (Nat × Nat)) (a1 : Int) (a2 : List UInt8) (h : Heap) : Option (Bool × Heap) :=
  (bind2 (f9 N a0 h) fun (x1 : (Int × List UInt8 × Int × Unit)) h2 =>
  let h3 : Heap := h2.push (.row [(.int .i64 0), (.str []), (.int .i64 0)] .own)
  (need (h3.store (h2.next, 0) [(.int .i64 x1.1), (.str x1.2.1), (.int .i64 x1.2.2.1)]) fun h4 =>
  (need a0 fun q5 =>
  (bindV (.val (.one .any)) (h4.cell (q5.1, q5.2 + 3)) fun (x6 : AV) =>
  (bindV (.val (.one .bool)) (binA E .eql 29 (.tmp 13) (.const .nilIface) x6 AV.nilIface) fun (x7 : Bool) =>
  (bif x7 then
   (bindV (.val (.one (.int .i64))) (h4.cell ((h2.next, 0).1, (h2.next, 0).2 + 0)) fun (x8 : Int) =>
   let x9 : Bool := eqInt x8 a1
   (bif x9 then
    (bindV (.val (.one .str)) (h4.cell ((h2.next, 0).1, (h2.next, 0).2 + 1)) fun (x10 : List UInt8) =>
    let x11 : Bool := eqBytes x10 a2
    some (x11, h4))
   else
    some (false, h4)))
  else
   some (false, h4)))))))
noncomputable def ann29 : Ann := .n
theorem f29_ok (N : Nat) : FnOK Tryz.prog 29 [(.one .ptr), (.one (.int .i64)), (.one .str)] (.val (.one .bool)) (fun x h => f29 N x.1 x.2.1 x.2.2.1 h) :=
  runK_ok envOK hmix (addCall_ok (f9_ok N) noCalls_ok) (N := N) (x := ann29) (fn := Tryz.f29) (c := Tryz.f29.body.getD .skip) (by kernel_rfl) (by kernel_rfl) (by kernel_rfl) (by kernel_rfl) (fun _ _ => by kernel_rfl)

/- (*usufruct/parse.parser).word -/
noncomputable def f18 (N : Nat) (a0 : Option (Nat × Nat)) (a1 : List UInt8) (h : Heap) : Option (Bool × Heap) :=
  (bind2 (f29 N a0 2 a1 h) fun (x1 : Bool) h2 =>
  let x3 : Bool := !x1
  (bif x3 then
   some (false, h2)
  else
   (need a0 fun q4 =>
   (bindV (.val (.one (.int .i64))) (h2.cell (q4.1, q4.2 + 1)) fun (x5 : Int) =>
   let x6 : Int := wrapA .i64 (x5 + 1)
   (need a0 fun q7 =>
   (need (h2.store (q7.1, q7.2 + 1) [(.int .i64 x6)]) fun h8 =>
   some (true, h8)))))))
noncomputable def ann18 : Ann := .n
theorem f18_ok (N : Nat) : FnOK Tryz.prog 18 [(.one .ptr), (.one .str)] (.val (.one .bool)) (fun x h => f18 N x.1 x.2.1 h) :=
  runK_ok envOK hmix (addCall_ok (f29_ok N) noCalls_ok) (N := N) (x := ann18) (fn := Tryz.f18) (c := Tryz.f18.body.getD .skip) (by kernel_rfl) (by kernel_rfl) (by kernel_rfl) (by kernel_rfl) (fun _ _ => by kernel_rfl)

/- (*usufruct/parse.parser).sign -/
noncomputable def f33 (N : Nat) (a0 : Option (Nat × Nat)) (a1 : List UInt8) (h : Heap) : Option (Bool × Heap) :=
  (bind2 (f29 N a0 5 a1 h) fun (x1 : Bool) h2 =>
  let x3 : Bool := !x1
  (bif x3 then
   some (false, h2)
  else
   (need a0 fun q4 =>
   (bindV (.val (.one (.int .i64))) (h2.cell (q4.1, q4.2 + 1)) fun (x5 : Int) =>
   let x6 : Int := wrapA .i64 (x5 + 1)
   (need a0 fun q7 =>
   (need (h2.store (q7.1, q7.2 + 1) [(.int .i64 x6)]) fun h8 =>
   some (true, h8)))))))
noncomputable def ann33 : Ann := .n
theorem f33_ok (N : Nat) : FnOK Tryz.prog 33 [(.one .ptr), (.one .str)] (.val (.one .bool)) (fun x h => f33 N x.1 x.2.1 h) :=
  runK_ok envOK hmix (addCall_ok (f29_ok N) noCalls_ok) (N := N) (x := ann33) (fn := Tryz.f33) (c := Tryz.f33.body.getD .skip) (by kernel_rfl) (by kernel_rfl) (by kernel_rfl) (by kernel_rfl) (fun _ _ => by kernel_rfl)

/- (*usufruct/parse.parser).behind -/
noncomputable def f71 (N : Nat) (a0 : Option (Nat × Nat)) (a1 : List UInt8) (h : Heap) : Option (Bool × Heap) :=
  (need a0 fun q1 =>
  (bindV (.val (.one .any)) (h.cell (q1.1, q1.2 + 3)) fun (x2 : AV) =>
  (bindV (.val (.one .bool)) (binA E .neq 29 (.tmp 9) (.const .nilIface) x2 AV.nilIface) fun (x3 : Bool) =>
  (bif x3 then
   some (false, h)
  else
   (bind2 (f9 N a0 h) fun (x4 : (Int × List UInt8 × Int × Unit)) h5 =>
   let x6 : Bool := !eqInt x4.1 1
   (bif x6 then
    some (false, h5)
   else
    (need a0 fun q7 =>
    (bindV (.val (.one .slice)) (h5.cell (q7.1, q7.2 + 0)) fun (x8 : SL) =>
    (need a0 fun q9 =>
    (bindV (.val (.one (.int .i64))) (h5.cell (q9.1, q9.2 + 1)) fun (x10 : Int) =>
    let x11 : Int := wrapA .i64 (x10 + 1)
    (ixK x8.a x8.len x11 3 fun q12 =>
    (bindV (.val (.agg [(.int .i64), .str, (.int .i64)])) (h5.cells q12 3) fun (x13 : (Int × List UInt8 × Int × Unit)) =>
    let h14 : Heap := h5.push (.row [(.int .i64 0), (.str []), (.int .i64 0)] .own)
    (need (h14.store (h5.next, 0) [(.int .i64 x13.1), (.str x13.2.1), (.int .i64 x13.2.2.1)]) fun h15 =>
    (guardB (bif (sameO (h14.cells q12 3) (.agg [(.int .i64 x13.1), (.str x13.2.1), (.int .i64 x13.2.2.1)])) then (bif (sameO (h5.cells q12 3) (.agg [(.int .i64 x13.1), (.str x13.2.1), (.int .i64 x13.2.2.1)])) then (bif (sameO (h14.cell (q9.1, q9.2 + 1)) (.int .i64 x10)) then (bif (sameO (h5.cell (q9.1, q9.2 + 1)) (.int .i64 x10)) then (bif (sameO (h14.cell (q7.1, q7.2 + 0)) (.slice x8.a x8.len x8.cap x8.sz)) then (bif (sameO (h5.cell (q7.1, q7.2 + 0)) (.slice x8.a x8.len x8.cap x8.sz)) then true else false) else false) else false) else false) else false) else false) (
    (bindV (.val (.one (.int .i64))) (h15.cell ((h5.next, 0).1, (h5.next, 0).2 + 0)) fun (x16 : Int) =>
    let x17 : Bool := eqInt x16 5
    (bif x17 then
     (bindV (.val (.one .str)) (h15.cell ((h5.next, 0).1, (h5.next, 0).2 + 1)) fun (x18 : List UInt8) =>
     let x19 : Bool := eqBytes x18 a1
     some (x19, h15))
    else
     some (false, h15))))))))))))))))))
noncomputable def ann71 : Ann := .n
theorem f71_ok (N : Nat) : FnOK Tryz.prog 71 [(.one .ptr), (.one .str)] (.val (.one .bool)) (fun x h => f71 N x.1 x.2.1 h) :=
  runK_ok envOK hmix (addCall_ok (f9_ok N) noCalls_ok) (N := N) (x := ann71) (fn := Tryz.f71) (c := Tryz.f71.body.getD .skip) (by kernel_rfl) (by kernel_rfl) (by kernel_rfl) (by kernel_rfl) (fun _ _ => by kernel_rfl)

/- (*usufruct/parse.parser).calls -/
noncomputable def f66 (N : Nat) (a0 : Option (Nat × Nat)) (h : Heap) : Option (Bool × Heap) :=
  (bind2 (f71 N a0 [58, 58] h) fun (x1 : Bool) h2 =>
  (bif x1 then
   some (true, h2)
  else
   (bind2 (f71 N a0 [40] h2) fun (x3 : Bool) h4 =>
   some (x3, h4))))
noncomputable def ann66 : Ann := .n
theorem f66_ok (N : Nat) : FnOK Tryz.prog 66 [(.one .ptr)] (.val (.one .bool)) (fun x h => f66 N x.1 h) :=
  runK_ok envOK hmix (addCall_ok (f71_ok N) noCalls_ok) (N := N) (x := ann66) (fn := Tryz.f66) (c := Tryz.f66.body.getD .skip) (by kernel_rfl) (by kernel_rfl) (by kernel_rfl) (by kernel_rfl) (fun _ _ => by kernel_rfl)

/- usufruct/usufructlaw1.Told -/
noncomputable def f5_l1_b (N : Nat) (go : Option (Nat × Nat) → Int → Int → Int → Heap → Option (Out × (Int × Int × Unit) × Heap)) (v4 : Option (Nat × Nat)) (v6 : Int) (v7 : Int) (v8 : Int) (h : Heap) : Option (Out × (Int × Int × Unit) × Heap) :=
  let x8 : Bool := ltInt v8 200
  (bif x8 then
   (need v4 fun q9 =>
   (bindV (.val (.one .any)) (h.cell (q9.1, q9.2 + 2)) fun (x10 : AV) =>
   (bindV (.tup [(.one .ptr), (.one .bool)]) (assertA E x10 67 true) fun (x11 : (Option (Nat × Nat) × Bool × Unit)) =>
   let x12 : Bool := !x11.2.1
   (bif x12 then
    some ((Out.exit 0), (v6, v7, ()), h)
   else
    (bif x11.1.isNone then
     some ((Out.exit 0), (v6, v7, ()), h)
    else
     (need x11.1 fun q13 =>
     (bindV (.val (.one (.int .i64))) (h.cell (q13.1, q13.2 + 1)) fun (x14 : Int) =>
     let x15 : Int := wrapA .i64 (v8 + 1)
     go x11.1 v6 x14 x15 h)))))))
  else
   some ((Out.exit 0), (v6, v7, ()), h))
noncomputable def f5_l1 (N M : Nat) (v4 : Option (Nat × Nat)) (v6 : Int) (v7 : Int) (v8 : Int) (h : Heap) : Option (Out × (Int × Int × Unit) × Heap) := iter (fun go s h => f5_l1_b N (fun v4 v6 v7 v8 h => go (v4, v6, v7, v8, ()) h) s.1 s.2.1 s.2.2.1 s.2.2.2.1 h) M (v4, v6, v7, v8, ()) h
theorem f5_l1_succ (N M : Nat) (v4 : Option (Nat × Nat)) (v6 : Int) (v7 : Int) (v8 : Int) (h : Heap) : f5_l1 N (M + 1) v4 v6 v7 v8 h = f5_l1_b N (f5_l1 N M) v4 v6 v7 v8 h := rfl
theorem f5_l1_zero (N : Nat) (v4 : Option (Nat × Nat)) (v6 : Int) (v7 : Int) (v8 : Int) (h : Heap) : f5_l1 N 0 v4 v6 v7 v8 h = none := rfl
noncomputable def f5 (N : Nat) (a0 : AV) (h : Heap) : Option ((Int × Int × Unit) × Heap) :=
  (bindV (.val (.one .bool)) (binA E .eql 29 (.tmp 11) (.const .nilIface) a0 AV.nilIface) fun (x1 : Bool) =>
  (bif x1 then
   some ((0, 0, ()), h)
  else
   (bindV (.tup [(.one .ptr), (.one .bool)]) (assertA E a0 67 true) fun (x2 : (Option (Nat × Nat) × Bool × Unit)) =>
   let x3 : Bool := !x2.2.1
   (bif x3 then
    some (((-1), 0, ()), h)
   else
    (bif x2.1.isNone then
     some (((-1), 0, ()), h)
    else
     (need x2.1 fun q4 =>
     (bindV (.val (.one (.int .i64))) (h.cell (q4.1, q4.2 + 0)) fun (x5 : Int) =>
     (need x2.1 fun q6 =>
     (bindV (.val (.one (.int .i64))) (h.cell (q6.1, q6.2 + 1)) fun (x7 : Int) =>
     (bind3 (f5_l1 N N x2.1 x5 x7 0 h) fun _ (j17 : (Int × Int × Unit)) h18 =>
     some ((j17.1, j17.2.1, ()), h18)))))))))))
noncomputable def ann5 : Ann := (.two .n (.two .n (.two .n (.two .n (.two .n (.two (.two .n (.two (.loop [(4, (.one .ptr)), (6, (.one (.int .i64))), (7, (.one (.int .i64))), (8, (.one (.int .i64)))] [(.exit 0)] [(6, (.one (.int .i64))), (7, (.one (.int .i64)))] .n) .n)) .n))))))
theorem f5_ok (N : Nat) : FnOK Tryz.prog 5 [(.one .any)] (.tup [(.one (.int .i64)), (.one (.int .i64))]) (fun x h => f5 N x.1 h) :=
  runK_ok envOK hmix noCalls_ok (N := N) (x := ann5) (fn := Tryz.f5) (c := Tryz.f5.body.getD .skip) (by kernel_rfl) (by kernel_rfl) (by kernel_rfl) (by kernel_rfl) (fun _ _ => by kernel_rfl)

/- usufruct/usufructlaw1.Is -/
noncomputable def f7 (N : Nat) (a0 : AV) (a1 : Int) (a2 : Int) (h : Heap) : Option (Bool × Heap) :=
  (bind2 (f5 N a0 h) fun (x1 : (Int × Int × Unit)) h2 =>
  let x3 : Bool := eqInt x1.1 a1
  (bif x3 then
   let x4 : Bool := eqInt x1.2.1 a2
   some (x4, h2)
  else
   some (false, h2)))
noncomputable def ann7 : Ann := .n
theorem f7_ok (N : Nat) : FnOK Tryz.prog 7 [(.one .any), (.one (.int .i64)), (.one (.int .i64))] (.val (.one .bool)) (fun x h => f7 N x.1 x.2.1 x.2.2.1 h) :=
  runK_ok envOK hmix (addCall_ok (f5_ok N) noCalls_ok) (N := N) (x := ann7) (fn := Tryz.f7) (c := Tryz.f7.body.getD .skip) (by kernel_rfl) (by kernel_rfl) (by kernel_rfl) (by kernel_rfl) (fun _ _ => by kernel_rfl)

/- usufruct/usufructref1.Ints -/
noncomputable def f13_l1_b (N : Nat) (go : SL → SL → Bool → Int → Heap → Option (Out × (Bool × Unit) × Heap)) (v0 : SL) (v1 : SL) (v4 : Bool) (v5 : Int) (h : Heap) : Option (Out × (Bool × Unit) × Heap) :=
  let x2 : Bool := ltInt v5 (Int.ofNat v0.len)
  (bif x2 then
   (ixK v0.a v0.len v5 1 fun q3 =>
   (bindV (.val (.one (.int .i64))) (h.cell q3) fun (x4 : Int) =>
   (ixK v1.a v1.len v5 1 fun q5 =>
   (bindV (.val (.one (.int .i64))) (h.cell q5) fun (x6 : Int) =>
   let x7 : Bool := !eqInt x4 x6
   (bif x7 then
    some (Out.ret, (false, ()), h)
   else
    let x8 : Int := wrapA .i64 (v5 + 1)
    go v0 v1 v4 x8 h)))))
  else
   some ((Out.exit 0), (v4, ()), h))
noncomputable def f13_l1 (N M : Nat) (v0 : SL) (v1 : SL) (v4 : Bool) (v5 : Int) (h : Heap) : Option (Out × (Bool × Unit) × Heap) := iter (fun go s h => f13_l1_b N (fun v0 v1 v4 v5 h => go (v0, v1, v4, v5, ()) h) s.1 s.2.1 s.2.2.1 s.2.2.2.1 h) M (v0, v1, v4, v5, ()) h
theorem f13_l1_succ (N M : Nat) (v0 : SL) (v1 : SL) (v4 : Bool) (v5 : Int) (h : Heap) : f13_l1 N (M + 1) v0 v1 v4 v5 h = f13_l1_b N (f13_l1 N M) v0 v1 v4 v5 h := rfl
theorem f13_l1_zero (N : Nat) (v0 : SL) (v1 : SL) (v4 : Bool) (v5 : Int) (h : Heap) : f13_l1 N 0 v0 v1 v4 v5 h = none := rfl
noncomputable def f13 (N : Nat) (a0 : SL) (a1 : SL) (h : Heap) : Option (Bool × Heap) :=
  let x1 : Bool := !eqInt (Int.ofNat a0.len) (Int.ofNat a1.len)
  (bif x1 then
   some (false, h)
  else
   (bind3 (f13_l1 N N a0 a1 false 0 h) fun o9 (j10 : (Bool × Unit)) h11 =>
   (bif eqOut o9 (.exit 0) then
    some (true, h11)
   else
    some (j10.1, h11))))
noncomputable def ann13 : Ann := (.two .n (.two .n (.two (.two .n (.two (.loop [(0, (.one .slice)), (1, (.one .slice)), (4, (.one .bool)), (5, (.one (.int .i64)))] [(.exit 0), .ret] [(4, (.one .bool))] .n) .n)) .n)))
theorem f13_ok (N : Nat) : FnOK Tryz.prog 13 [(.one .slice), (.one .slice)] (.val (.one .bool)) (fun x h => f13 N x.1 x.2.1 h) :=
  runK_ok envOK hmix noCalls_ok (N := N) (x := ann13) (fn := Tryz.f13) (c := Tryz.f13.body.getD .skip) (by kernel_rfl) (by kernel_rfl) (by kernel_rfl) (by kernel_rfl) (fun _ _ => by kernel_rfl)

/- usufruct/usufructlaw1.Places -/
noncomputable def f14_l1_b (N : Nat) (go : AV → SL → Int → Heap → Option (Out × (SL × Unit) × Heap)) (v0 : AV) (v3 : SL) (v4 : Int) (h : Heap) : Option (Out × (SL × Unit) × Heap) :=
  let x1 : Bool := ltInt v4 200
  (bif x1 then
   (bindV (.tup [(.one .ptr), (.one .bool)]) (assertA E v0 67 true) fun (x2 : (Option (Nat × Nat) × Bool × Unit)) =>
   let x3 : Bool := !x2.2.1
   (bif x3 then
    some ((Out.exit 0), (v3, ()), h)
   else
    (bif x2.1.isNone then
     some ((Out.exit 0), (v3, ()), h)
    else
     (need x2.1 fun q4 =>
     (bindV (.val (.one (.int .i64))) (h.cell (q4.1, q4.2 + 1)) fun (x5 : Int) =>
     let h6 : Heap := h.push (.row [(.int .i64 x5)] .own)
     (bindT (.val (.one .slice)) (appendA E 23 23 (.slice v3.a v3.len v3.cap v3.sz) (.slice (some (h.next, 0)) 1 1 1) h6) fun (x7 : SL) h8 =>
     (need x2.1 fun q9 =>
     (bindV (.val (.one .any)) (h8.cell (q9.1, q9.2 + 2)) fun (x10 : AV) =>
     let x11 : Int := wrapA .i64 (v4 + 1)
     go x10 x7 x11 h8))))))))
  else
   some ((Out.exit 0), (v3, ()), h))
noncomputable def f14_l1 (N M : Nat) (v0 : AV) (v3 : SL) (v4 : Int) (h : Heap) : Option (Out × (SL × Unit) × Heap) := iter (fun go s h => f14_l1_b N (fun v0 v3 v4 h => go (v0, v3, v4, ()) h) s.1 s.2.1 s.2.2.1 h) M (v0, v3, v4, ()) h
theorem f14_l1_succ (N M : Nat) (v0 : AV) (v3 : SL) (v4 : Int) (h : Heap) : f14_l1 N (M + 1) v0 v3 v4 h = f14_l1_b N (f14_l1 N M) v0 v3 v4 h := rfl
theorem f14_l1_zero (N : Nat) (v0 : AV) (v3 : SL) (v4 : Int) (h : Heap) : f14_l1 N 0 v0 v3 v4 h = none := rfl
noncomputable def f14 (N : Nat) (a0 : AV) (h : Heap) : Option (SL × Heap) :=
  (bind3 (f14_l1 N N a0 ⟨none, 0, 0, 0⟩ 0 h) fun _ (j13 : (SL × Unit)) h14 =>
  some (j13.1, h14))
noncomputable def ann14 : Ann := (.two .n (.two .n (.two (.two .n (.two (.loop [(0, (.one .any)), (3, (.one .slice)), (4, (.one (.int .i64)))] [(.exit 0)] [(3, (.one .slice))] .n) .n)) .n)))
theorem f14_ok (N : Nat) : FnOK Tryz.prog 14 [(.one .any)] (.val (.one .slice)) (fun x h => f14 N x.1 h) :=
  runK_ok envOK hmix noCalls_ok (N := N) (x := ann14) (fn := Tryz.f14) (c := Tryz.f14.body.getD .skip) (by kernel_rfl) (by kernel_rfl) (by kernel_rfl) (by kernel_rfl) (fun _ _ => by kernel_rfl)
end Go.Proofs.YtfhddjjjhpicoaaGreatDoor.Pb

open Go Go.Proofs.YtfhddjjjhpicoaaGreatDoor.Ai Go.Proofs
set_option maxRecDepth 100000
namespace Go.Proofs.YtfhddjjjhpicoaaGreatDoor.Pb
/-! the first evaluator, with the second one's functions as natives -/
noncomputable def callsP : CallK := (addCall 9 [(.one .ptr)] (.val (.agg [(.int .i64), .str, (.int .i64)])) (fun x h => f9 300 x.1 h) (addCall 29 [(.one .ptr), (.one (.int .i64)), (.one .str)] (.val (.one .bool)) (fun x h => f29 300 x.1 x.2.1 x.2.2.1 h) (addCall 33 [(.one .ptr), (.one .str)] (.val (.one .bool)) (fun x h => f33 300 x.1 x.2.1 h) (addCall 18 [(.one .ptr), (.one .str)] (.val (.one .bool)) (fun x h => f18 300 x.1 x.2.1 h) (addCall 8 [(.one .str)] (.tup [(.one .slice), (.one .any)]) (fun x h => f8 300 x.1 h) (addCall 71 [(.one .ptr), (.one .str)] (.val (.one .bool)) (fun x h => f71 300 x.1 x.2.1 h) (addCall 66 [(.one .ptr)] (.val (.one .bool)) (fun x h => f66 300 x.1 h) (addCall 15 [(.one (.int .i64)), (.one (.int .i64))] (.val (.one .any)) (fun x h => f15 300 x.1 x.2.1 h) (addCall 5 [(.one .any)] (.tup [(.one (.int .i64)), (.one (.int .i64))]) (fun x h => f5 300 x.1 h) (addCall 7 [(.one .any), (.one (.int .i64)), (.one (.int .i64))] (.val (.one .bool)) (fun x h => f7 300 x.1 x.2.1 x.2.2.1 h) (addCall 14 [(.one .any)] (.val (.one .slice)) (fun x h => f14 300 x.1 h) (addCall 13 [(.one .slice), (.one .slice)] (.val (.one .bool)) (fun x h => f13 300 x.1 x.2.1 h) noCalls))))))))))))
theorem callsP_ok : CallKOK Tryz.prog callsP := (addCall_ok (f9_ok 300) (addCall_ok (f29_ok 300) (addCall_ok (f33_ok 300) (addCall_ok (f18_ok 300) (addCall_ok (f8_ok 300) (addCall_ok (f71_ok 300) (addCall_ok (f66_ok 300) (addCall_ok (f15_ok 300) (addCall_ok (f5_ok 300) (addCall_ok (f7_ok 300) (addCall_ok (f14_ok 300) (addCall_ok (f13_ok 300) noCalls_ok))))))))))))
noncomputable def nat2 : FuncId → Option (List AV → Heap → Option (AV × Heap)) := natsOf [5, 7, 8, 9, 13, 14, 15, 18, 29, 33, 66, 71] callsP Pa.nat
theorem nat2_ok {cmp : List TypeId} : NativeOK (envOf Tryz.prog cmp nat2) Tryz.prog := natsOf_ok (cmp := []) callsP_ok Pa.natOK
noncomputable def E2 : Env := envOf Tryz.prog [] nat2
theorem E2_ok : EnvOK E2 Tryz.prog := envOf_ok (by kernel_rfl) (by kernel_rfl)
def h0 : Heap := { t := Tr.set .nil 0 (.row [Pa.hdl] .ro), next := 2, pins := [(0, Pa.loc0), (1, Pa.loc1)] }
theorem told_true : isTrueA (evCall E2 3000 6 [] h0) = true := by kernel_rfl
end Go.Proofs.YtfhddjjjhpicoaaGreatDoor.Pb

open Go Go.Proofs.YtfhddjjjhpicoaaGreatDoor.Ai Go.Proofs
open Go.RowKit (Below)
namespace Go.Proofs.YtfhddjjjhpicoaaGreatDoor.Ai
/-! a call, evaluated in two steps: some pieces of the code, then the rest from a frame that says less -/
def dropS : Nat → Code → Code
  | 0, c => c
  | k + 1, .seq _ b => dropS k b
  | _ + 1, c => c
def headsA (E : Env) (n nt : Nat) : Nat → Code → Fr → Heap → Option (Fr × Heap)
  | 0, _, fr, h => some (fr, h)
  | k + 1, .seq a b, fr, h => match ev E n nt a fr h with
    | some (.norm, fr', h') => headsA E n nt k b fr' h'
    | _ => none
  | _ + 1, _, _, _ => none
section
variable {E : Env} {P : Program}
theorem ev_code (ok : EnvOK E P) (hm : P.follows .mixedOrders = true) (hnat : NativeOK E P) : ∀ (n nt : Nat) c fr h out fr' h', ev E n nt c fr h = some (out, fr', h') → CodeOK nt fr h out fr' h' (fun Q a w => c.wp P Q a w) := by
  intro n nt c fr h out fr' h' hx
  cases n with
  | zero => simp [ev] at hx
  | succ n => exact evC_sound ok hm (call_sound ok hm hnat n).1 ((call_sound ok hm hnat n).2 nt) c fr h out fr' h' hx
theorem heads_wp (ok : EnvOK E P) (hm : P.follows .mixedOrders = true) (hnat : NativeOK E P) {n nt : Nat} : ∀ (k : Nat) (c : Code) (fr : Fr) (h : Heap) (fr1 : Fr) (h1 : Heap), headsA E n nt k c fr h = some (fr1, h1) →
    ∀ (μ : Mu) (w : World) (a : Act) (Q : Exit → Act → World → Prop), HR μ h w → AR μ nt fr a → (∀ μ' a' w', AR μ' nt fr1 a' → HR μ' h1 w' → Ext μ h w μ' h1 w' → (dropS k c).wp P Q a' w') → c.wp P Q a w
  | 0, c, fr, h, fr1, h1, hx, μ, w, a, Q, hr, ha, hq => by
    simp only [headsA, Option.some.injEq, Prod.mk.injEq] at hx
    obtain ⟨rfl, rfl⟩ := hx
    exact hq μ a w ha hr (Ext.refl μ h w)
  | k + 1, c, fr, h, fr1, h1, hx, μ, w, a, Q, hr, ha, hq => by
    cases c with
    | seq x y =>
      simp only [headsA] at hx
      split at hx
      · rename_i fr2 h2 he
        refine wp_seq (ev_code ok hm hnat n nt x fr h _ fr2 h2 he μ w a _ hr ha ?_)
        intro μ' a' w' ha' hr' hext
        exact heads_wp ok hm hnat k y fr2 h2 fr1 h1 hx μ' w' a' Q hr' ha' fun μ2 a2 w2 ha2 hr2 hext2 => hq μ2 a2 w2 ha2 hr2 (Ext.trans hr hext hext2)
      · cases hx
    | _ => simp [headsA] at hx
theorem call_split (ok : EnvOK E P) (hm : P.follows .mixedOrders = true) (hnat : NativeOK E P) {n : Nat} {f : FuncId} {fn : Func} {c : Code} (hf : E.fn f = some fn) (hb : fn.body = some c) {args : List AV} {h0 : Heap} (hle : Nat.ble args.length fn.ntmps = true)
    {k : Nat} {frk : Fr} {h : Heap} (hh : headsA E n fn.ntmps k c (initFr 0 args .nil) h0 = some (frk, h)) {fr2 : Fr} (hfl : FrLe fr2 frk) {v : AV} {h' : Heap} (hx : finishA E fn (ev E n fn.ntmps (dropS k c) fr2 h) = some (v, h'))
    {μ0 : Mu} {w0 : World} {args' : Array Value} (hr0 : HR μ0 h0 w0) (hv : VRs μ0 args args'.toList) : Calls P f args' w0 fun e w' => ∃ u, e = .returned u ∧ Post μ0 h0 w0 v h' u w' := by
  obtain ⟨hfp, hname⟩ := ok.fn f fn hf
  have hle' : args.length ≤ fn.ntmps := by simpa using hle
  refine calls_of_wp hfp hb ?_
  have hargs : args'.size = args.length := by simpa using hv.length
  refine heads_wp ok hm hnat k c _ h0 frk h hh μ0 w0 _ _ hr0 ?_ ?_
  · refine ⟨fun t x hx => ?_, by simp [hargs]; omega, rfl⟩
    rcases initFr_get args 0 .nil t x hx with ⟨_, h2⟩ | h2
    · obtain ⟨y, h3, h4⟩ := hv.get h2
      have h3' : args'[t]? = some y := by simpa using h3
      have hlt : t < args'.size := (Array.getElem?_eq_some_iff.1 h3').1
      have : (args' ++ Array.replicate (fn.ntmps - args'.size) undef).getD t undef = y := by
        simp only [Array.getD_eq_getD_getElem?]
        rw [Array.getElem?_append_left hlt, h3']; rfl
      rw [this]; exact h4
    · simp [Tr.get_nil] at h2
  intro μ a1 w ha1 hr hext0
  have ha2 := ha1.le hfl
  unfold finishA at hx
  split at hx
  · simp at hx
  · rename_i out fr1 h1 hne hev1
    refine ev_code ok hm hnat n fn.ntmps _ fr2 h out fr1 h1 hev1 μ w _ _ hr ha2 ?_
    intro μ' a' w' ha' hr' hext1
    have hext : Ext μ0 h0 w0 μ' h1 w' := Ext.trans hr0 hext0 hext1
    have hres : (exitOf out = .normal ∨ exitOf out = .ret) := by
      cases out with
      | norm => exact .inl rfl
      | ret => exact .inr rfl
      | exit id => exact (hne id rfl).elim
    have hfin : a'.defers = [] ∧ ∃ u, (results fn a'.tmps).run P w' = .ok u w' ∧ ∃ u', Ending.returned u = .returned u' ∧ Post μ0 h0 w0 v h' u' w' := by
      refine ⟨ha'.defers, ?_⟩
      cases hrs : resultsA E fr1 h1 fn.results.toList with
      | none => simp [hrs] at hx
      | some vs =>
        obtain ⟨us, g1, g2⟩ := results_sound (P := P) (g := fun | .tmp t => pure (a'.tmps.getD t undef) | .cell a t => do loadVar t (← asAddr (a'.tmps.getD a undef))) ok hr' ha' (fun _ => rfl) (fun _ _ => rfl) hrs
        have hrun : ∀ (r : Value), (if hs : us.toArray.size = 1 then us.toArray[0] else .tuple us.toArray) = r → (results fn a'.tmps).run P w' = .ok r w' := by
          intro r hr0
          have hmap : (fn.results.mapM (fun | .tmp t => pure (a'.tmps.getD t undef) | .cell a t => do loadVar t (← asAddr (a'.tmps.getD a undef)) : ResultVar → Sem Value)).run P w' = .ok us.toArray w' := by
            rw [Array.mapM_eq_mapM_toList, Sem.run_map, g1]; rfl
          unfold results
          exact (run_bind_ok (P := P) hmap).trans (by rw [← hr0]; rfl)
        have hul := g2.length
        simp only [hrs] at hx
        split at hx
        · rename_i x hvs
          simp only [Option.some.injEq] at hvs
          subst hvs
          simp only [Option.some.injEq, Prod.mk.injEq] at hx
          obtain ⟨rfl, rfl⟩ := hx
          simp only [VRs] at g2
          obtain ⟨y, ys, rfl, g3, rfl⟩ := g2
          exact ⟨y, hrun y (by simp), y, rfl, μ', g3, hr', hext⟩
        · rename_i vs' hne' hvs
          simp only [Option.some.injEq] at hvs
          subst hvs
          simp only [Option.some.injEq, Prod.mk.injEq] at hx
          obtain ⟨rfl, rfl⟩ := hx
          have hn1 : us.toArray.size ≠ 1 := by
            intro e
            have : vs.length = 1 := by rw [← hul]; simpa using e
            obtain ⟨z, rfl⟩ := List.length_eq_one_iff.1 this
            exact hne' z rfl
          exact ⟨.tuple us.toArray, hrun _ (by rw [dif_neg hn1]), _, rfl, μ', by simp only [VR]; exact ⟨_, rfl, by simpa using g2⟩, hr', hext⟩
        · rename_i hvs; simp at hvs
    rcases hres with e | e <;> rw [e] <;> exact hfin
  · simp at hx
end
end Go.Proofs.YtfhddjjjhpicoaaGreatDoor.Ai

open Go Go.Proofs.YtfhddjjjhpicoaaGreatDoor.Ai Go.Proofs
open Go.RowKit (Below)
set_option maxRecDepth 100000
namespace Go.Proofs.YtfhddjjjhpicoaaGreatDoor.Pb
open Pa
def μ0 : Mu := fun A => if A = 0 then some loc0 else if A = 1 then some loc1 else none
theorem μ0_inv {A : Nat} {l : Ai.Loc} (h : μ0 A = some l) : (A = 0 ∧ l = loc0) ∨ (A = 1 ∧ l = loc1) := by
  unfold μ0 at h
  split at h
  · cases h; exact .inl ⟨by assumption, rfl⟩
  · split at h
    · cases h; exact .inr ⟨by assumption, rfl⟩
    · cases h
theorem h0_inv {A : Nat} {b : Blk} (h : h0.t.get A = some b) : A = 0 ∧ b = .row [hdl] .ro := by
  rcases Tr.get_set h with h | ⟨_, h⟩
  · exact h
  · simp [Tr.get_nil] at h
theorem h0_rof : Rof h0 := by
  refine ⟨fun A b hA => ?_, fun A hA => ?_⟩
  · obtain ⟨_, rfl⟩ := h0_inv hA; exact ⟨_, rfl⟩
  · cases hb : h0.t.get A with
    | none => rfl
    | some b =>
      have := (h0_inv hb).1
      have h1 : (2 : Nat) ≤ A := hA
      omega
/-- the heap that the law's call begins with -/
theorem hr0_of {w : World} (hs : 7 < w.heap.size) {e : TypeId} (hsh : w.shape? 0 = some (e, 1)) (hc : w.cell? ⟨0, 0, none⟩ = some (.iface 130 (.agg #[.pointer (some ⟨7, 29, none⟩)]))) : HR μ0 h0 w := by
  refine ⟨fun A l hA => ?_, fun A B la lb ba bb hA hB gA gB _ _ hne => ?_, fun A l b hA hb => ?_, fun x hx => ?_⟩
  · rcases μ0_inv hA with ⟨rfl, rfl⟩ | ⟨rfl, rfl⟩
    · exact ⟨by show 0 < 2; omega, by show 0 < w.heap.size; omega⟩
    · exact ⟨by show 1 < 2; omega, hs⟩
  · exact absurd ((h0_inv gA).1.trans (h0_inv gB).1.symm) hne
  · obtain ⟨rfl, rfl⟩ := h0_inv hb
    rcases μ0_inv hA with ⟨_, rfl⟩ | ⟨h, _⟩
    · refine ⟨⟨e, hsh⟩, Nat.le_refl _, fun i x hx => ?_⟩
      cases i with
      | zero =>
        have : x = hdl := by simpa using hx.symm
        subst this
        refine ⟨_, hc, ?_⟩
        simp only [hdl, VR, VRs]
        exact ⟨_, rfl, _, rfl, _, [], rfl, ⟨loc1, rfl, rfl⟩, rfl⟩
      | succ i => simp at hx
    · cases h
  · rcases List.mem_cons.1 hx with rfl | hx
    · rfl
    · rw [List.mem_singleton.1 hx]; rfl
def pinned (h : Heap) : Bool := pinIn 0 loc0 h.pins && pinIn 1 loc1 h.pins && isRow (h.t.get 0) [hdl]
theorem hr0_from {μ : Mu} {h : Heap} {w : World} (hr : HR μ h w) (hp : pinned h = true) : HR μ0 h0 w := by
  simp only [pinned, Bool.and_eq_true] at hp
  obtain ⟨⟨b3, b4⟩, b5⟩ := hp
  have hm0 := hr.pin _ (pinIn_mem b3)
  have hm1 := hr.pin _ (pinIn_mem b4)
  have hrow : RowR μ w loc0 [hdl] := hr.blk 0 loc0 _ hm0 (isRow_eq b5)
  obtain ⟨y, h1, h2⟩ := hrow.cell 0 hdl rfl
  simp only [hdl, VR, VRs] at h2
  obtain ⟨z, rfl, cs1, rfl, u, us, h4, ⟨l, h5, rfl⟩, rfl⟩ := h2
  have hm1' : μ 1 = some loc1 := hm1
  rw [hm1'] at h5
  simp only [Option.some.injEq] at h5
  subst h5
  have : cs1 = #[.pointer (some ⟨7, 29, none⟩)] := by rw [← Array.toList_inj, h4]; rfl
  rw [this] at h1
  obtain ⟨e, he⟩ := hrow.shape
  exact hr0_of (hr.dom 1 loc1 hm1).2 he h1
def toldN : List AV → Heap → Option (AV × Heap)
  | [], h => bif pinned h then some (.bool true, h) else none
  | _, _ => none
theorem toldN_ok {args : List AV} {v : AV} {h h' : Heap} (hx : toldN args h = some (v, h')) {μ : Mu} {w : World} {args' : Array Value} (hr : HR μ h w) (hv : VRs μ args args'.toList) :
    (callFunc 6 args').run Tryz.prog w = .ok (.enter 6 args') w ∧ Calls Tryz.prog 6 args' w fun e w' => ∃ u, e = .returned u ∧ Post μ h w v h' u w' := by
  refine ⟨enter_of env0 (fn := Tryz.f6) (by kernel_rfl) (by kernel_rfl) _ _, ?_⟩
  unfold toldN at hx
  split at hx
  · cases hp : pinned _ with
    | false => rw [hp] at hx; cases hx
    | true =>
      rw [hp] at hx
      simp only [cond_true, Option.some.injEq, Prod.mk.injEq] at hx
      obtain ⟨rfl, rfl⟩ := hx
      have hr0 := hr0_from hr hp
      have hv0 : VRs μ0 [] args'.toList := by simpa [VRs] using hv
      cases ht : evCall E2 3000 6 [] h0 with
      | none => have := told_true; rw [ht] at this; cases this
      | some q =>
        obtain ⟨v2, h2⟩ := q
        have ht2 := told_true
        rw [ht] at ht2
        cases v2 <;> simp only [isTrueA, Bool.false_eq_true] at ht2
        subst ht2
        refine (evCall_sound E2_ok hmix nat2_ok (fn := Tryz.f6) (by kernel_rfl) (by kernel_rfl) ht hr0 hv0).mono ?_
        rintro e w' ⟨u, rfl, μ', h3, _, h5⟩
        have hbel := h0_rof.ext_below h5
        simp only [VR] at h3
        exact ⟨u, rfl, μ, by simp only [VR]; exact h3, hr.below hbel, Ext.of_below hbel⟩
  · cases hx
noncomputable def nat3 : FuncId → Option (List AV → Heap → Option (AV × Heap)) := fun f => bif Nat.beq f 6 then some toldN else nat2 f
theorem nat3_ok {cmp : List TypeId} : NativeOK (envOf Tryz.prog cmp nat3) Tryz.prog := by
  intro f g hg args h v h' hx μ w args' hr hv
  have hg' : nat3 f = some g := hg
  unfold nat3 at hg'
  cases hf : Nat.beq f 6 with
  | true =>
    rw [hf, cond_true] at hg'
    simp only [Option.some.injEq] at hg'
    subst hg'
    obtain rfl := Nat.eq_of_beq_eq_true hf
    exact .inr (toldN_ok hx hr hv)
  | false =>
    rw [hf, cond_false] at hg'
    exact nat2_ok (cmp := cmp) f g hg' args h v h' hx μ w args' hr hv
noncomputable def E3 : Env := envOf Tryz.prog [] nat3
theorem E3_ok : EnvOK E3 Tryz.prog := envOf_ok (by kernel_rfl) (by kernel_rfl)
noncomputable def cd : Code := Tryz.f3.body.getD .skip
noncomputable def hK : Heap := match headsA E3 3000 Tryz.f3.ntmps 4 cd (initFr 0 [.int .i64 0] .nil) h0 with
  | some p => p.2
  | none => h0
def nX (x : Int) : Int := (wrapA .i64 (x.tmod 20 + 20)).tmod 20
def lS : AV := .slice (some (2, 0)) 20 20 1
def kS : AV := .slice (some (3, 0)) 20 20 1
theorem heads_eq (x : Int) : (headsA E3 3000 Tryz.f3.ntmps 4 cd (initFr 0 [.int .i64 x] .nil) h0).map (fun p => (p.1.get 3, p.1.get 4, p.1.get 5, p.2)) = some (some lS, some kS, some (.int .i64 (nX x)), hK) := by kernel_rfl
def frn (n : Int) : Fr := ((Tr.set .nil 3 lS).set 4 kS).set 5 (.int .i64 n)
noncomputable def run (n : Int) : Option (AV × Heap) := finishA E3 Tryz.f3 (ev E3 3000 Tryz.f3.ntmps (dropS 4 cd) (frn n) hK)
end Go.Proofs.YtfhddjjjhpicoaaGreatDoor.Pb

set_option maxRecDepth 100000
open Go Go.Proofs.YtfhddjjjhpicoaaGreatDoor.Ai Go.Proofs
open Go.RowKit (Below)
namespace Go.Proofs.YtfhddjjjhpicoaaGreatDoor.Pb
theorem k_0 : isTrueA (run 0) = true := by kernel_rfl
theorem k_1 : isTrueA (run 1) = true := by kernel_rfl
theorem k_2 : isTrueA (run 2) = true := by kernel_rfl
theorem k_3 : isTrueA (run 3) = true := by kernel_rfl
theorem k_4 : isTrueA (run 4) = true := by kernel_rfl
theorem k_5 : isTrueA (run 5) = true := by kernel_rfl
theorem k_6 : isTrueA (run 6) = true := by kernel_rfl
theorem k_7 : isTrueA (run 7) = true := by kernel_rfl
theorem k_8 : isTrueA (run 8) = true := by kernel_rfl
theorem k_9 : isTrueA (run 9) = true := by kernel_rfl
theorem k_10 : isTrueA (run 10) = true := by kernel_rfl
theorem k_11 : isTrueA (run 11) = true := by kernel_rfl
theorem k_12 : isTrueA (run 12) = true := by kernel_rfl
theorem k_13 : isTrueA (run 13) = true := by kernel_rfl
theorem k_14 : isTrueA (run 14) = true := by kernel_rfl
theorem k_15 : isTrueA (run 15) = true := by kernel_rfl
theorem k_16 : isTrueA (run 16) = true := by kernel_rfl
theorem k_17 : isTrueA (run 17) = true := by kernel_rfl
theorem k_18 : isTrueA (run 18) = true := by kernel_rfl
theorem k_19 : isTrueA (run 19) = true := by kernel_rfl
theorem k_all : ∀ n : Nat, n < 20 → isTrueA (run (n : Int)) = true
  | 0, _ => k_0
  | 1, _ => k_1
  | 2, _ => k_2
  | 3, _ => k_3
  | 4, _ => k_4
  | 5, _ => k_5
  | 6, _ => k_6
  | 7, _ => k_7
  | 8, _ => k_8
  | 9, _ => k_9
  | 10, _ => k_10
  | 11, _ => k_11
  | 12, _ => k_12
  | 13, _ => k_13
  | 14, _ => k_14
  | 15, _ => k_15
  | 16, _ => k_16
  | 17, _ => k_17
  | 18, _ => k_18
  | 19, _ => k_19
  | n + 20, h => by omega
theorem nX_lt (x : Int) : ∃ n : Nat, n < 20 ∧ nX x = (n : Int) := by
  have h1 : -20 < x.tmod 20 ∧ x.tmod 20 < 20 := by
    have a := Int.tmod_lt_of_pos x (show (0 : Int) < 20 by omega)
    have b := Int.tmod_lt_of_pos (-x) (show (0 : Int) < 20 by omega)
    rw [Int.neg_tmod] at b
    omega
  have h2 : wrapA .i64 (x.tmod 20 + 20) = x.tmod 20 + 20 := wrapA_small (by omega) (by omega)
  have h3 : nX x = (x.tmod 20 + 20).tmod 20 := by unfold nX; rw [h2]
  have h4 : 0 ≤ (x.tmod 20 + 20).tmod 20 := Int.tmod_nonneg 20 (by omega)
  have h5 : (x.tmod 20 + 20).tmod 20 < 20 := Int.tmod_lt_of_pos _ (by omega)
  exact ⟨((x.tmod 20 + 20).tmod 20).toNat, by omega, by rw [h3]; omega⟩
theorem known_calls (x : Int) {w : World} (hr : HR μ0 h0 w) : Calls Tryz.prog 3 #[.int .i64 x] w fun e w' => e = .returned (.bool true) ∧ Below w.heap.size w w' := by
  obtain ⟨n, hn, hx⟩ := nX_lt x
  have hh := heads_eq x
  cases hq : headsA E3 3000 Tryz.f3.ntmps 4 cd (initFr 0 [.int .i64 x] .nil) h0 with
  | none => rw [hq] at hh; cases hh
  | some p =>
    obtain ⟨frk, h⟩ := p
    rw [hq] at hh
    simp only [Option.map_some, Option.some.injEq, Prod.mk.injEq] at hh
    obtain ⟨g3, g4, g5, rfl⟩ := hh
    have hle : FrLe (frn (n : Int)) frk := by
      intro i v hv
      rcases Tr.get_set hv with ⟨rfl, rfl⟩ | ⟨_, hv⟩
      · rw [g5, hx]
      · rcases Tr.get_set hv with ⟨rfl, rfl⟩ | ⟨_, hv⟩
        · exact g4
        · rcases Tr.get_set hv with ⟨rfl, rfl⟩ | ⟨_, hv⟩
          · exact g3
          · simp [Tr.get_nil] at hv
    have hk := k_all n hn
    cases hrun : run (n : Int) with
    | none => rw [hrun] at hk; cases hk
    | some q =>
      obtain ⟨v, h'⟩ := q
      rw [hrun] at hk
      cases v <;> simp only [isTrueA, Bool.false_eq_true] at hk
      subst hk
      refine (call_split E3_ok hmix nat3_ok (fn := Tryz.f3) (c := cd) (by kernel_rfl) (by kernel_rfl) (args := [.int .i64 x]) (by kernel_rfl) hq hle hrun hr (args' := #[.int .i64 x]) (VRs.cons (by simp only [VR]) VRs.nil)).mono ?_
      rintro e w' ⟨u, rfl, μ', h3, _, h5⟩
      simp only [VR] at h3
      exact ⟨by rw [h3], h0_rof.ext_below h5⟩
end Go.Proofs.YtfhddjjjhpicoaaGreatDoor.Pb

set_option maxRecDepth 100000
open Go Go.Proofs.YtfhddjjjhpicoaaGreatDoor.Ai Go.Proofs
open Go.ChangeShapes Go.WideShapes
namespace Go.Proofs.YtfhddjjjhpicoaaGreatDoor.Pb
open Go.Proofs.YtfhddjjjhpicoaaGreatDoor
/-! what the row lists gives the call's heap -/
theorem et : Tryz.prog.globalNamed "errors.errorType" = some 0 := by kernel_rfl
theorem rt : (Tryz.prog.cutTypes.find? (·.1 == "internal/reflectlite.rtype")).map (·.2) = some 130 := by kernel_rfl
theorem oneRow : ((List.range 206).filter fun t => Tryz.prog.rowNamed t [101, 114, 114, 111, 114]) = [29] := by kernel_rfl
theorem tsize : Tryz.prog.types.size = 206 := by kernel_rfl
theorem hand : typeHandle Tryz.prog 29 = .pointer (some ⟨7, 29, none⟩) := by kernel_rfl
theorem var_of {W : World} (h : laidMetH Tryz.prog Rows.parseKnownRow.laid W) : W.var? Tryz.prog "errors.errorType" = some #[.iface 130 (.agg #[.pointer (some ⟨7, 29, none⟩)])] := by
  have h' : laidMet Tryz.prog (Rows.parseKnownRow.laid.filter fun x => x.2.handleName?.isNone) W ∧ handlesMet Tryz.prog [("errors.errorType", Rows.laid_errors_errorType)] W := h
  have h2 := h'.2 _ (List.mem_singleton.2 rfl)
  obtain ⟨name, u, ty, e1, e2, e3, e4, e5⟩ := h2
  have en : name = [101, 114, 114, 111, 114] := (Option.some.inj e1).symm
  subst en
  obtain rfl := Option.some.inj (rt.symm.trans e2)
  have hm : ty ∈ (List.range 206).filter fun t => Tryz.prog.rowNamed t [101, 114, 114, 111, 114] := List.mem_filter.2 ⟨List.mem_range.2 (by rw [← tsize]; exact e3), e4⟩
  rw [oneRow] at hm
  obtain rfl := List.mem_singleton.1 hm
  rw [hand] at e5
  exact e5
theorem big : 7 < (begin Tryz.prog (fun _ _ => 0) default).world.heap.size := by
  have : Nat.blt 7 (begin Tryz.prog (fun _ _ => 0) default).world.heap.size = true := by kernel_rfl
  simpa [Nat.blt_eq] using this
theorem gsize : Tryz.prog.globals.size = 7 := by kernel_rfl
theorem start_hr {W : World} (h : laidMetH Tryz.prog Rows.parseKnownRow.laid W) (hs : W.ShapedOpen Tryz.prog) : HR μ0 h0 W := by
  have hv := var_of h
  have hc : W.cell? ⟨0, 0, none⟩ = some (.iface 130 (.agg #[.pointer (some ⟨7, 29, none⟩)])) := by simpa using World.var?_cell et hv 0
  obtain ⟨o, _, ho, _⟩ := hs.2 7 (by rw [gsize]; omega) big
  have h7 : 7 < W.heap.size := (Array.getElem?_eq_some_iff.1 ho).1
  unfold World.var? at hv
  rw [et] at hv
  have hv : (match W.heap[0]? with | some (Obj.cells cs _ _) => some cs | _ => (Option.none : Option (Array Value))) = some #[Value.iface 130 (.agg #[.pointer (some ⟨7, 29, none⟩)])] := hv
  cases hq : W.heap[0]? with
  | none => rw [hq] at hv; cases hv
  | some o =>
    rw [hq] at hv
    cases o with
    | cells cs e fz =>
      simp only [Option.some.injEq] at hv
      subst hv
      exact hr0_of h7 (e := e) (by simp only [World.shape?, hq]; rfl) hc
    | _ => cases hv
end Go.Proofs.YtfhddjjjhpicoaaGreatDoor.Pb
