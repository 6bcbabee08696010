import Derived.Test.YtkcjphhjmlienaaGreatDoorProg
import Derived.WalkKit
import Derived.LaidEql
import Derived.Stop.Asserts
import Derived.RowKitTokens
import Derived.Test.YtkcjphhjmlienaaGreatDoorAi3
import Derived.Laws.Externs
import Derived.Test.YtkcjphhjmlienaaGreatDoorAi4
/- Functions of the program as plain functions, and what they come to; part 1. -/
set_option linter.unusedVariables false
set_option linter.unusedSimpArgs false
open Go Go.Proofs
namespace Go.Proofs.YtkcjphhjmlienaaGreatDoor.Qa
open Go.RowKit Go.Extern.Stop Go.Stop Go.Extern
/-! errors.As at a target of type **api.Fault, an error of type *api.Fault: Go's own text walked (after the guide's toy of it) -/
theorem as_valueOf27 (t : Addr) (w : World) : (ReflectliteValue.unpack (.iface 214 (.pointer (some t)))).run Tryz.prog w
    = .ok (.agg #[.pointer (some ⟨7, 214, none⟩), .pointer (some ⟨w.heap.size, 0, none⟩), .int .u64 150]) (w.alloc (.cells #[.pointer (some t)] 214)) := by kernel_rfl
theorem as_type27 (a : Addr) (w : World) : (ReflectliteValue.methodAny (ReflectliteValue.valueError "reflectlite.Value.Type" 0) (fun t _ _ _ => ReflectliteType.toType t) #[.agg #[.pointer (some ⟨7, 214, none⟩), .pointer (some a), .int .u64 150]]).run Tryz.prog w
    = .ok (.iface 232 (.agg #[.pointer (some ⟨7, 214, none⟩)])) w := by kernel_rfl
theorem as_methodKind (h : Value) (w : World) : (Go.method 406 232 (.agg #[h]) "Kind").run Tryz.prog w = .ok (278, h) w := by kernel_rfl
theorem as_kind27 (w : World) : ((ReflectliteType.abiMethod fun t => Functor.map (fun a : Nat => Value.int IntKind.u8 (a : Int)) (Rtype.kind t)) #[.pointer (some ⟨7, 214, none⟩)]).run Tryz.prog w = .ok (.int .u8 22) w := by kernel_rfl
theorem as_kind25 (w : World) : ((ReflectliteType.abiMethod fun t => Functor.map (fun a : Nat => Value.int IntKind.u8 (a : Int)) (Rtype.kind t)) #[.pointer (some ⟨7, 127, none⟩)]).run Tryz.prog w = .ok (.int .u8 22) w := by kernel_rfl

theorem rlm (z : Sem Value) (f : TypeId → Addr → Nat → Nat → Sem Value) (v : Value) :
    ReflectliteValue.method z f #[v] = (do match ← ReflectliteValue.parts v with | none => z | some (t, a, fl) => f t a fl (fl % 32)) := rfl
theorem as_parts27 (a : Addr) (w : World) : (ReflectliteValue.parts (.agg #[.pointer (some ⟨7, 214, none⟩), .pointer (some a), .int .u64 150])).run Tryz.prog w = .ok (some (214, a, 150)) w := by kernel_rfl
theorem as_isNil27 (a p : Addr) (W : World) (ha : W.cell? a = some (.pointer (some p))) :
    (ReflectliteValue.method (ReflectliteValue.valueError "reflectlite.Value.IsNil" 0) ReflectliteValue.isNil #[.agg #[.pointer (some ⟨7, 214, none⟩), .pointer (some a), .int .u64 150]]).run Tryz.prog W = .ok (.bool false) W := by
  rw [rlm]
  simp only [Sem.run_bind, as_parts27, Result.andThen]
  simp [ReflectliteValue.isNil, loadVar, isAgg, underlying, Tryz.underlying214, ha, Result.andThen]

theorem as_methodElem (h : Value) (w : World) : (Go.method 406 232 (.agg #[h]) "Elem").run Tryz.prog w = .ok (291, .agg #[h]) w := by kernel_rfl
theorem as_methodImplements (h : Value) (w : World) : (Go.method 406 232 (.agg #[h]) "Implements").run Tryz.prog w = .ok (292, .agg #[h]) w := by kernel_rfl
theorem as_methodAssignableTo (h : Value) (w : World) : (Go.method 406 232 (.agg #[h]) "AssignableTo").run Tryz.prog w = .ok (289, .agg #[h]) w := by kernel_rfl
theorem as_elem27 (w : World) : (ReflectliteType.method ReflectliteType.elem #[.agg #[.pointer (some ⟨7, 214, none⟩)]]).run Tryz.prog w = .ok (.iface 232 (.agg #[.pointer (some ⟨7, 127, none⟩)])) w := by kernel_rfl
theorem as_implements25 (w : World) : (ReflectliteType.relation "Implements" ReflectliteType.implements_ #[.agg #[.pointer (some ⟨7, 127, none⟩)], .iface 232 (.agg #[.pointer (some ⟨7, 29, none⟩)])]).run Tryz.prog w = .ok (.bool true) w := by kernel_rfl
theorem as_typeOf25 (v : Value) (w : World) : (ReflectliteType.typeOf #[.iface 127 v]).run Tryz.prog w = .ok (.iface 232 (.agg #[.pointer (some ⟨7, 127, none⟩)])) w := by kernel_rfl
theorem as_assignable25 (w : World) : (ReflectliteType.relation "AssignableTo" ReflectliteType.assignableTo #[.agg #[.pointer (some ⟨7, 127, none⟩)], .iface 232 (.agg #[.pointer (some ⟨7, 127, none⟩)])]).run Tryz.prog w = .ok (.bool true) w := by kernel_rfl
theorem as_valueOf25 (e : Addr) (w : World) : (ReflectliteValue.unpack (.iface 127 (.pointer (some e)))).run Tryz.prog w
    = .ok (.agg #[.pointer (some ⟨7, 127, none⟩), .pointer (some ⟨w.heap.size, 0, none⟩), .int .u64 150]) (w.alloc (.cells #[.pointer (some e)] 127)) := by kernel_rfl

theorem as_elemOf27 (w : World) : (Rtype.elem? 214).run Tryz.prog w = .ok (some 127) w := by kernel_rfl
theorem as_mk25 (p : Addr) (w : World) : (ReflectliteValue.mk 127 p ReflectliteValue.flagAddr).run Tryz.prog w = .ok (.agg #[.pointer (some ⟨7, 127, none⟩), .pointer (some p), .int .u64 406]) w := by kernel_rfl
theorem as_elemV27 (a p : Addr) (W : World) (ha : W.cell? a = some (.pointer (some p))) :
    (ReflectliteValue.method (ReflectliteValue.valueError "reflectlite.Value.Elem" 0) ReflectliteValue.elem #[.agg #[.pointer (some ⟨7, 214, none⟩), .pointer (some a), .int .u64 150]]).run Tryz.prog W
      = .ok (.agg #[.pointer (some ⟨7, 127, none⟩), .pointer (some p), .int .u64 406]) W := by
  rw [rlm]
  simp only [Sem.run_bind, as_parts27, Result.andThen]
  simp [ReflectliteValue.elem, loadVar, isAgg, underlying, Tryz.underlying214, ha, Result.andThen, as_elemOf27, as_mk25]
theorem rls (v x : Value) : ReflectliteValue.set #[v, x] = (do
    let (some (dst, a, fl), some (src, b, _)) := (← ReflectliteValue.parts v, ← ReflectliteValue.parts x)
      | unsupported (.noEntry "extern/(internal/reflectlite.Value).Set.zeroValue")
    if fl / ReflectliteValue.flagAddr % 2 == 0 then unsupported (.noEntry "extern/(internal/reflectlite.Value).Set.unaddressable")
    let val ← loadVar src b
    if ← Rtype.directlyAssignable dst src then storeVar dst a val
    else if ← Rtype.implements dst src then
      if (← Rtype.kind src) == 20 then
        match val with
        | .nilIface => unsupported (.noEntry "extern/reflectlite: a nil value of one interface type handed on as a value of another")
        | _ => storeVar dst a val
      else storeVar dst a (.iface src val)
    else panicString ("reflectlite.Set: value of type " ++ (← Rtype.spelt src) ++ " is not assignable to type " ++ (← Rtype.spelt dst))
    pure (.tuple #[])) := rfl
theorem as_parts25a (a : Addr) (w : World) : (ReflectliteValue.parts (.agg #[.pointer (some ⟨7, 127, none⟩), .pointer (some a), .int .u64 406])).run Tryz.prog w = .ok (some (127, a, 406)) w := by kernel_rfl
theorem as_parts25 (a : Addr) (w : World) : (ReflectliteValue.parts (.agg #[.pointer (some ⟨7, 127, none⟩), .pointer (some a), .int .u64 150])).run Tryz.prog w = .ok (some (127, a, 150)) w := by kernel_rfl
theorem as_direct25 (w : World) : (Rtype.directlyAssignable 127 127).run Tryz.prog w = .ok true w := by kernel_rfl
theorem as_size25 (w : World) : (Go.sizeOf 127).run Tryz.prog w = .ok 1 w := by kernel_rfl
theorem as_set25 (ta b e : Addr) (old : Value) (W : World) (hb : W.cell? b = some (.pointer (some e))) (ht : W.cell? ta = some old) (hf : W.frozen? ta = false) :
    (ReflectliteValue.set #[.agg #[.pointer (some ⟨7, 127, none⟩), .pointer (some ta), .int .u64 406], .agg #[.pointer (some ⟨7, 127, none⟩), .pointer (some b), .int .u64 150]]).run Tryz.prog W
      = .ok (.tuple #[]) (W.setCell ta (.pointer (some e))) := by
  rw [rls]
  simp only [Sem.run_bind, as_parts25a, as_parts25, Result.andThen]
  simp [ReflectliteValue.flagAddr, loadVar, isAgg, underlying, Tryz.underlying127, hb, Result.andThen, as_direct25, storeVar, Value.cells, storeCells, Addr.add]
  rw [run_store Tryz.prog W ta _ _ (by rfl)]
  simp [ht, hf]

set_option maxRecDepth 100000 in
set_option maxHeartbeats 4000000 in
theorem as_hit (e t : Addr) (old : Value) (w : World) (hg : w.cell? ⟨1, 0, none⟩ = some (.iface 232 (.agg #[.pointer (some ⟨7, 29, none⟩)]))) (ht0 : w.cell? t = some old) (hf0 : w.frozen? t = false) :
    Calls Tryz.prog 192 #[.iface 127 (.pointer (some e)), .iface 214 (.pointer (some t))] w fun ev w' => ev = .returned (.bool true) ∧ w' = ((((w.alloc (.cells #[.pointer (some t)] 214)).alloc (.cells #[.pointer (some ⟨7, 214, none⟩), .pointer (some ⟨w.heap.size, 0, none⟩), .int .u64 150] 217)).alloc (.cells #[.pointer (some ⟨7, 214, none⟩), .pointer (some ⟨w.heap.size, 0, none⟩), .int .u64 150] 217)).alloc (.cells #[.pointer (some e)] 127)).setCell t (.pointer (some e)) := by
  have h6 := @run_callFunc_extern Tryz.prog 210 _ (fun args => ReflectliteValue.unpack (args.getD 0 (.tuple #[]))) Tryz.func210 (by kernel_rfl) (by kernel_rfl) (by kernel_rfl) (by kernel_rfl)
  have h7 := @run_callFunc_extern Tryz.prog 211 _ (ReflectliteValue.methodAny (ReflectliteValue.valueError "reflectlite.Value.Type" 0) (fun t _ _ _ => ReflectliteType.toType t)) Tryz.func211 (by kernel_rfl) (by kernel_rfl) (by kernel_rfl) (by kernel_rfl)
  have h8 := @run_callFunc_extern Tryz.prog 212 _ (ReflectliteValue.method (ReflectliteValue.valueError "reflectlite.Value.IsNil" 0) ReflectliteValue.isNil) Tryz.func212 (by kernel_rfl) (by kernel_rfl) (by kernel_rfl) (by kernel_rfl)
  have h27 := @run_callFunc_extern Tryz.prog 278 _ (ReflectliteType.abiMethod fun t => do pure (.int .u8 (← Rtype.kind t))) Tryz.func278 (by kernel_rfl) (by kernel_rfl) (by kernel_rfl) (by kernel_rfl)
  have h37 := @run_callFunc_extern Tryz.prog 291 _ (ReflectliteType.method ReflectliteType.elem) Tryz.func291 (by kernel_rfl) (by kernel_rfl) (by kernel_rfl) (by kernel_rfl)
  have h38 := @run_callFunc_extern Tryz.prog 292 _ (ReflectliteType.relation "Implements" ReflectliteType.implements_) Tryz.func292 (by kernel_rfl) (by kernel_rfl) (by kernel_rfl) (by kernel_rfl)
  have h10 := @run_callFunc_extern Tryz.prog 224 _ ReflectliteType.typeOf Tryz.func224 (by kernel_rfl) (by kernel_rfl) (by kernel_rfl) (by kernel_rfl)
  have h35 := @run_callFunc_extern Tryz.prog 289 _ (ReflectliteType.relation "AssignableTo" ReflectliteType.assignableTo) Tryz.func289 (by kernel_rfl) (by kernel_rfl) (by kernel_rfl) (by kernel_rfl)
  have h11 := @run_callFunc_extern Tryz.prog 225 _ (ReflectliteValue.method (ReflectliteValue.valueError "reflectlite.Value.Elem" 0) ReflectliteValue.elem) Tryz.func225 (by kernel_rfl) (by kernel_rfl) (by kernel_rfl) (by kernel_rfl)
  have h12 := @run_callFunc_extern Tryz.prog 226 _ ReflectliteValue.set Tryz.func226 (by kernel_rfl) (by kernel_rfl) (by kernel_rfl) (by kernel_rfl)
  have tO := as_typeOf25
  have mA := as_methodAssignableTo
  have a25 := as_assignable25
  have v25 := as_valueOf25
  have f6 := as_valueOf27
  have f7 := as_type27
  have mK := as_methodKind
  have mE := as_methodElem
  have mI := as_methodImplements
  have k27 := as_kind27
  have k25 := as_kind25
  have e27 := as_elem27
  have i25 := as_implements25
  have n8 := as_isNil27 ⟨w.heap.size, 0, none⟩ t ((w.alloc (.cells #[.pointer (some t)] 214)).alloc (.cells #[.pointer (some ⟨7, 214, none⟩), .pointer (some ⟨w.heap.size, 0, none⟩), .int .u64 150] 217)) (by simp)
  have hlt : 1 < w.heap.size := by
    rcases Nat.lt_or_ge 1 w.heap.size with h | h
    · exact h
    · simp [World.cell?, Array.getElem?_eq_none h] at hg
  have hg2 : ((w.alloc (.cells #[.pointer (some t)] 214)).alloc (.cells #[.pointer (some ⟨7, 214, none⟩), .pointer (some ⟨w.heap.size, 0, none⟩), .int .u64 150] 217)).cell? ⟨1, 0, none⟩ = some (.iface 232 (.agg #[.pointer (some ⟨7, 29, none⟩)])) := by
    rw [World.cell?_alloc_lt _ _ ⟨1, 0, none⟩ (by simp; omega), World.cell?_alloc_lt _ _ ⟨1, 0, none⟩ hlt]; exact hg
  have htl : t.block < w.heap.size := by
    rcases Nat.lt_or_ge t.block w.heap.size with h | h
    · exact h
    · simp [World.cell?, Array.getElem?_eq_none h] at ht0
  have el := as_elemV27 ⟨w.heap.size, 0, none⟩ t (((w.alloc (.cells #[.pointer (some t)] 214)).alloc (.cells #[.pointer (some ⟨7, 214, none⟩), .pointer (some ⟨w.heap.size, 0, none⟩), .int .u64 150] 217)).alloc (.cells #[.pointer (some ⟨7, 214, none⟩), .pointer (some ⟨w.heap.size, 0, none⟩), .int .u64 150] 217)) (by rw [World.cell?_alloc_lt _ _ ⟨w.heap.size, 0, none⟩ (by simp; omega)]; simp)
  have st := as_set25 t ⟨w.heap.size + 1 + 1 + 1, 0, none⟩ e old ((((w.alloc (.cells #[.pointer (some t)] 214)).alloc (.cells #[.pointer (some ⟨7, 214, none⟩), .pointer (some ⟨w.heap.size, 0, none⟩), .int .u64 150] 217)).alloc (.cells #[.pointer (some ⟨7, 214, none⟩), .pointer (some ⟨w.heap.size, 0, none⟩), .int .u64 150] 217)).alloc (.cells #[.pointer (some e)] 127))
    (by rw [World.cell?_alloc_at _ _ _ _ (by simp)]; rfl)
    (by rw [World.cell?_alloc_lt _ _ t (by simp; omega), World.cell?_alloc_lt _ _ t (by simp; omega), World.cell?_alloc_lt _ _ t (by simp; omega), World.cell?_alloc_lt _ _ t htl]; exact ht0)
    (by rw [World.frozen?_alloc_old _ _ t (by simp; omega), World.frozen?_alloc_old _ _ t (by simp; omega), World.frozen?_alloc_old _ _ t (by simp; omega), World.frozen?_alloc_old _ _ t (Nat.ne_of_lt htl)]; exact hf0)
  go_enter Tryz.func192, Tryz.ntmps192
  go_wp2
  refine wp_loop_rounds 1 ?_
  rw [rounds_succ]
  go_wp2
  go_ret
  exact ⟨rfl, rfl⟩

end Go.Proofs.YtkcjphhjmlienaaGreatDoor.Qa

open Go Go.Proofs.YtkcjphhjmlienaaGreatDoor.Ai Go.Proofs
open Go.RowKit (Below)
namespace Go.Proofs.YtkcjphhjmlienaaGreatDoor.Qa
/-! errors.As and IndexByteString for the evaluator -/
def hdl : AV := .iface 232 (.agg [.ptr (some (1, 0))])
def loc0 : Ai.Loc := ⟨1, 0, 1, false⟩
def loc1 : Ai.Loc := ⟨7, 29, 30, false⟩
def locEq (a b : Ai.Loc) : Bool := Nat.beq a.b b.b && Nat.beq a.sh b.sh && Nat.beq a.tot b.tot && (bif a.ex then b.ex else !b.ex)
def pinIn (A : Nat) (l : Ai.Loc) : List (Nat × Ai.Loc) → Bool
  | [] => false
  | x :: r => (Nat.beq x.1 A && locEq x.2 l) || pinIn A l r
def isRow (b : Option Blk) (cs : List AV) : Bool := match b with
  | some (.row cs' .ro) => eqV (.agg cs') (.agg cs)
  | _ => false
theorem locEq_eq {a b : Ai.Loc} (h : locEq a b = true) : a = b := by
  obtain ⟨a1, a2, a3, a4⟩ := a
  obtain ⟨b1, b2, b3, b4⟩ := b
  simp only [locEq, Bool.and_eq_true] at h
  obtain ⟨⟨⟨h1, h2⟩, h3⟩, h4⟩ := h
  obtain rfl := Nat.eq_of_beq_eq_true h1
  obtain rfl := Nat.eq_of_beq_eq_true h2
  obtain rfl := Nat.eq_of_beq_eq_true h3
  have : a4 = b4 := by cases a4 <;> cases b4 <;> simp_all
  rw [this]
theorem pinIn_mem {A : Nat} {l : Ai.Loc} : ∀ {p : List (Nat × Ai.Loc)}, pinIn A l p = true → (A, l) ∈ p
  | [], h => by cases h
  | x :: r, h => by
    simp only [pinIn, Bool.or_eq_true, Bool.and_eq_true] at h
    rcases h with ⟨h1, h2⟩ | h
    · have e1 := Nat.eq_of_beq_eq_true h1
      have e2 := locEq_eq h2
      obtain ⟨x1, x2⟩ := x
      simp only at e1 e2
      rw [e1, e2]; exact List.mem_cons_self
    · exact List.mem_cons_of_mem _ (pinIn_mem h)
theorem isRow_eq {b : Option Blk} {cs : List AV} (h : isRow b cs = true) : b = some (.row cs .ro) := by
  unfold isRow at h
  split at h
  · have := eqV_eq _ _ h
    simp only [AV.agg.injEq] at this
    rw [this]
  · cases h
def rowOG (h : Heap) (A : Nat) : Option (List AV × BState) := match h.t.get A with
  | some (.row cs st) => match st with
    | .own => some (cs, st)
    | .grown => some (cs, st)
    | _ => none
  | _ => none
def asN : List AV → Heap → Option (AV × Heap)
  | [.iface t (.ptr (some p)), .iface t' (.ptr (some (A, off)))], h =>
    bif Nat.beq t 127 && Nat.beq t' 214 && pinIn 0 loc0 h.pins && pinIn 1 loc1 h.pins && isRow (h.t.get 0) [hdl] then
      match rowOG h A with
      | some (cs, st) => match over off cs [.ptr (some p)] with
        | some cs' => some (.bool true, h.put A (.row cs' st))
        | none => none
      | none => none
    else none
  | _, _ => none
theorem env0 : EnvOK (envOf Tryz.prog [] noNative) Tryz.prog := envOf_ok (by kernel_rfl) (by kernel_rfl)
theorem as_ok {args : List AV} {v : AV} {h h' : Heap} (hx : asN args h = some (v, h')) {μ : Mu} {w : World} {args' : Array Value} (hr : HR μ h w) (hv : VRs μ args args'.toList) :
    (callFunc 192 args').run Tryz.prog w = .ok (.enter 192 args') w ∧ Calls Tryz.prog 192 args' w fun e w' => ∃ u, e = .returned u ∧ Post μ h w v h' u w' := by
  refine ⟨enter_of env0 (fn := Tryz.f192) (by kernel_rfl) (by kernel_rfl) _ _, ?_⟩
  unfold asN at hx
  split at hx
  · rename_i t p t' A off
    cases hb : (Nat.beq t 127 && Nat.beq t' 214 && pinIn 0 loc0 h.pins && pinIn 1 loc1 h.pins && isRow (h.t.get 0) [hdl]) with
    | false => simp [hb] at hx
    | true =>
      simp only [hb, cond_true] at hx
      simp only [Bool.and_eq_true] at hb
      obtain ⟨⟨⟨⟨b1, b2⟩, b3⟩, b4⟩, b5⟩ := hb
      obtain rfl := Nat.eq_of_beq_eq_true b1
      obtain rfl := Nat.eq_of_beq_eq_true b2
      cases hw : rowOG h A with
      | none => simp [hw] at hx
      | some q =>
        obtain ⟨cs, st⟩ := q
        simp only [hw] at hx
        cases ho : over off cs [.ptr (some p)] with
        | none => simp [ho] at hx
        | some cs' =>
          simp only [ho, Option.some.injEq, Prod.mk.injEq] at hx
          obtain ⟨rfl, rfl⟩ := hx
          have hg : h.t.get A = some (.row cs st) ∧ (st = .own ∨ st = .grown) := by
            unfold rowOG at hw
            split at hw
            · rename_i cs1 st1 hq
              split at hw
              · simp only [Option.some.injEq, Prod.mk.injEq] at hw; obtain ⟨rfl, rfl⟩ := hw; exact ⟨hq, .inl rfl⟩
              · simp only [Option.some.injEq, Prod.mk.injEq] at hw; obtain ⟨rfl, rfl⟩ := hw; exact ⟨hq, .inr rfl⟩
              · cases hw
            · cases hw
          obtain ⟨p1, p2⟩ := p
          simp only [VRs, VR] at hv
          obtain ⟨y1, ys1, e1, ⟨x1, rfl, l1, hl1, rfl⟩, y2, ys2, e2, ⟨x2, rfl, l2, hl2, rfl⟩, e3⟩ := hv
          subst e2 e3
          have ea : args' = #[.iface 127 (.pointer (some ⟨l1.b, l1.sh + p2, none⟩)), .iface 214 (.pointer (some ⟨l2.b, l2.sh + off, none⟩))] := by rw [← Array.toList_inj, e1]
          subst ea
          -- the handle's cell
          have hc0 : w.cell? ⟨1, 0, none⟩ = some (.iface 232 (.agg #[.pointer (some ⟨7, 29, none⟩)])) := by
            have hm0 := hr.pin _ (pinIn_mem b3)
            have hm1 := hr.pin _ (pinIn_mem b4)
            have hrow : RowR μ w loc0 [hdl] := hr.blk 0 loc0 _ hm0 (isRow_eq b5)
            obtain ⟨y, h1, h2⟩ := hrow.cell 0 hdl rfl
            simp only [hdl, VR, VRs] at h2
            obtain ⟨z, rfl, cs1, rfl, u, us, h4, ⟨l, h5, rfl⟩, rfl⟩ := h2
            have hm1' : μ 1 = some loc1 := hm1
            rw [hm1'] at h5
            simp only [Option.some.injEq] at h5
            subst h5
            have : cs1 = #[.pointer (some ⟨7, 29, none⟩)] := by rw [← Array.toList_inj, h4]; rfl
            rw [this] at h1
            exact h1
          have hvp : VRs μ [.ptr (some (p1, p2))] [.pointer (some ⟨l1.b, l1.sh + p2, none⟩)] := VRs.cons (by simp only [VR]; exact ⟨l1, hl1, rfl⟩) VRs.nil
          obtain ⟨w1, w2, _, _⟩ := hr.write hl2 hg.1 (hg.2.elim .inl fun e => .inr (.inl e)) ho hvp
          have hold := w1 0 (by simp)
          have hfz := w2 0 (by simp)
          rw [Nat.add_zero] at hold hfz
          obtain ⟨old, hold⟩ := Option.isSome_iff_exists.1 hold
          refine (as_hit ⟨l1.b, l1.sh + p2, none⟩ ⟨l2.b, l2.sh + off, none⟩ old w hc0 hold hfz).mono ?_
          rintro e w' ⟨rfl, rfl⟩
          have hbel : Below w.heap.size w ((((w.alloc (.cells #[.pointer (some ⟨l2.b, l2.sh + off, none⟩)] 214)).alloc (.cells #[.pointer (some ⟨7, 214, none⟩), .pointer (some ⟨w.heap.size, 0, none⟩), .int .u64 150] 217)).alloc (.cells #[.pointer (some ⟨7, 214, none⟩), .pointer (some ⟨w.heap.size, 0, none⟩), .int .u64 150] 217)).alloc (.cells #[.pointer (some ⟨l1.b, l1.sh + p2, none⟩)] 127)) :=
            ((((Below.refl _ w).alloc (Nat.le_refl _) _).alloc (by simp) _).alloc (by simp; omega) _).alloc (by simp; omega) _
          have hr4 := hr.below hbel
          obtain ⟨_, _, h5, h6⟩ := hr4.write hl2 hg.1 (hg.2.elim .inl fun e => .inr (.inl e)) ho hvp
          exact ⟨_, rfl, μ, by simp [VR], h5, Ext.trans hr (Ext.of_below hbel) h6⟩
  · cases hx
/-! the first byte -/
def idxL (c : UInt8) : List UInt8 → Nat → Int
  | [], _ => -1
  | x :: r, k => bif Nat.beq x.toNat c.toNat then .ofNat k else idxL c r (k + 1)
theorem idxL_find (c : UInt8) : ∀ (s : List UInt8) (k : Nat), idxL c s k = (match (List.range s.length).find? fun i => s.getD i 0 == c with | some i => ((k + i : Nat) : Int) | none => -1)
  | [], k => rfl
  | x :: r, k => by
    rw [List.length_cons, List.range_succ_eq_map]
    by_cases hx : x = c
    · subst hx
      have : Nat.beq x.toNat x.toNat = true := Nat.beq_refl _
      simp only [idxL, this, cond_true, List.find?_cons, List.getD_cons_zero, beq_self_eq_true, Nat.add_zero]
      rfl
    · have h1 : Nat.beq x.toNat c.toNat = false := by
        cases hq : Nat.beq x.toNat c.toNat with
        | false => rfl
        | true => exact absurd (UInt8.toNat.inj (Nat.eq_of_beq_eq_true hq)) hx
      have h2 : (x == c) = false := by simpa using hx
      simp only [idxL, h1, cond_false, List.find?_cons, List.getD_cons_zero, h2]
      rw [idxL_find c r (k + 1), List.find?_map]
      simp only [Function.comp_def, List.getD_cons_succ]
      cases (List.range r.length).find? fun i => r.getD i 0 == c with
      | none => rfl
      | some i => simp only [Option.map_some]; congr 1; omega
theorem find_congr {α : Type} {p q : α → Bool} : ∀ {l : List α}, (∀ x ∈ l, p x = q x) → l.find? p = l.find? q
  | [], _ => rfl
  | x :: r, h => by
    simp only [List.find?_cons, h x List.mem_cons_self, find_congr fun y hy => h y (List.mem_cons_of_mem _ hy)]
theorem firstIdx_eq (s : List UInt8) (c : UInt8) : firstIdx ⟨s.toArray⟩ c = idxL c s 0 := by
  rw [idxL_find]
  unfold firstIdx
  have hs : (⟨s.toArray⟩ : ByteArray).size = s.length := rfl
  rw [hs]
  have hp : (List.range s.length).find? (fun i => (⟨s.toArray⟩ : ByteArray)[i]! == c) = (List.range s.length).find? (fun i => s.getD i 0 == c) := by
    refine find_congr fun i hi => ?_
    have hi' : i < s.length := List.mem_range.1 hi
    have : (⟨s.toArray⟩ : ByteArray)[i]! = s.getD i 0 := by
      rw [getElem!_pos (⟨s.toArray⟩ : ByteArray) i hi']
      rw [List.getD_eq_getElem?_getD, List.getElem?_eq_getElem hi']
      rfl
    rw [this]
  rw [hp]
  cases (List.range s.length).find? fun i => s.getD i 0 == c with
  | none => rfl
  | some i => simp
def idxN : List AV → Heap → Option (AV × Heap)
  | [.str s, .int .u8 c], h => some (.int .i64 (idxL c.toNat.toUInt8 s 0), h)
  | _, _ => none
theorem idx_ok {args : List AV} {v : AV} {h h' : Heap} (hx : idxN args h = some (v, h')) {μ : Mu} {w : World} {args' : Array Value} (hr : HR μ h w) (hv : VRs μ args args'.toList) :
    ∃ u w', (callFunc 206 args').run Tryz.prog w = .ok (.value u) w' ∧ Post μ h w v h' u w' := by
  unfold idxN at hx
  split at hx
  · rename_i s c
    simp only [Option.some.injEq, Prod.mk.injEq] at hx
    obtain ⟨rfl, rfl⟩ := hx
    simp only [VRs, VR] at hv
    obtain ⟨y1, ys1, e1, rfl, y2, ys2, e2, rfl, e3⟩ := hv
    subst e2 e3
    have ea : args' = #[.string ⟨s.toArray⟩, .int .u8 c] := by rw [← Array.toList_inj, e1]
    subst ea
    refine ⟨.int .i64 (idxL c.toNat.toUInt8 s 0), w, ?_, μ, by simp only [VR], hr, Ext.refl μ h w⟩
    have h1 := @run_callFunc_extern Tryz.prog 206 _ Extern.BytealgIndexByte.indexByte Tryz.func206 (by kernel_rfl) (by kernel_rfl) (by kernel_rfl) (by kernel_rfl) #[.string ⟨s.toArray⟩, .int .u8 c] w
    rw [h1, run_indexByte_string, firstIdx_eq]
    rfl
  · cases hx
def idxF (s : List UInt8) (c : Int) (h : Heap) : Option (Int × Heap) := some (idxL c.toNat.toUInt8 s 0, h)
theorem f206_ok (N : Nat) : FnVal Tryz.prog 206 [(.one .str), (.one (.int .u8))] (.val (.one (.int .i64))) (fun x h => idxF x.1 x.2.1 h) := by
  intro xs h r h' hx μ w args' hr hv
  have hx' : some (idxL xs.2.1.toNat.toUInt8 xs.1 0, h) = some (r, h') := hx
  simp only [Option.some.injEq, Prod.mk.injEq] at hx'
  obtain ⟨rfl, rfl⟩ := hx'
  exact idx_ok (args := [.str xs.1, .int .u8 xs.2.1]) rfl hr hv
def nat : FuncId → Option (List AV → Heap → Option (AV × Heap)) := fun f => bif Nat.beq f 192 then some asN else bif Nat.beq f 206 then some idxN else none
theorem natOK {cmp : List TypeId} : NativeOK (envOf Tryz.prog cmp nat) Tryz.prog := by
  intro f g hg args h v h' hx μ w args' hr hv
  have hg' : nat f = some g := hg
  unfold nat at hg'
  cases hf : Nat.beq f 192 with
  | true =>
    simp only [hf, cond_true, Option.some.injEq] at hg'
    subst hg'
    obtain rfl := Nat.eq_of_beq_eq_true hf
    exact .inr (as_ok hx hr hv)
  | false =>
    simp only [hf, cond_false] at hg'
    cases hf2 : Nat.beq f 206 with
    | false => simp [hf2] at hg'
    | true =>
      simp only [hf2, cond_true, Option.some.injEq] at hg'
      subst hg'
      obtain rfl := Nat.eq_of_beq_eq_true hf2
      exact .inl (idx_ok hx hr hv)
end Go.Proofs.YtkcjphhjmlienaaGreatDoor.Qa

open Go Go.Proofs.YtkcjphhjmlienaaGreatDoor.Ai Go.Proofs
open Go.RowKit (Below)
set_option maxRecDepth 100000
namespace Go.Proofs.YtkcjphhjmlienaaGreatDoor.Qx
open Qa
/-! the start heap: errors.As's handle; told -/
theorem hmix : Tryz.prog.follows .mixedOrders = true := by kernel_rfl
noncomputable def E2 : Env := envOf Tryz.prog [] Qa.nat
theorem E2_ok : EnvOK E2 Tryz.prog := envOf_ok (by kernel_rfl) (by kernel_rfl)
def h0 : Heap := { t := Tr.set .nil 0 (.row [hdl] .ro), next := 2, pins := [(0, loc0), (1, loc1)] }
theorem told_true : isTrueA (evCall E2 3000 22 [] h0) = true := by kernel_rfl
def mu0 : Mu := fun A => if A = 0 then some loc0 else if A = 1 then some loc1 else none
theorem mu0_inv {A : Nat} {l : Ai.Loc} (h : mu0 A = some l) : (A = 0 ∧ l = loc0) ∨ (A = 1 ∧ l = loc1) := by
  unfold mu0 at h
  split at h
  · cases h; exact .inl ⟨by assumption, rfl⟩
  · split at h
    · cases h; exact .inr ⟨by assumption, rfl⟩
    · cases h
theorem h0_inv {A : Nat} {b : Blk} (h : h0.t.get A = some b) : A = 0 ∧ b = .row [hdl] .ro := by
  rcases Tr.get_set h with h | ⟨_, h⟩
  · exact h
  · simp [Tr.get_nil] at h
theorem h0_rof : Rof h0 := by
  refine ⟨fun A b hA => ?_, fun A hA => ?_⟩
  · obtain ⟨_, rfl⟩ := h0_inv hA; exact ⟨_, rfl⟩
  · cases hb : h0.t.get A with
    | none => rfl
    | some b =>
      have := (h0_inv hb).1
      have h1 : (2 : Nat) ≤ A := hA
      omega
/-- the heap that the law's call begins with -/
theorem hr0_of {w : World} (hs : 7 < w.heap.size) {e : TypeId} (hsh : w.shape? 1 = some (e, 1)) (hc : w.cell? ⟨1, 0, none⟩ = some (.iface 232 (.agg #[.pointer (some ⟨7, 29, none⟩)]))) : HR mu0 h0 w := by
  refine ⟨fun A l hA => ?_, fun A B la lb ba bb hA hB gA gB _ _ hne => ?_, fun A l b hA hb => ?_, fun x hx => ?_⟩
  · rcases mu0_inv hA with ⟨rfl, rfl⟩ | ⟨rfl, rfl⟩
    · exact ⟨by show 0 < 2; omega, by show 1 < w.heap.size; omega⟩
    · exact ⟨by show 1 < 2; omega, hs⟩
  · exact absurd ((h0_inv gA).1.trans (h0_inv gB).1.symm) hne
  · obtain ⟨rfl, rfl⟩ := h0_inv hb
    rcases mu0_inv hA with ⟨_, rfl⟩ | ⟨h, _⟩
    · refine ⟨⟨e, hsh⟩, Nat.le_refl _, fun i x hx => ?_⟩
      cases i with
      | zero =>
        have : x = hdl := by simpa using hx.symm
        subst this
        refine ⟨_, hc, ?_⟩
        simp only [hdl, VR, VRs]
        exact ⟨_, rfl, _, rfl, _, [], rfl, ⟨loc1, rfl, rfl⟩, rfl⟩
      | succ i => simp at hx
    · cases h
  · rcases List.mem_cons.1 hx with rfl | hx
    · rfl
    · rw [List.mem_singleton.1 hx]; rfl
def pinned (h : Heap) : Bool := pinIn 0 loc0 h.pins && pinIn 1 loc1 h.pins && isRow (h.t.get 0) [hdl]
theorem hr0_from {μ : Mu} {h : Heap} {w : World} (hr : HR μ h w) (hp : pinned h = true) : HR mu0 h0 w := by
  simp only [pinned, Bool.and_eq_true] at hp
  obtain ⟨⟨b3, b4⟩, b5⟩ := hp
  have hm0 := hr.pin _ (pinIn_mem b3)
  have hm1 := hr.pin _ (pinIn_mem b4)
  have hrow : RowR μ w loc0 [hdl] := hr.blk 0 loc0 _ hm0 (isRow_eq b5)
  obtain ⟨y, h1, h2⟩ := hrow.cell 0 hdl rfl
  simp only [hdl, VR, VRs] at h2
  obtain ⟨z, rfl, cs1, rfl, u, us, h4, ⟨l, h5, rfl⟩, rfl⟩ := h2
  have hm1' : μ 1 = some loc1 := hm1
  rw [hm1'] at h5
  simp only [Option.some.injEq] at h5
  subst h5
  have : cs1 = #[.pointer (some ⟨7, 29, none⟩)] := by rw [← Array.toList_inj, h4]; rfl
  rw [this] at h1
  obtain ⟨e, he⟩ := hrow.shape
  exact hr0_of (hr.dom 1 loc1 hm1).2 he h1
def toldN : List AV → Heap → Option (AV × Heap)
  | [], h => bif pinned h then some (.bool true, h) else none
  | _, _ => none
theorem toldN_ok {args : List AV} {v : AV} {h h' : Heap} (hx : toldN args h = some (v, h')) {μ : Mu} {w : World} {args' : Array Value} (hr : HR μ h w) (hv : VRs μ args args'.toList) :
    (callFunc 22 args').run Tryz.prog w = .ok (.enter 22 args') w ∧ Calls Tryz.prog 22 args' w fun e w' => ∃ u, e = .returned u ∧ Post μ h w v h' u w' := by
  refine ⟨enter_of env0 (fn := Tryz.f22) (by kernel_rfl) (by kernel_rfl) _ _, ?_⟩
  unfold toldN at hx
  split at hx
  · cases hp : pinned _ with
    | false => rw [hp] at hx; cases hx
    | true =>
      rw [hp] at hx
      simp only [cond_true, Option.some.injEq, Prod.mk.injEq] at hx
      obtain ⟨rfl, rfl⟩ := hx
      have hr0 := hr0_from hr hp
      have hv0 : VRs mu0 [] args'.toList := by simpa [VRs] using hv
      cases ht : evCall E2 3000 22 [] h0 with
      | none => have := told_true; rw [ht] at this; cases this
      | some q =>
        obtain ⟨v2, h2⟩ := q
        have ht2 := told_true
        rw [ht] at ht2
        cases v2 <;> simp only [isTrueA, Bool.false_eq_true] at ht2
        subst ht2
        refine (evCall_sound E2_ok hmix Qa.natOK (fn := Tryz.f22) (by kernel_rfl) (by kernel_rfl) ht hr0 hv0).mono ?_
        rintro e w' ⟨u, rfl, μ', h3, _, h5⟩
        have hbel := h0_rof.ext_below h5
        simp only [VR] at h3
        exact ⟨u, rfl, μ, by simp only [VR]; exact h3, hr.below hbel, Ext.of_below hbel⟩
  · cases hx
def toldF (h : Heap) : Option (Bool × Heap) := bif pinned h then some (true, h) else none
theorem f22_ok (_N : Nat) : FnOK Tryz.prog 22 [] (.val (.one .bool)) (fun _ h => toldF h) := by
  intro xs h r h' hx0 μ w args' hr hv
  have hx : toldF h = some (r, h') := hx0
  have hn : toldN [] h = some (.bool r, h') := by
    unfold toldF at hx
    unfold toldN
    cases hp : pinned h with
    | false => rw [hp] at hx; cases hx
    | true =>
      rw [hp] at hx
      simp only [cond_true, Option.some.injEq, Prod.mk.injEq] at hx
      obtain ⟨rfl, rfl⟩ := hx
      show (bif pinned h then some (AV.bool true, h) else none) = _
      rw [hp]; rfl
  exact toldN_ok hn hr hv
end Go.Proofs.YtkcjphhjmlienaaGreatDoor.Qx

set_option maxRecDepth 100000
set_option linter.unusedVariables false
open Go Go.Proofs.YtkcjphhjmlienaaGreatDoor.Ai Go.Proofs
namespace Go.Proofs.YtkcjphhjmlienaaGreatDoor.Qp
noncomputable def E : Env := envOf Tryz.prog [] noNative
theorem envOK : EnvOK E Tryz.prog := envOf_ok (by kernel_rfl) (by kernel_rfl)
theorem natOK : NativeOK E Tryz.prog := noNative_ok
theorem hmix : Tryz.prog.follows .mixedOrders = true := by kernel_rfl
/- usufruct/usufructlaw8.told: by its contract -/
noncomputable def f22 (N : Nat)  (h : Heap) : Option (Bool × Heap) := Qx.toldF  h
theorem f22_ok (N : Nat) : FnOK Tryz.prog 22 [] (.val (.one .bool)) (fun x h => f22 N  h) := Qx.f22_ok N

/- usufruct/fault.New -/
noncomputable def f37 (N : Nat) (a0 : Int) (a1 : Int) (h : Heap) : Option (AV × Heap) :=
  let x1 : Bool := eqInt a0 0
  (bif x1 then
   some (AV.nilIface, h)
  else
   let h2 : Heap := h.push (.row [(.int .i64 a0), (.int .i64 a1), (AV.iface 78 (.int .i64 a0))] .own)
   some ((AV.iface 127 (.ptr (some (h.next, 0)))), h2))
noncomputable def ann37 : Ann := .n
theorem f37_ok (N : Nat) : FnOK Tryz.prog 37 [(.one (.int .i64)), (.one (.int .i64))] (.val (.one .any)) (fun x h => f37 N x.1 x.2.1 h) :=
  runK_ok envOK hmix noCalls_ok (N := N) (x := ann37) (fn := Tryz.f37) (c := Tryz.f37.body.getD .skip) (by kernel_rfl) (by kernel_rfl) (by kernel_rfl) (by kernel_rfl) (fun _ _ => by kernel_rfl)

/- internal/stringslite.HasPrefix -/
noncomputable def f186 (N : Nat) (a0 : List UInt8) (a1 : List UInt8) (h : Heap) : Option (Bool × Heap) :=
  let x1 : Bool := leInt (Int.ofNat a1.length) (Int.ofNat a0.length)
  (bif x1 then
   (bindV (.val (.one .str)) (sliceA E h 9 (.str a0) none (some (.int .i64 (Int.ofNat a1.length)))) fun (x2 : List UInt8) =>
   let x3 : Bool := eqBytes x2 a1
   some (x3, h))
  else
   some (false, h))
noncomputable def ann186 : Ann := .n
theorem f186_ok (N : Nat) : FnOK Tryz.prog 186 [(.one .str), (.one .str)] (.val (.one .bool)) (fun x h => f186 N x.1 x.2.1 h) :=
  runK_ok envOK hmix noCalls_ok (N := N) (x := ann186) (fn := Tryz.f186) (c := Tryz.f186.body.getD .skip) (by kernel_rfl) (by kernel_rfl) (by kernel_rfl) (by kernel_rfl) (fun _ _ => by kernel_rfl)

/- strings.HasPrefix -/
noncomputable def f140 (N : Nat) (a0 : List UInt8) (a1 : List UInt8) (h : Heap) : Option (Bool × Heap) :=
  (bind2 (f186 N a0 a1 h) fun (x1 : Bool) h2 =>
  some (x1, h2))
noncomputable def ann140 : Ann := .n
theorem f140_ok (N : Nat) : FnOK Tryz.prog 140 [(.one .str), (.one .str)] (.val (.one .bool)) (fun x h => f140 N x.1 x.2.1 h) :=
  runK_ok envOK hmix (addCall_ok (f186_ok N) noCalls_ok) (N := N) (x := ann140) (fn := Tryz.f140) (c := Tryz.f140.body.getD .skip) (by kernel_rfl) (by kernel_rfl) (by kernel_rfl) (by kernel_rfl) (fun _ _ => by kernel_rfl)

/- internal/bytealg.IndexByteString: by its contract -/
noncomputable def f206 (N : Nat) (a0 : List UInt8) (a1 : Int) (h : Heap) : Option (Int × Heap) := Qa.idxF a0 a1 h
theorem f206_ok (N : Nat) : FnVal Tryz.prog 206 [(.one .str), (.one (.int .u8))] (.val (.one (.int .i64))) (fun x h => f206 N x.1 x.2.1 h) := Qa.f206_ok N

/- internal/stringslite.IndexByte -/
noncomputable def f187 (N : Nat) (a0 : List UInt8) (a1 : Int) (h : Heap) : Option (Int × Heap) :=
  (bind2 (f206 N a0 a1 h) fun (x1 : Int) h2 =>
  some (x1, h2))
noncomputable def ann187 : Ann := .n
theorem f187_ok (N : Nat) : FnOK Tryz.prog 187 [(.one .str), (.one (.int .u8))] (.val (.one (.int .i64))) (fun x h => f187 N x.1 x.2.1 h) :=
  runK_ok envOK hmix (addCallV_ok (f206_ok N) noCalls_ok) (N := N) (x := ann187) (fn := Tryz.f187) (c := Tryz.f187.body.getD .skip) (by kernel_rfl) (by kernel_rfl) (by kernel_rfl) (by kernel_rfl) (fun _ _ => by kernel_rfl)

/- strings.IndexByte -/
noncomputable def f141 (N : Nat) (a0 : List UInt8) (a1 : Int) (h : Heap) : Option (Int × Heap) :=
  (bind2 (f187 N a0 a1 h) fun (x1 : Int) h2 =>
  some (x1, h2))
noncomputable def ann141 : Ann := .n
theorem f141_ok (N : Nat) : FnOK Tryz.prog 141 [(.one .str), (.one (.int .u8))] (.val (.one (.int .i64))) (fun x h => f141 N x.1 x.2.1 h) :=
  runK_ok envOK hmix (addCall_ok (f187_ok N) noCalls_ok) (N := N) (x := ann141) (fn := Tryz.f141) (c := Tryz.f141.body.getD .skip) (by kernel_rfl) (by kernel_rfl) (by kernel_rfl) (by kernel_rfl) (fun _ _ => by kernel_rfl)

/- usufruct/lex.blanks -/
noncomputable def f90_l1_b (N : Nat) (go : List UInt8 → Int → Int → Heap → Option (Out × (Int × Int × Unit) × Heap)) (v0 : List UInt8) (v1 : Int) (v4 : Int) (h : Heap) : Option (Out × (Int × Int × Unit) × Heap) :=
  let x1 : Bool := ltInt v1 (Int.ofNat v0.length)
  (bif x1 then
   (strK v0 v1 fun x2 =>
   let x3 : Bool := eqInt x2 32
   (bif x3 then
    let x4 : Int := wrapA .i64 (v1 + 1)
    go v0 x4 v4 h
   else
    (strK v0 v1 fun x5 =>
    let x6 : Bool := eqInt x5 9
    (bif x6 then
     let x7 : Int := wrapA .i64 (v1 + 1)
     go v0 x7 v4 h
    else
     (strK v0 v1 fun x8 =>
     let x9 : Bool := eqInt x8 10
     (bif x9 then
      let x10 : Int := wrapA .i64 (v1 + 1)
      go v0 x10 v4 h
     else
      (bindV (.val (.one .str)) (sliceA E h 9 (.str v0) (some (.int .i64 v1)) none) fun (x11 : List UInt8) =>
      (bind2 (f140 N x11 [47, 47] h) fun (x12 : Bool) h13 =>
      (bif x12 then
       (bindV (.val (.one .str)) (sliceA E h13 9 (.str v0) (some (.int .i64 v1)) none) fun (x14 : List UInt8) =>
       (bind2 (f141 N x14 10 h13) fun (x15 : Int) h16 =>
       let x17 : Bool := ltInt x15 0
       (bif x17 then
        some (Out.ret, (v1, (Int.ofNat v0.length), ()), h16)
       else
        let x18 : Int := wrapA .i64 (v1 + x15)
        go v0 x18 v4 h16)))
      else
       some (Out.ret, (v1, v1, ()), h13))))))))))
  else
   some ((Out.exit 0), (v1, v4, ()), h))
noncomputable def f90_l1 (N : Nat) (M : Nat) (v0 : List UInt8) (v1 : Int) (v4 : Int) (h : Heap) : Option (Out × (Int × Int × Unit) × Heap) := iter (fun go s h => f90_l1_b N (fun v0 v1 v4 h => go (v0, v1, v4, ()) h) s.1 s.2.1 s.2.2.1 h) M (v0, v1, v4, ()) h
theorem f90_l1_succ (N : Nat) (M : Nat) (v0 : List UInt8) (v1 : Int) (v4 : Int) (h : Heap) : f90_l1 N (M + 1) v0 v1 v4 h = f90_l1_b N (f90_l1 N M) v0 v1 v4 h := rfl
theorem f90_l1_zero (N : Nat) (v0 : List UInt8) (v1 : Int) (v4 : Int) (h : Heap) : f90_l1 N 0 v0 v1 v4 h = none := rfl
noncomputable def f90 (N : Nat) (a0 : List UInt8) (a1 : Int) (h : Heap) : Option (Int × Heap) :=
  (bind3 (f90_l1 N N a0 a1 0 h) fun o19 (j20 : (Int × Int × Unit)) h21 =>
  (bif eqOut o19 (.exit 0) then
   some (j20.1, h21)
  else
   some (j20.2.1, h21)))
noncomputable def ann90 : Ann := (.two .n (.two (.two (.loop [(0, (.one .str)), (1, (.one (.int .i64))), (4, (.one (.int .i64)))] [(.exit 0), .ret] [(1, (.one (.int .i64))), (4, (.one (.int .i64)))] .n) .n) .n))
theorem f90_ok (N : Nat) : FnOK Tryz.prog 90 [(.one .str), (.one (.int .i64))] (.val (.one (.int .i64))) (fun x h => f90 N x.1 x.2.1 h) :=
  runK_ok envOK hmix (addCall_ok (f141_ok N) (addCall_ok (f140_ok N) noCalls_ok)) (N := N) (x := ann90) (fn := Tryz.f90) (c := Tryz.f90.body.getD .skip) (by kernel_rfl) (by kernel_rfl) (by kernel_rfl) (by kernel_rfl) (fun _ _ => by kernel_rfl)

/- usufruct/lex.begins -/
noncomputable def f170 (N : Nat) (a0 : Int) (h : Heap) : Option (Bool × Heap) :=
  let x1 : Bool := leInt 97 a0
  (bif x1 then
   let x2 : Bool := leInt a0 122
   (bif x2 then
    some (true, h)
   else
    let x3 : Bool := leInt 65 a0
    (bif x3 then
     let x4 : Bool := leInt a0 90
     (bif x4 then
      some (true, h)
     else
      let x5 : Bool := eqInt a0 95
      (bif x5 then
       some (true, h)
      else
       some (false, h)))
    else
     let x6 : Bool := eqInt a0 95
     (bif x6 then
      some (true, h)
     else
      some (false, h))))
  else
   let x7 : Bool := leInt 65 a0
   (bif x7 then
    let x8 : Bool := leInt a0 90
    (bif x8 then
     some (true, h)
    else
     let x9 : Bool := eqInt a0 95
     (bif x9 then
      some (true, h)
     else
      some (false, h)))
   else
    let x10 : Bool := eqInt a0 95
    (bif x10 then
     some (true, h)
    else
     some (false, h))))
noncomputable def ann170 : Ann := .n
theorem f170_ok (N : Nat) : FnOK Tryz.prog 170 [(.one (.int .u8))] (.val (.one .bool)) (fun x h => f170 N x.1 h) :=
  runK_ok envOK hmix noCalls_ok (N := N) (x := ann170) (fn := Tryz.f170) (c := Tryz.f170.body.getD .skip) (by kernel_rfl) (by kernel_rfl) (by kernel_rfl) (by kernel_rfl) (fun _ _ => by kernel_rfl)

/- usufruct/lex.goes -/
noncomputable def f195 (N : Nat) (a0 : Int) (h : Heap) : Option (Bool × Heap) :=
  (bind2 (f170 N a0 h) fun (x1 : Bool) h2 =>
  (bif x1 then
   some (true, h2)
  else
   let x3 : Bool := leInt 48 a0
   (bif x3 then
    let x4 : Bool := leInt a0 57
    some (x4, h2)
   else
    some (false, h2))))
noncomputable def ann195 : Ann := .n
theorem f195_ok (N : Nat) : FnOK Tryz.prog 195 [(.one (.int .u8))] (.val (.one .bool)) (fun x h => f195 N x.1 h) :=
  runK_ok envOK hmix (addCall_ok (f170_ok N) noCalls_ok) (N := N) (x := ann195) (fn := Tryz.f195) (c := Tryz.f195.body.getD .skip) (by kernel_rfl) (by kernel_rfl) (by kernel_rfl) (by kernel_rfl) (fun _ _ => by kernel_rfl)

/- usufruct/lex.run -/
noncomputable def f171_l1_b (N : Nat) (go : List UInt8 → Int → Heap → Option (Out × (Int × Unit) × Heap)) (v0 : List UInt8) (v1 : Int) (h : Heap) : Option (Out × (Int × Unit) × Heap) :=
  let x1 : Bool := ltInt v1 (Int.ofNat v0.length)
  (bif x1 then
   (strK v0 v1 fun x2 =>
   (bind2 (f195 N x2 h) fun (x3 : Bool) h4 =>
   (bif x3 then
    let x5 : Int := wrapA .i64 (v1 + 1)
    go v0 x5 h4
   else
    some ((Out.exit 0), (v1, ()), h4))))
  else
   some ((Out.exit 0), (v1, ()), h))
noncomputable def f171_l1 (N : Nat) (M : Nat) (v0 : List UInt8) (v1 : Int) (h : Heap) : Option (Out × (Int × Unit) × Heap) := iter (fun go s h => f171_l1_b N (fun v0 v1 h => go (v0, v1, ()) h) s.1 s.2.1 h) M (v0, v1, ()) h
theorem f171_l1_succ (N : Nat) (M : Nat) (v0 : List UInt8) (v1 : Int) (h : Heap) : f171_l1 N (M + 1) v0 v1 h = f171_l1_b N (f171_l1 N M) v0 v1 h := rfl
theorem f171_l1_zero (N : Nat) (v0 : List UInt8) (v1 : Int) (h : Heap) : f171_l1 N 0 v0 v1 h = none := rfl
noncomputable def f171 (N : Nat) (a0 : List UInt8) (a1 : Int) (h : Heap) : Option (Int × Heap) :=
  (bind3 (f171_l1 N N a0 a1 h) fun _ (j7 : (Int × Unit)) h8 =>
  some (j7.1, h8))
noncomputable def ann171 : Ann := (.two .n (.two (.two (.loop [(0, (.one .str)), (1, (.one (.int .i64)))] [(.exit 0)] [(1, (.one (.int .i64)))] .n) .n) .n))
theorem f171_ok (N : Nat) : FnOK Tryz.prog 171 [(.one .str), (.one (.int .i64))] (.val (.one (.int .i64))) (fun x h => f171 N x.1 x.2.1 h) :=
  runK_ok envOK hmix (addCall_ok (f195_ok N) noCalls_ok) (N := N) (x := ann171) (fn := Tryz.f171) (c := Tryz.f171.body.getD .skip) (by kernel_rfl) (by kernel_rfl) (by kernel_rfl) (by kernel_rfl) (fun _ _ => by kernel_rfl)

/- usufruct/lex.Word -/
noncomputable def f172 (N : Nat) (a0 : List UInt8) (h : Heap) : Option (Bool × Heap) :=
  let x1 : Bool := eqBytes a0 [102, 110]
  (bif x1 then
   (bif x1 then
    some (true, h)
   else
    some (false, h))
  else
   let x2 : Bool := eqBytes a0 [115, 116, 114, 117, 99, 116]
   (bif x2 then
    (bif x2 then
     some (true, h)
    else
     some (false, h))
   else
    let x3 : Bool := eqBytes a0 [112, 117, 98]
    (bif x3 then
     (bif x3 then
      some (true, h)
     else
      some (false, h))
    else
     let x4 : Bool := eqBytes a0 [108, 101, 116]
     (bif x4 then
      (bif x4 then
       some (true, h)
      else
       some (false, h))
     else
      let x5 : Bool := eqBytes a0 [109, 117, 116]
      (bif x5 then
       (bif x5 then
        some (true, h)
       else
        some (false, h))
      else
       let x6 : Bool := eqBytes a0 [105, 102]
       (bif x6 then
        (bif x6 then
         some (true, h)
        else
         some (false, h))
       else
        let x7 : Bool := eqBytes a0 [101, 108, 115, 101]
        (bif x7 then
         (bif x7 then
          some (true, h)
         else
          some (false, h))
        else
         let x8 : Bool := eqBytes a0 [119, 104, 105, 108, 101]
         (bif x8 then
          (bif x8 then
           some (true, h)
          else
           some (false, h))
         else
          let x9 : Bool := eqBytes a0 [108, 111, 111, 112]
          (bif x9 then
           (bif x9 then
            some (true, h)
           else
            some (false, h))
          else
           let x10 : Bool := eqBytes a0 [98, 114, 101, 97, 107]
           (bif x10 then
            (bif x10 then
             some (true, h)
            else
             some (false, h))
           else
            let x11 : Bool := eqBytes a0 [99, 111, 110, 116, 105, 110, 117, 101]
            (bif x11 then
             (bif x11 then
              some (true, h)
             else
              some (false, h))
            else
             let x12 : Bool := eqBytes a0 [114, 101, 116, 117, 114, 110]
             (bif x12 then
              (bif x12 then
               some (true, h)
              else
               some (false, h))
             else
              let x13 : Bool := eqBytes a0 [100, 114, 111, 112]
              (bif x13 then
               (bif x13 then
                some (true, h)
               else
                some (false, h))
              else
               let x14 : Bool := eqBytes a0 [116, 114, 117, 101]
               (bif x14 then
                (bif x14 then
                 some (true, h)
                else
                 some (false, h))
               else
                let x15 : Bool := eqBytes a0 [102, 97, 108, 115, 101]
                (bif x15 then
                 (bif x15 then
                  some (true, h)
                 else
                  some (false, h))
                else
                 let x16 : Bool := eqBytes a0 [105, 110, 116]
                 (bif x16 then
                  (bif x16 then
                   some (true, h)
                  else
                   some (false, h))
                 else
                  let x17 : Bool := eqBytes a0 [98, 111, 111, 108]
                  (bif x17 then
                   some (true, h)
                  else
                   some (false, h))))))))))))))))))
noncomputable def ann172 : Ann := .n
theorem f172_ok (N : Nat) : FnOK Tryz.prog 172 [(.one .str)] (.val (.one .bool)) (fun x h => f172 N x.1 h) :=
  runK_ok envOK hmix noCalls_ok (N := N) (x := ann172) (fn := Tryz.f172) (c := Tryz.f172.body.getD .skip) (by kernel_rfl) (by kernel_rfl) (by kernel_rfl) (by kernel_rfl) (fun _ _ => by kernel_rfl)

/- usufruct/lex.name -/
noncomputable def f142 (N : Nat) (a0 : List UInt8) (a1 : Int) (h : Heap) : Option (((Int × List UInt8 × Int × Unit) × Int × Unit) × Heap) :=
  let h1 : Heap := h.push (.row [(.int .i64 0), (.str []), (.int .i64 0)] .own)
  (bind2 (f171 N a0 a1 h1) fun (x2 : Int) h3 =>
  (bindV (.val (.one .str)) (sliceA E h3 9 (.str a0) (some (.int .i64 a1)) (some (.int .i64 x2))) fun (x4 : List UInt8) =>
  (bind2 (f172 N x4 h3) fun (x5 : Bool) h6 =>
  (bif x5 then
   (need (h6.store (h.next, 0) [(.int .i64 2), (.str x4), (.int .i64 a1)]) fun h7 =>
   (bindV (.val (.agg [(.int .i64), .str, (.int .i64)])) (h7.cells (h.next, 0) 3) fun (x8 : (Int × List UInt8 × Int × Unit)) =>
   some (((x8.1, x8.2.1, x8.2.2.1, ()), x2, ()), h7)))
  else
   let x9 : Bool := leInt (Int.ofNat x4.length) 32
   (bif x9 then
    (need (h6.store (h.next, 0) [(.int .i64 1), (.str x4), (.int .i64 a1)]) fun h10 =>
    (bindV (.val (.agg [(.int .i64), .str, (.int .i64)])) (h10.cells (h.next, 0) 3) fun (x11 : (Int × List UInt8 × Int × Unit)) =>
    some (((x11.1, x11.2.1, x11.2.2.1, ()), x2, ()), h10)))
   else
    (need (h6.store (h.next, 0) [(.int .i64 0), (.str []), (.int .i64 0)]) fun h12 =>
    (bindV (.val (.agg [(.int .i64), .str, (.int .i64)])) (h12.cells (h.next, 0) 3) fun (x13 : (Int × List UInt8 × Int × Unit)) =>
    some (((x13.1, x13.2.1, x13.2.2.1, ()), 0, ()), h12))))))))
noncomputable def ann142 : Ann := .n
theorem f142_ok (N : Nat) : FnOK Tryz.prog 142 [(.one .str), (.one (.int .i64))] (.tup [(.agg [(.int .i64), .str, (.int .i64)]), (.one (.int .i64))]) (fun x h => f142 N x.1 x.2.1 h) :=
  runK_ok envOK hmix (addCall_ok (f172_ok N) (addCall_ok (f171_ok N) noCalls_ok)) (N := N) (x := ann142) (fn := Tryz.f142) (c := Tryz.f142.body.getD .skip) (by kernel_rfl) (by kernel_rfl) (by kernel_rfl) (by kernel_rfl) (fun _ _ => by kernel_rfl)

/- usufruct/lex.number -/
noncomputable def f143_l1_b (N : Nat) (go : List UInt8 → Int → Option (Nat × Nat) → Int → Int → Int → Int → Heap → Option (Out × (List UInt8 × Int × Option (Nat × Nat) × Int × Int × Unit) × Heap)) (v0 : List UInt8) (v1 : Int) (v4 : Option (Nat × Nat)) (v5 : Int) (v6 : Int) (v7 : Int) (v8 : Int) (h : Heap) : Option (Out × (List UInt8 × Int × Option (Nat × Nat) × Int × Int × Unit) × Heap) :=
  let x4 : Bool := ltInt v8 v6
  (bif x4 then
   (strK v0 v8 fun x5 =>
   let x6 : Bool := ltInt x5 48
   (bif x6 then
    (need v4 fun q8 =>
    (need (h.store q8 [(.int .i64 0), (.str []), (.int .i64 0)]) fun h7 =>
    some (Out.ret, (v0, v1, v4, 0, v6, ()), h7)))
   else
    (strK v0 v8 fun x9 =>
    let x10 : Bool := ltInt 57 x9
    (bif x10 then
     (need v4 fun q12 =>
     (need (h.store q12 [(.int .i64 0), (.str []), (.int .i64 0)]) fun h11 =>
     some (Out.ret, (v0, v1, v4, 0, v6, ()), h11)))
    else
     let x13 : Int := wrapA .i64 (v7 * 10)
     (strK v0 v8 fun x14 =>
     let x15 : Int := wrapA .u8 (x14 - 48)
     let x16 : Int := wrapA .i64 x15
     let x17 : Int := wrapA .i64 (x13 + x16)
     let x18 : Bool := ltInt 2147483647 x17
     (bif x18 then
      (need v4 fun q20 =>
      (need (h.store q20 [(.int .i64 0), (.str []), (.int .i64 0)]) fun h19 =>
      some (Out.ret, (v0, v1, v4, 0, v6, ()), h19)))
     else
      let x21 : Int := wrapA .i64 (v8 + 1)
      go v0 v1 v4 v5 v6 x17 x21 h))))))
  else
   some ((Out.exit 0), (v0, v1, v4, v5, v6, ()), h))
noncomputable def f143_l1 (N : Nat) (M : Nat) (v0 : List UInt8) (v1 : Int) (v4 : Option (Nat × Nat)) (v5 : Int) (v6 : Int) (v7 : Int) (v8 : Int) (h : Heap) : Option (Out × (List UInt8 × Int × Option (Nat × Nat) × Int × Int × Unit) × Heap) := iter (fun go s h => f143_l1_b N (fun v0 v1 v4 v5 v6 v7 v8 h => go (v0, v1, v4, v5, v6, v7, v8, ()) h) s.1 s.2.1 s.2.2.1 s.2.2.2.1 s.2.2.2.2.1 s.2.2.2.2.2.1 s.2.2.2.2.2.2.1 h) M (v0, v1, v4, v5, v6, v7, v8, ()) h
theorem f143_l1_succ (N : Nat) (M : Nat) (v0 : List UInt8) (v1 : Int) (v4 : Option (Nat × Nat)) (v5 : Int) (v6 : Int) (v7 : Int) (v8 : Int) (h : Heap) : f143_l1 N (M + 1) v0 v1 v4 v5 v6 v7 v8 h = f143_l1_b N (f143_l1 N M) v0 v1 v4 v5 v6 v7 v8 h := rfl
theorem f143_l1_zero (N : Nat) (v0 : List UInt8) (v1 : Int) (v4 : Option (Nat × Nat)) (v5 : Int) (v6 : Int) (v7 : Int) (v8 : Int) (h : Heap) : f143_l1 N 0 v0 v1 v4 v5 v6 v7 v8 h = none := rfl
noncomputable def f143 (N : Nat) (a0 : List UInt8) (a1 : Int) (h : Heap) : Option (((Int × List UInt8 × Int × Unit) × Int × Unit) × Heap) :=
  let h1 : Heap := h.push (.row [(.int .i64 0), (.str []), (.int .i64 0)] .own)
  (bind2 (f171 N a0 a1 h1) fun (x2 : Int) h3 =>
  (bind3 (f143_l1 N N a0 a1 (some (h.next, 0)) 0 x2 0 a1 h3) fun o22 (j23 : (List UInt8 × Int × Option (Nat × Nat) × Int × Int × Unit)) h24 =>
  (bif eqOut o22 (.exit 0) then
   (strK j23.1 j23.2.1 fun x25 =>
   let x26 : Bool := eqInt x25 48
   (bif x26 then
    let x27 : Int := wrapA .i64 (j23.2.2.2.2.1 - j23.2.1)
    let x28 : Bool := ltInt 1 x27
    (bif x28 then
     (need j23.2.2.1 fun q30 =>
     (need (h24.store q30 [(.int .i64 0), (.str []), (.int .i64 0)]) fun h29 =>
     (need j23.2.2.1 fun q31 =>
     (bindV (.val (.agg [(.int .i64), .str, (.int .i64)])) (h29.cells q31 3) fun (x32 : (Int × List UInt8 × Int × Unit)) =>
     some (((x32.1, x32.2.1, x32.2.2.1, ()), 0, ()), h29)))))
    else
     (bindV (.val (.one .str)) (sliceA E h24 9 (.str j23.1) (some (.int .i64 j23.2.1)) (some (.int .i64 j23.2.2.2.2.1))) fun (x33 : List UInt8) =>
     (need j23.2.2.1 fun q35 =>
     (need (h24.store q35 [(.int .i64 4), (.str x33), (.int .i64 j23.2.1)]) fun h34 =>
     (need j23.2.2.1 fun q36 =>
     (bindV (.val (.agg [(.int .i64), .str, (.int .i64)])) (h34.cells q36 3) fun (x37 : (Int × List UInt8 × Int × Unit)) =>
     some (((x37.1, x37.2.1, x37.2.2.1, ()), j23.2.2.2.2.1, ()), h34)))))))
   else
    (bindV (.val (.one .str)) (sliceA E h24 9 (.str j23.1) (some (.int .i64 j23.2.1)) (some (.int .i64 j23.2.2.2.2.1))) fun (x38 : List UInt8) =>
    (need j23.2.2.1 fun q40 =>
    (need (h24.store q40 [(.int .i64 4), (.str x38), (.int .i64 j23.2.1)]) fun h39 =>
    (need j23.2.2.1 fun q41 =>
    (bindV (.val (.agg [(.int .i64), .str, (.int .i64)])) (h39.cells q41 3) fun (x42 : (Int × List UInt8 × Int × Unit)) =>
    some (((x42.1, x42.2.1, x42.2.2.1, ()), j23.2.2.2.2.1, ()), h39))))))))
  else
   (need j23.2.2.1 fun q43 =>
   (bindV (.val (.agg [(.int .i64), .str, (.int .i64)])) (h24.cells q43 3) fun (x44 : (Int × List UInt8 × Int × Unit)) =>
   some (((x44.1, x44.2.1, x44.2.2.1, ()), j23.2.2.2.1, ()), h24))))))
noncomputable def ann143 : Ann := (.two .n (.two .n (.two .n (.two (.two .n (.two (.loop [(0, (.one .str)), (1, (.one (.int .i64))), (4, (.one .ptr)), (5, (.one (.int .i64))), (6, (.one (.int .i64))), (7, (.one (.int .i64))), (8, (.one (.int .i64)))] [(.exit 0), .ret] [(0, (.one .str)), (1, (.one (.int .i64))), (4, (.one .ptr)), (5, (.one (.int .i64))), (6, (.one (.int .i64)))] .n) .n)) .n))))
theorem f143_ok (N : Nat) : FnOK Tryz.prog 143 [(.one .str), (.one (.int .i64))] (.tup [(.agg [(.int .i64), .str, (.int .i64)]), (.one (.int .i64))]) (fun x h => f143 N x.1 x.2.1 h) :=
  runK_ok envOK hmix (addCall_ok (f171_ok N) noCalls_ok) (N := N) (x := ann143) (fn := Tryz.f143) (c := Tryz.f143.body.getD .skip) (by kernel_rfl) (by kernel_rfl) (by kernel_rfl) (by kernel_rfl) (fun _ _ => by kernel_rfl)

/- usufruct/lex.life -/
noncomputable def f144 (N : Nat) (a0 : List UInt8) (a1 : Int) (h : Heap) : Option (((Int × List UInt8 × Int × Unit) × Int × Unit) × Heap) :=
  let h1 : Heap := h.push (.row [(.int .i64 0), (.str []), (.int .i64 0)] .own)
  let x2 : Int := wrapA .i64 (a1 + 1)
  let x3 : Bool := eqInt x2 (Int.ofNat a0.length)
  (bif x3 then
   (need (h1.store (h.next, 0) [(.int .i64 0), (.str []), (.int .i64 0)]) fun h4 =>
   (bindV (.val (.agg [(.int .i64), .str, (.int .i64)])) (h4.cells (h.next, 0) 3) fun (x5 : (Int × List UInt8 × Int × Unit)) =>
   some (((x5.1, x5.2.1, x5.2.2.1, ()), 0, ()), h4)))
  else
   let x6 : Int := wrapA .i64 (a1 + 1)
   (strK a0 x6 fun x7 =>
   (bind2 (f170 N x7 h1) fun (x8 : Bool) h9 =>
   let x10 : Bool := !x8
   (bif x10 then
    (need (h9.store (h.next, 0) [(.int .i64 0), (.str []), (.int .i64 0)]) fun h11 =>
    (bindV (.val (.agg [(.int .i64), .str, (.int .i64)])) (h11.cells (h.next, 0) 3) fun (x12 : (Int × List UInt8 × Int × Unit)) =>
    some (((x12.1, x12.2.1, x12.2.2.1, ()), 0, ()), h11)))
   else
    let x13 : Int := wrapA .i64 (a1 + 1)
    (bind2 (f171 N a0 x13 h9) fun (x14 : Int) h15 =>
    let x16 : Int := wrapA .i64 (x14 - a1)
    let x17 : Int := wrapA .i64 (x16 - 1)
    let x18 : Bool := ltInt 32 x17
    (bif x18 then
     (need (h15.store (h.next, 0) [(.int .i64 0), (.str []), (.int .i64 0)]) fun h19 =>
     (bindV (.val (.agg [(.int .i64), .str, (.int .i64)])) (h19.cells (h.next, 0) 3) fun (x20 : (Int × List UInt8 × Int × Unit)) =>
     some (((x20.1, x20.2.1, x20.2.2.1, ()), 0, ()), h19)))
    else
     let x21 : Int := wrapA .i64 (a1 + 1)
     (bindV (.val (.one .str)) (sliceA E h15 9 (.str a0) (some (.int .i64 x21)) (some (.int .i64 x14))) fun (x22 : List UInt8) =>
     (need (h15.store (h.next, 0) [(.int .i64 3), (.str x22), (.int .i64 a1)]) fun h23 =>
     (bindV (.val (.agg [(.int .i64), .str, (.int .i64)])) (h23.cells (h.next, 0) 3) fun (x24 : (Int × List UInt8 × Int × Unit)) =>
     some (((x24.1, x24.2.1, x24.2.2.1, ()), x14, ()), h23))))))))))
noncomputable def ann144 : Ann := .n
theorem f144_ok (N : Nat) : FnOK Tryz.prog 144 [(.one .str), (.one (.int .i64))] (.tup [(.agg [(.int .i64), .str, (.int .i64)]), (.one (.int .i64))]) (fun x h => f144 N x.1 x.2.1 h) :=
  runK_ok envOK hmix (addCall_ok (f171_ok N) (addCall_ok (f170_ok N) noCalls_ok)) (N := N) (x := ann144) (fn := Tryz.f144) (c := Tryz.f144.body.getD .skip) (by kernel_rfl) (by kernel_rfl) (by kernel_rfl) (by kernel_rfl) (fun _ _ => by kernel_rfl)

/- usufruct/lex.sign -/
noncomputable def f145_l1_b (N : Nat) (go : List UInt8 → Int → Option (Nat × Nat) → Int → SL → Int → Int → Heap → Option (Out × (List UInt8 × Int × Option (Nat × Nat) × Int × Unit) × Heap)) (v0 : List UInt8) (v1 : Int) (v4 : Option (Nat × Nat)) (v5 : Int) (v8 : SL) (v9 : Int) (v10 : Int) (h : Heap) : Option (Out × (List UInt8 × Int × Option (Nat × Nat) × Int × Unit) × Heap) :=
  let x3 : Bool := ltInt v10 v9
  (bif x3 then
   (ixK v8.a v8.len v10 1 fun q4 =>
   (bindV (.val (.one .str)) (h.cell q4) fun (x5 : List UInt8) =>
   (bindV (.val (.one .str)) (sliceA E h 9 (.str v0) (some (.int .i64 v1)) none) fun (x6 : List UInt8) =>
   (bind2 (f140 N x6 x5 h) fun (x7 : Bool) h8 =>
   (bif x7 then
    let x9 : Int := wrapA .i64 (v1 + 2)
    (need v4 fun q11 =>
    (need (h8.store q11 [(.int .i64 5), (.str x5), (.int .i64 v1)]) fun h10 =>
    some (Out.ret, (v0, v1, v4, x9, ()), h10)))
   else
    let x12 : Int := wrapA .i64 (v10 + 1)
    go v0 v1 v4 v5 v8 v9 x12 h8)))))
  else
   some ((Out.exit 0), (v0, v1, v4, v5, ()), h))
noncomputable def f145_l1 (N : Nat) (M : Nat) (v0 : List UInt8) (v1 : Int) (v4 : Option (Nat × Nat)) (v5 : Int) (v8 : SL) (v9 : Int) (v10 : Int) (h : Heap) : Option (Out × (List UInt8 × Int × Option (Nat × Nat) × Int × Unit) × Heap) := iter (fun go s h => f145_l1_b N (fun v0 v1 v4 v5 v8 v9 v10 h => go (v0, v1, v4, v5, v8, v9, v10, ()) h) s.1 s.2.1 s.2.2.1 s.2.2.2.1 s.2.2.2.2.1 s.2.2.2.2.2.1 s.2.2.2.2.2.2.1 h) M (v0, v1, v4, v5, v8, v9, v10, ()) h
theorem f145_l1_succ (N : Nat) (M : Nat) (v0 : List UInt8) (v1 : Int) (v4 : Option (Nat × Nat)) (v5 : Int) (v8 : SL) (v9 : Int) (v10 : Int) (h : Heap) : f145_l1 N (M + 1) v0 v1 v4 v5 v8 v9 v10 h = f145_l1_b N (f145_l1 N M) v0 v1 v4 v5 v8 v9 v10 h := rfl
theorem f145_l1_zero (N : Nat) (v0 : List UInt8) (v1 : Int) (v4 : Option (Nat × Nat)) (v5 : Int) (v8 : SL) (v9 : Int) (v10 : Int) (h : Heap) : f145_l1 N 0 v0 v1 v4 v5 v8 v9 v10 h = none := rfl
noncomputable def f145 (N : Nat) (a0 : List UInt8) (a1 : Int) (h : Heap) : Option (((Int × List UInt8 × Int × Unit) × Int × Unit) × Heap) :=
  let h1 : Heap := h.push (.row [(.int .i64 0), (.str []), (.int .i64 0)] .own)
  let h2 : Heap := h1.push (.row [(.str [58, 58]), (.str [45, 62]), (.str [61, 61])] .own)
  (bind3 (f145_l1 N N a0 a1 (some (h.next, 0)) 0 ⟨(some (h1.next, 0)), 3, 3, 1⟩ (Int.ofNat 3) 0 h2) fun o13 (j14 : (List UInt8 × Int × Option (Nat × Nat) × Int × Unit)) h15 =>
  (bif eqOut o13 (.exit 0) then
   (strK j14.1 j14.2.1 fun x16 =>
   (bind2 (f141 N [40, 41, 123, 125, 60, 62, 44, 59, 58, 46, 42, 38, 43, 45, 61, 33] x16 h15) fun (x17 : Int) h18 =>
   let x19 : Bool := ltInt x17 0
   (bif x19 then
    (need j14.2.2.1 fun q21 =>
    (need (h18.store q21 [(.int .i64 0), (.str []), (.int .i64 0)]) fun h20 =>
    (need j14.2.2.1 fun q22 =>
    (bindV (.val (.agg [(.int .i64), .str, (.int .i64)])) (h20.cells q22 3) fun (x23 : (Int × List UInt8 × Int × Unit)) =>
    some (((x23.1, x23.2.1, x23.2.2.1, ()), 0, ()), h20)))))
   else
    let x24 : Int := wrapA .i64 (j14.2.1 + 1)
    (bindV (.val (.one .str)) (sliceA E h18 9 (.str j14.1) (some (.int .i64 j14.2.1)) (some (.int .i64 x24))) fun (x25 : List UInt8) =>
    let x26 : Int := wrapA .i64 (j14.2.1 + 1)
    (need j14.2.2.1 fun q28 =>
    (need (h18.store q28 [(.int .i64 5), (.str x25), (.int .i64 j14.2.1)]) fun h27 =>
    (need j14.2.2.1 fun q29 =>
    (bindV (.val (.agg [(.int .i64), .str, (.int .i64)])) (h27.cells q29 3) fun (x30 : (Int × List UInt8 × Int × Unit)) =>
    some (((x30.1, x30.2.1, x30.2.2.1, ()), x26, ()), h27)))))))))
  else
   (need j14.2.2.1 fun q31 =>
   (bindV (.val (.agg [(.int .i64), .str, (.int .i64)])) (h15.cells q31 3) fun (x32 : (Int × List UInt8 × Int × Unit)) =>
   some (((x32.1, x32.2.1, x32.2.2.1, ()), j14.2.2.2.1, ()), h15)))))
noncomputable def ann145 : Ann := (.two .n (.two (.two .n (.two (.loop [(0, (.one .str)), (1, (.one (.int .i64))), (4, (.one .ptr)), (5, (.one (.int .i64))), (8, (.one .slice)), (9, (.one (.int .i64))), (10, (.one (.int .i64)))] [(.exit 0), .ret] [(0, (.one .str)), (1, (.one (.int .i64))), (4, (.one .ptr)), (5, (.one (.int .i64)))] .n) .n)) .n))
theorem f145_ok (N : Nat) : FnOK Tryz.prog 145 [(.one .str), (.one (.int .i64))] (.tup [(.agg [(.int .i64), .str, (.int .i64)]), (.one (.int .i64))]) (fun x h => f145 N x.1 x.2.1 h) :=
  runK_ok envOK hmix (addCall_ok (f141_ok N) (addCall_ok (f140_ok N) noCalls_ok)) (N := N) (x := ann145) (fn := Tryz.f145) (c := Tryz.f145.body.getD .skip) (by kernel_rfl) (by kernel_rfl) (by kernel_rfl) (by kernel_rfl) (fun _ _ => by kernel_rfl)

/- usufruct/lex.next -/
noncomputable def f91 (N : Nat) (a0 : List UInt8) (a1 : Int) (h : Heap) : Option (((Int × List UInt8 × Int × Unit) × Int × Unit) × Heap) :=
  let h1 : Heap := h.push (.row [(.int .i64 0), (.str []), (.int .i64 0)] .own)
  (need (α := Sum ((List UInt8 × Int × Option (Nat × Nat) × Unit) × Heap) (Sum ((Option (Nat × Nat) × Int × Unit) × Heap) (Empty))) (
   (strK a0 a1 fun x2 =>
   (need (α := Sum ((List UInt8 × Int × Option (Nat × Nat) × Unit) × Heap) (Sum ((List UInt8 × Int × Option (Nat × Nat) × Unit) × Heap) (Sum ((Option (Nat × Nat) × Int × Unit) × Heap) (Empty)))) (
    (need (α := Sum ((List UInt8 × Int × Option (Nat × Nat) × Unit) × Heap) (Sum ((List UInt8 × Int × Option (Nat × Nat) × Unit) × Heap) (Sum ((List UInt8 × Int × Option (Nat × Nat) × Unit) × Heap) (Sum ((Option (Nat × Nat) × Int × Unit) × Heap) (Empty))))) (
     (need (α := Sum ((List UInt8 × Int × Option (Nat × Nat) × Unit) × Heap) (Sum ((List UInt8 × Int × Option (Nat × Nat) × Unit) × Heap) (Sum ((List UInt8 × Int × Option (Nat × Nat) × Unit) × Heap) (Sum ((List UInt8 × Int × Option (Nat × Nat) × Unit) × Heap) (Sum ((List UInt8 × Int × Option (Nat × Nat) × Unit) × Heap) (Empty)))))) (
      (need (α := Sum ((List UInt8 × Int × Option (Nat × Nat) × Int × Unit) × Heap) (Sum ((List UInt8 × Int × Option (Nat × Nat) × Unit) × Heap) (Empty))) (
       let x3 : Bool := leInt 97 x2
       (bif x3 then
        let x4 : Bool := leInt x2 122
        (bif x4 then
         some (Sum.inr (Sum.inl ((a0, a1, (some (h.next, 0)), ()), h1)))
        else
         some (Sum.inl ((a0, a1, (some (h.next, 0)), x2, ()), h1)))
       else
        some (Sum.inl ((a0, a1, (some (h.next, 0)), x2, ()), h1)))) fun j5 =>
      (jcase j5 (fun (j6 : (List UInt8 × Int × Option (Nat × Nat) × Int × Unit)) h7 =>
       (need (α := Sum ((List UInt8 × Int × Option (Nat × Nat) × Int × Unit) × Heap) (Sum ((List UInt8 × Int × Option (Nat × Nat) × Unit) × Heap) (Empty))) (
        (bind2 (α := (List UInt8 × Int × Option (Nat × Nat) × Int × Bool × Unit)) (
         let x9 : Bool := leInt 65 j6.2.2.2.1
         (bif x9 then
          let x10 : Bool := leInt j6.2.2.2.1 90
          some ((j6.1, j6.2.1, j6.2.2.1, j6.2.2.2.1, x10, ()), h7)
         else
          some ((j6.1, j6.2.1, j6.2.2.1, j6.2.2.2.1, false, ()), h7))) fun (j11 : (List UInt8 × Int × Option (Nat × Nat) × Int × Bool × Unit)) h12 =>
        (bif j11.2.2.2.2.1 then
         (bif j11.2.2.2.2.1 then
          some (Sum.inr (Sum.inl ((j11.1, j11.2.1, j11.2.2.1, ()), h12)))
         else
          some (Sum.inl ((j11.1, j11.2.1, j11.2.2.1, j11.2.2.2.1, ()), h12)))
        else
         let x13 : Bool := eqInt j11.2.2.2.1 95
         (bif x13 then
          some (Sum.inr (Sum.inl ((j11.1, j11.2.1, j11.2.2.1, ()), h12)))
         else
          some (Sum.inl ((j11.1, j11.2.1, j11.2.2.1, j11.2.2.2.1, ()), h12)))))) fun j14 =>
       (jcase j14 (fun (j15 : (List UInt8 × Int × Option (Nat × Nat) × Int × Unit)) h16 =>
        let x18 : Bool := eqInt j15.2.2.2.1 48
        (bif x18 then
         some (Sum.inr (Sum.inr (Sum.inl ((j15.1, j15.2.1, j15.2.2.1, ()), h16))))
        else
         (need (α := Sum ((List UInt8 × Int × Option (Nat × Nat) × Int × Unit) × Heap) (Sum ((List UInt8 × Int × Option (Nat × Nat) × Unit) × Heap) (Empty))) (
          let x19 : Bool := leInt 49 j15.2.2.2.1
          (bif x19 then
           let x20 : Bool := leInt j15.2.2.2.1 57
           (bif x20 then
            some (Sum.inr (Sum.inl ((j15.1, j15.2.1, j15.2.2.1, ()), h16)))
           else
            some (Sum.inl ((j15.1, j15.2.1, j15.2.2.1, j15.2.2.2.1, ()), h16)))
          else
           some (Sum.inl ((j15.1, j15.2.1, j15.2.2.1, j15.2.2.2.1, ()), h16)))) fun j21 =>
         (jcase j21 (fun (j22 : (List UInt8 × Int × Option (Nat × Nat) × Int × Unit)) h23 =>
          let x25 : Bool := eqInt j22.2.2.2.1 39
          (bif x25 then
           some (Sum.inr (Sum.inr (Sum.inr (Sum.inr (Sum.inl ((j22.1, j22.2.1, j22.2.2.1, ()), h23))))))
          else
           some (Sum.inr (Sum.inl ((j22.1, j22.2.1, j22.2.2.1, ()), h23))))) fun j24 =>
         (jcase j24 (fun (j26 : (List UInt8 × Int × Option (Nat × Nat) × Unit)) h27 =>
          some (Sum.inr (Sum.inr (Sum.inr (Sum.inl ((j26.1, j26.2.1, j26.2.2.1, ()), h27)))))) fun _ =>
         none))))) fun j17 =>
       (jcase j17 (fun (j29 : (List UInt8 × Int × Option (Nat × Nat) × Unit)) h30 =>
        some (Sum.inl ((j29.1, j29.2.1, j29.2.2.1, ()), h30))) fun _ =>
       none)))) fun j8 =>
      (jcase j8 (fun (j32 : (List UInt8 × Int × Option (Nat × Nat) × Unit)) h33 =>
       some (Sum.inl ((j32.1, j32.2.1, j32.2.2.1, ()), h33))) fun _ =>
      none)))) fun j35 =>
     (jcase j35 (fun (j36 : (List UInt8 × Int × Option (Nat × Nat) × Unit)) h37 =>
      (bind2 (f142 N j36.1 j36.2.1 h37) fun (x39 : ((Int × List UInt8 × Int × Unit) × Int × Unit)) h40 =>
      (need j36.2.2.1 fun q42 =>
      (need (h40.store q42 [(.int .i64 x39.1.1), (.str x39.1.2.1), (.int .i64 x39.1.2.2.1)]) fun h41 =>
      some (Sum.inr (Sum.inr (Sum.inr (Sum.inl ((j36.2.2.1, x39.2.1, ()), h41))))))))) fun j38 =>
     (jcase j38 (fun (j43 : (List UInt8 × Int × Option (Nat × Nat) × Unit)) h44 =>
      some (Sum.inr (Sum.inl ((j43.1, j43.2.1, j43.2.2.1, ()), h44)))) fun j45 =>
     (jcase j45 (fun (j46 : (List UInt8 × Int × Option (Nat × Nat) × Unit)) h47 =>
      some (Sum.inl ((j46.1, j46.2.1, j46.2.2.1, ()), h47))) fun j48 =>
     (jcase j48 (fun (j49 : (List UInt8 × Int × Option (Nat × Nat) × Unit)) h50 =>
      some (Sum.inl ((j49.1, j49.2.1, j49.2.2.1, ()), h50))) fun j51 =>
     (jcase j51 (fun (j52 : (List UInt8 × Int × Option (Nat × Nat) × Unit)) h53 =>
      some (Sum.inr (Sum.inr (Sum.inl ((j52.1, j52.2.1, j52.2.2.1, ()), h53))))) fun _ =>
     none))))))) fun j55 =>
    (jcase j55 (fun (j56 : (List UInt8 × Int × Option (Nat × Nat) × Unit)) h57 =>
     (bind2 (f143 N j56.1 j56.2.1 h57) fun (x59 : ((Int × List UInt8 × Int × Unit) × Int × Unit)) h60 =>
     (need j56.2.2.1 fun q62 =>
     (need (h60.store q62 [(.int .i64 x59.1.1), (.str x59.1.2.1), (.int .i64 x59.1.2.2.1)]) fun h61 =>
     some (Sum.inr (Sum.inr (Sum.inl ((j56.2.2.1, x59.2.1, ()), h61)))))))) fun j58 =>
    (jcase j58 (fun (j63 : (List UInt8 × Int × Option (Nat × Nat) × Unit)) h64 =>
     some (Sum.inr (Sum.inl ((j63.1, j63.2.1, j63.2.2.1, ()), h64)))) fun j65 =>
    (jcase j65 (fun (j66 : (List UInt8 × Int × Option (Nat × Nat) × Unit)) h67 =>
     some (Sum.inl ((j66.1, j66.2.1, j66.2.2.1, ()), h67))) fun j68 =>
    (jcase j68 (fun (j69 : (Option (Nat × Nat) × Int × Unit)) h70 =>
     some (Sum.inr (Sum.inr (Sum.inl ((j69.1, j69.2.1, ()), h70))))) fun _ =>
    none)))))) fun j72 =>
   (jcase j72 (fun (j73 : (List UInt8 × Int × Option (Nat × Nat) × Unit)) h74 =>
    (bind2 (f144 N j73.1 j73.2.1 h74) fun (x76 : ((Int × List UInt8 × Int × Unit) × Int × Unit)) h77 =>
    (need j73.2.2.1 fun q79 =>
    (need (h77.store q79 [(.int .i64 x76.1.1), (.str x76.1.2.1), (.int .i64 x76.1.2.2.1)]) fun h78 =>
    some (Sum.inr (Sum.inl ((j73.2.2.1, x76.2.1, ()), h78))))))) fun j75 =>
   (jcase j75 (fun (j80 : (List UInt8 × Int × Option (Nat × Nat) × Unit)) h81 =>
    some (Sum.inl ((j80.1, j80.2.1, j80.2.2.1, ()), h81))) fun j82 =>
   (jcase j82 (fun (j83 : (Option (Nat × Nat) × Int × Unit)) h84 =>
    some (Sum.inr (Sum.inl ((j83.1, j83.2.1, ()), h84)))) fun _ =>
   none)))))) fun j86 =>
  (jcase j86 (fun (j87 : (List UInt8 × Int × Option (Nat × Nat) × Unit)) h88 =>
   (bind2 (f145 N j87.1 j87.2.1 h88) fun (x90 : ((Int × List UInt8 × Int × Unit) × Int × Unit)) h91 =>
   (need j87.2.2.1 fun q93 =>
   (need (h91.store q93 [(.int .i64 x90.1.1), (.str x90.1.2.1), (.int .i64 x90.1.2.2.1)]) fun h92 =>
   (need j87.2.2.1 fun q94 =>
   (bindV (.val (.agg [(.int .i64), .str, (.int .i64)])) (h92.cells q94 3) fun (x95 : (Int × List UInt8 × Int × Unit)) =>
   some (((x95.1, x95.2.1, x95.2.2.1, ()), x90.2.1, ()), h92))))))) fun j89 =>
  (jcase j89 (fun (j96 : (Option (Nat × Nat) × Int × Unit)) h97 =>
   (need j96.1 fun q99 =>
   (bindV (.val (.agg [(.int .i64), .str, (.int .i64)])) (h97.cells q99 3) fun (x100 : (Int × List UInt8 × Int × Unit)) =>
   some (((x100.1, x100.2.1, x100.2.2.1, ()), j96.2.1, ()), h97)))) fun _ =>
  none)))
noncomputable def ann91 : Ann := (.two .n (.two (.joinO [(.norm, [(0, (.one .str)), (1, (.one (.int .i64))), (4, (.one .ptr))]), (.ret, [(4, (.one .ptr)), (5, (.one (.int .i64)))])] (.two .n (.two (.two (.joinO [(.norm, [(0, (.one .str)), (1, (.one (.int .i64))), (4, (.one .ptr))]), ((.exit 0), [(0, (.one .str)), (1, (.one (.int .i64))), (4, (.one .ptr))]), (.ret, [(4, (.one .ptr)), (5, (.one (.int .i64)))])] (.two (.two (.joinO [(.norm, [(0, (.one .str)), (1, (.one (.int .i64))), (4, (.one .ptr))]), ((.exit 0), [(0, (.one .str)), (1, (.one (.int .i64))), (4, (.one .ptr))]), ((.exit 5), [(0, (.one .str)), (1, (.one (.int .i64))), (4, (.one .ptr))]), (.ret, [(4, (.one .ptr)), (5, (.one (.int .i64)))])] (.two (.two (.two (.joinO [(.norm, [(0, (.one .str)), (1, (.one (.int .i64))), (4, (.one .ptr))]), ((.exit 0), [(0, (.one .str)), (1, (.one (.int .i64))), (4, (.one .ptr))]), ((.exit 3), [(0, (.one .str)), (1, (.one (.int .i64))), (4, (.one .ptr))]), ((.exit 4), [(0, (.one .str)), (1, (.one (.int .i64))), (4, (.one .ptr))]), ((.exit 5), [(0, (.one .str)), (1, (.one (.int .i64))), (4, (.one .ptr))])] (.two (.two (.two (.two (.joinO [(.norm, [(0, (.one .str)), (1, (.one (.int .i64))), (4, (.one .ptr)), (6, (.one (.int .u8)))]), ((.exit 1), [(0, (.one .str)), (1, (.one (.int .i64))), (4, (.one .ptr))])] .n) (.two (.joinO [(.norm, [(0, (.one .str)), (1, (.one (.int .i64))), (4, (.one .ptr)), (6, (.one (.int .u8)))]), ((.exit 2), [(0, (.one .str)), (1, (.one (.int .i64))), (4, (.one .ptr))])] (.two (.two (.join [(0, (.one .str)), (1, (.one (.int .i64))), (4, (.one .ptr)), (6, (.one (.int .u8))), (17, (.one .bool))] .n) .n) .n)) (.two .n (.two (.joinO [(.norm, [(0, (.one .str)), (1, (.one (.int .i64))), (4, (.one .ptr)), (6, (.one (.int .u8)))]), ((.exit 4), [(0, (.one .str)), (1, (.one (.int .i64))), (4, (.one .ptr))])] .n) .n)))) .n) .n) .n)) .n) .n) .n)) .n) .n)) .n) .n))) .n))
theorem f91_ok (N : Nat) : FnOK Tryz.prog 91 [(.one .str), (.one (.int .i64))] (.tup [(.agg [(.int .i64), .str, (.int .i64)]), (.one (.int .i64))]) (fun x h => f91 N x.1 x.2.1 h) :=
  runK_ok envOK hmix (addCall_ok (f145_ok N) (addCall_ok (f144_ok N) (addCall_ok (f143_ok N) (addCall_ok (f142_ok N) noCalls_ok)))) (N := N) (x := ann91) (fn := Tryz.f91) (c := Tryz.f91.body.getD .skip) (by kernel_rfl) (by kernel_rfl) (by kernel_rfl) (by kernel_rfl) (fun _ _ => by kernel_rfl)

/- usufruct/lex.Lex -/
noncomputable def f54_l1_b (N : Nat) (go : List UInt8 → SL → AV → SL → Int → Heap → Option (Out × (List UInt8 × SL × AV × SL × Unit) × Heap)) (v0 : List UInt8) (v2 : SL) (v3 : AV) (v4 : SL) (v5 : Int) (h : Heap) : Option (Out × (List UInt8 × SL × AV × SL × Unit) × Heap) :=
  let x6 : Bool := ltInt v5 (Int.ofNat v0.length)
  (bif x6 then
   (bind2 (f91 N v0 v5 h) fun (x7 : ((Int × List UInt8 × Int × Unit) × Int × Unit)) h8 =>
   let h9 : Heap := h8.push (.row [(.int .i64 0), (.str []), (.int .i64 0)] .own)
   (need (h9.store (h8.next, 0) [(.int .i64 x7.1.1), (.str x7.1.2.1), (.int .i64 x7.1.2.2.1)]) fun h10 =>
   let x11 : Bool := eqInt x7.2.1 0
   (bif x11 then
    (bind2 (f37 N 20 v5 h10) fun (x12 : AV) h13 =>
    some (Out.ret, (v0, ⟨none, 0, 0, 0⟩, x12, v4, ()), h13))
   else
    (bindV (.val (.agg [(.int .i64), .str, (.int .i64)])) (h10.cells (h8.next, 0) 3) fun (x14 : (Int × List UInt8 × Int × Unit)) =>
    let h15 : Heap := h10.push (.row [(.int .i64 x14.1), (.str x14.2.1), (.int .i64 x14.2.2.1)] .own)
    (bindT (.val (.one .slice)) (appendA E 57 57 (.slice v4.a v4.len v4.cap v4.sz) (.slice (some (h10.next, 0)) 1 1 3) h15) fun (x16 : SL) h17 =>
    (bind2 (f90 N v0 x7.2.1 h17) fun (x18 : Int) h19 =>
    go v0 v2 v3 x16 x18 h19))))))
  else
   some ((Out.exit 0), (v0, v2, v3, v4, ()), h))
noncomputable def f54_l1 (N : Nat) (M : Nat) (v0 : List UInt8) (v2 : SL) (v3 : AV) (v4 : SL) (v5 : Int) (h : Heap) : Option (Out × (List UInt8 × SL × AV × SL × Unit) × Heap) := iter (fun go s h => f54_l1_b N (fun v0 v2 v3 v4 v5 h => go (v0, v2, v3, v4, v5, ()) h) s.1 s.2.1 s.2.2.1 s.2.2.2.1 s.2.2.2.2.1 h) M (v0, v2, v3, v4, v5, ()) h
theorem f54_l1_succ (N : Nat) (M : Nat) (v0 : List UInt8) (v2 : SL) (v3 : AV) (v4 : SL) (v5 : Int) (h : Heap) : f54_l1 N (M + 1) v0 v2 v3 v4 v5 h = f54_l1_b N (f54_l1 N M) v0 v2 v3 v4 v5 h := rfl
theorem f54_l1_zero (N : Nat) (v0 : List UInt8) (v2 : SL) (v3 : AV) (v4 : SL) (v5 : Int) (h : Heap) : f54_l1 N 0 v0 v2 v3 v4 v5 h = none := rfl
noncomputable def f54 (N : Nat) (a0 : List UInt8) (h : Heap) : Option ((SL × AV × Unit) × Heap) :=
  let x1 : Bool := ltInt 1048576 (Int.ofNat a0.length)
  (bif x1 then
   (bind2 (f37 N 5 0 h) fun (x2 : AV) h3 =>
   some ((⟨none, 0, 0, 0⟩, x2, ()), h3))
  else
   (bind2 (f90 N a0 0 h) fun (x4 : Int) h5 =>
   (bind3 (f54_l1 N N a0 ⟨none, 0, 0, 0⟩ AV.nilIface ⟨none, 0, 0, 0⟩ x4 h5) fun o20 (j21 : (List UInt8 × SL × AV × SL × Unit)) h22 =>
   (bif eqOut o20 (.exit 0) then
    let h23 : Heap := h22.push (.row [(.int .i64 0), (.str []), (.int .i64 (Int.ofNat j21.1.length))] .own)
    (bindT (.val (.one .slice)) (appendA E 57 57 (.slice j21.2.2.2.1.a j21.2.2.2.1.len j21.2.2.2.1.cap j21.2.2.2.1.sz) (.slice (some (h22.next, 0)) 1 1 3) h23) fun (x24 : SL) h25 =>
    some ((x24, AV.nilIface, ()), h25))
   else
    some ((j21.2.1, j21.2.2.1, ()), h22)))))
noncomputable def ann54 : Ann := (.two .n (.two .n (.two .n (.two .n (.two (.two (.loop [(0, (.one .str)), (2, (.one .slice)), (3, (.one .any)), (4, (.one .slice)), (5, (.one (.int .i64)))] [(.exit 0), .ret] [(0, (.one .str)), (2, (.one .slice)), (3, (.one .any)), (4, (.one .slice))] .n) .n) .n)))))
theorem f54_ok (N : Nat) : FnOK Tryz.prog 54 [(.one .str)] (.tup [(.one .slice), (.one .any)]) (fun x h => f54 N x.1 h) :=
  runK_ok envOK hmix (addCall_ok (f91_ok N) (addCall_ok (f90_ok N) (addCall_ok (f37_ok N) noCalls_ok))) (N := N) (x := ann54) (fn := Tryz.f54) (c := Tryz.f54.body.getD .skip) (by kernel_rfl) (by kernel_rfl) (by kernel_rfl) (by kernel_rfl) (fun _ _ => by kernel_rfl)

/- (*usufruct/parse.parser).peek -/
noncomputable def f56 (N : Nat) (a0 : Option (Nat × Nat)) (h : Heap) : Option ((Int × List UInt8 × Int × Unit) × Heap) :=
  let h1 : Heap := h.push (.row [(.int .i64 0), (.str []), (.int .i64 0)] .own)
  (need a0 fun q2 =>
  (bindV (.val (.one .slice)) (h1.cell (q2.1, q2.2 + 0)) fun (x3 : SL) =>
  (need a0 fun q4 =>
  (bindV (.val (.one (.int .i64))) (h1.cell (q4.1, q4.2 + 1)) fun (x5 : Int) =>
  (ixK x3.a x3.len x5 3 fun q6 =>
  (bindV (.val (.agg [(.int .i64), .str, (.int .i64)])) (h1.cells q6 3) fun (x7 : (Int × List UInt8 × Int × Unit)) =>
  (need (h1.store (h.next, 0) [(.int .i64 x7.1), (.str x7.2.1), (.int .i64 x7.2.2.1)]) fun h8 =>
  (bindV (.val (.agg [(.int .i64), .str, (.int .i64)])) (h8.cells (h.next, 0) 3) fun (x9 : (Int × List UInt8 × Int × Unit)) =>
  some ((x9.1, x9.2.1, x9.2.2.1, ()), h8)))))))))
noncomputable def ann56 : Ann := .n
theorem f56_ok (N : Nat) : FnOK Tryz.prog 56 [(.one .ptr)] (.val (.agg [(.int .i64), .str, (.int .i64)])) (fun x h => f56 N x.1 h) :=
  runK_ok envOK hmix noCalls_ok (N := N) (x := ann56) (fn := Tryz.f56) (c := Tryz.f56.body.getD .skip) (by kernel_rfl) (by kernel_rfl) (by kernel_rfl) (by kernel_rfl) (fun _ _ => by kernel_rfl)

/- (*usufruct/parse.parser).fail -/
noncomputable def f57 (N : Nat) (a0 : Option (Nat × Nat)) (a1 : Int) (h : Heap) : Option ((Unit) × Heap) :=
  (need a0 fun q1 =>
  (bindV (.val (.one .any)) (h.cell (q1.1, q1.2 + 3)) fun (x2 : AV) =>
  (bindV (.val (.one .bool)) (binA E .eql 29 (.tmp 7) (.const .nilIface) x2 AV.nilIface) fun (x3 : Bool) =>
  (bif x3 then
   (bind2 (f56 N a0 h) fun (x4 : (Int × List UInt8 × Int × Unit)) h5 =>
   (bind2 (f37 N a1 x4.2.2.1 h5) fun (x6 : AV) h7 =>
   (need a0 fun q8 =>
   (guardB (AV.single x6)
   (need (h7.store (q8.1, q8.2 + 3) [x6]) fun h9 =>
   some ((()), h9))))))
  else
   some ((()), h)))))
noncomputable def ann57 : Ann := .n
theorem f57_ok (N : Nat) : FnOK Tryz.prog 57 [(.one .ptr), (.one (.int .i64))] (.tup []) (fun x h => f57 N x.1 x.2.1 h) :=
  runK_ok envOK hmix (addCall_ok (f56_ok N) (addCall_ok (f37_ok N) noCalls_ok)) (N := N) (x := ann57) (fn := Tryz.f57) (c := Tryz.f57.body.getD .skip) (by kernel_rfl) (by kernel_rfl) (by kernel_rfl) (by kernel_rfl) (fun _ _ => by kernel_rfl)

/- (*usufruct/parse.parser).is -/
noncomputable def f146 (N : Nat) (a0 : Option (Nat × Nat)) (a1 : Int) (a2 : List UInt8) (h : Heap) : Option (Bool × Heap) :=
  (bind2 (f56 N a0 h) fun (x1 : (Int × List UInt8 × Int × Unit)) h2 =>
  let h3 : Heap := h2.push (.row [(.int .i64 0), (.str []), (.int .i64 0)] .own)
  (need (h3.store (h2.next, 0) [(.int .i64 x1.1), (.str x1.2.1), (.int .i64 x1.2.2.1)]) fun h4 =>
  (need a0 fun q5 =>
  (bindV (.val (.one .any)) (h4.cell (q5.1, q5.2 + 3)) fun (x6 : AV) =>
  (bindV (.val (.one .bool)) (binA E .eql 29 (.tmp 13) (.const .nilIface) x6 AV.nilIface) fun (x7 : Bool) =>
  (bif x7 then
   (bindV (.val (.one (.int .i64))) (h4.cell ((h2.next, 0).1, (h2.next, 0).2 + 0)) fun (x8 : Int) =>
   let x9 : Bool := eqInt x8 a1
   (bif x9 then
    (bindV (.val (.one .str)) (h4.cell ((h2.next, 0).1, (h2.next, 0).2 + 1)) fun (x10 : List UInt8) =>
    let x11 : Bool := eqBytes x10 a2
    some (x11, h4))
   else
    some (false, h4)))
  else
   some (false, h4)))))))
noncomputable def ann146 : Ann := .n
theorem f146_ok (N : Nat) : FnOK Tryz.prog 146 [(.one .ptr), (.one (.int .i64)), (.one .str)] (.val (.one .bool)) (fun x h => f146 N x.1 x.2.1 x.2.2.1 h) :=
  runK_ok envOK hmix (addCall_ok (f56_ok N) noCalls_ok) (N := N) (x := ann146) (fn := Tryz.f146) (c := Tryz.f146.body.getD .skip) (by kernel_rfl) (by kernel_rfl) (by kernel_rfl) (by kernel_rfl) (fun _ _ => by kernel_rfl)

/- (*usufruct/parse.parser).word -/
noncomputable def f92 (N : Nat) (a0 : Option (Nat × Nat)) (a1 : List UInt8) (h : Heap) : Option (Bool × Heap) :=
  (bind2 (f146 N a0 2 a1 h) fun (x1 : Bool) h2 =>
  let x3 : Bool := !x1
  (bif x3 then
   some (false, h2)
  else
   (need a0 fun q4 =>
   (bindV (.val (.one (.int .i64))) (h2.cell (q4.1, q4.2 + 1)) fun (x5 : Int) =>
   let x6 : Int := wrapA .i64 (x5 + 1)
   (need a0 fun q7 =>
   (need (h2.store (q7.1, q7.2 + 1) [(.int .i64 x6)]) fun h8 =>
   some (true, h8)))))))
noncomputable def ann92 : Ann := .n
theorem f92_ok (N : Nat) : FnOK Tryz.prog 92 [(.one .ptr), (.one .str)] (.val (.one .bool)) (fun x h => f92 N x.1 x.2.1 h) :=
  runK_ok envOK hmix (addCall_ok (f146_ok N) noCalls_ok) (N := N) (x := ann92) (fn := Tryz.f92) (c := Tryz.f92.body.getD .skip) (by kernel_rfl) (by kernel_rfl) (by kernel_rfl) (by kernel_rfl) (fun _ _ => by kernel_rfl)

/- (*usufruct/parse.parser).sign -/
noncomputable def f93 (N : Nat) (a0 : Option (Nat × Nat)) (a1 : List UInt8) (h : Heap) : Option (Bool × Heap) :=
  (bind2 (f146 N a0 5 a1 h) fun (x1 : Bool) h2 =>
  let x3 : Bool := !x1
  (bif x3 then
   some (false, h2)
  else
   (need a0 fun q4 =>
   (bindV (.val (.one (.int .i64))) (h2.cell (q4.1, q4.2 + 1)) fun (x5 : Int) =>
   let x6 : Int := wrapA .i64 (x5 + 1)
   (need a0 fun q7 =>
   (need (h2.store (q7.1, q7.2 + 1) [(.int .i64 x6)]) fun h8 =>
   some (true, h8)))))))
noncomputable def ann93 : Ann := .n
theorem f93_ok (N : Nat) : FnOK Tryz.prog 93 [(.one .ptr), (.one .str)] (.val (.one .bool)) (fun x h => f93 N x.1 x.2.1 h) :=
  runK_ok envOK hmix (addCall_ok (f146_ok N) noCalls_ok) (N := N) (x := ann93) (fn := Tryz.f93) (c := Tryz.f93.body.getD .skip) (by kernel_rfl) (by kernel_rfl) (by kernel_rfl) (by kernel_rfl) (fun _ _ => by kernel_rfl)

/- (*usufruct/parse.parser).text -/
noncomputable def f94 (N : Nat) (a0 : Option (Nat × Nat)) (a1 : Int) (h : Heap) : Option (List UInt8 × Heap) :=
  (bind2 (f56 N a0 h) fun (x1 : (Int × List UInt8 × Int × Unit)) h2 =>
  let h3 : Heap := h2.push (.row [(.int .i64 0), (.str []), (.int .i64 0)] .own)
  (need (h3.store (h2.next, 0) [(.int .i64 x1.1), (.str x1.2.1), (.int .i64 x1.2.2.1)]) fun h4 =>
  (need a0 fun q5 =>
  (bindV (.val (.one .any)) (h4.cell (q5.1, q5.2 + 3)) fun (x6 : AV) =>
  (bindV (.val (.one .bool)) (binA E .neq 29 (.tmp 11) (.const .nilIface) x6 AV.nilIface) fun (x7 : Bool) =>
  (bif x7 then
   (bind2 (f57 N a0 21 h4) fun (x8 : (Unit)) h9 =>
   some ([], h9))
  else
   (bindV (.val (.one (.int .i64))) (h4.cell ((h2.next, 0).1, (h2.next, 0).2 + 0)) fun (x10 : Int) =>
   let x11 : Bool := !eqInt x10 a1
   (bif x11 then
    (bind2 (f57 N a0 21 h4) fun (x12 : (Unit)) h13 =>
    some ([], h13))
   else
    (need a0 fun q14 =>
    (bindV (.val (.one (.int .i64))) (h4.cell (q14.1, q14.2 + 1)) fun (x15 : Int) =>
    let x16 : Int := wrapA .i64 (x15 + 1)
    (need a0 fun q17 =>
    (need (h4.store (q17.1, q17.2 + 1) [(.int .i64 x16)]) fun h18 =>
    (bindV (.val (.one .str)) (h18.cell ((h2.next, 0).1, (h2.next, 0).2 + 1)) fun (x19 : List UInt8) =>
    some (x19, h18))))))))))))))
noncomputable def ann94 : Ann := .n
theorem f94_ok (N : Nat) : FnOK Tryz.prog 94 [(.one .ptr), (.one (.int .i64))] (.val (.one .str)) (fun x h => f94 N x.1 x.2.1 h) :=
  runK_ok envOK hmix (addCall_ok (f57_ok N) (addCall_ok (f56_ok N) noCalls_ok)) (N := N) (x := ann94) (fn := Tryz.f94) (c := Tryz.f94.body.getD .skip) (by kernel_rfl) (by kernel_rfl) (by kernel_rfl) (by kernel_rfl) (fun _ _ => by kernel_rfl)

/- (*usufruct/parse.parser).double -/
noncomputable def f95 (N : Nat) (a0 : Option (Nat × Nat)) (h : Heap) : Option (List UInt8 × Heap) :=
  (bind2 (f94 N a0 1 h) fun (x1 : List UInt8) h2 =>
  (bind2 (f93 N a0 [58, 58] h2) fun (x3 : Bool) h4 =>
  (bif x3 then
   (bindV (.val (.one .str)) (binStr .add x1 [58, 58]) fun (x5 : List UInt8) =>
   (bind2 (f94 N a0 1 h4) fun (x6 : List UInt8) h7 =>
   (bindV (.val (.one .str)) (binStr .add x5 x6) fun (x8 : List UInt8) =>
   some (x8, h7))))
  else
   some (x1, h4))))
noncomputable def ann95 : Ann := .n
theorem f95_ok (N : Nat) : FnOK Tryz.prog 95 [(.one .ptr)] (.val (.one .str)) (fun x h => f95 N x.1 h) :=
  runK_ok envOK hmix (addCall_ok (f94_ok N) (addCall_ok (f93_ok N) noCalls_ok)) (N := N) (x := ann95) (fn := Tryz.f95) (c := Tryz.f95.body.getD .skip) (by kernel_rfl) (by kernel_rfl) (by kernel_rfl) (by kernel_rfl) (fun _ _ => by kernel_rfl)

/- (*usufruct/parse.parser).room -/
noncomputable def f188 (N : Nat) (a0 : Option (Nat × Nat)) (a1 : Int) (h : Heap) : Option (Bool × Heap) :=
  let x1 : Bool := leInt 64 a1
  (bif x1 then
   (bind2 (f57 N a0 5 h) fun (x2 : (Unit)) h3 =>
   (need a0 fun q4 =>
   (bindV (.val (.one .any)) (h3.cell (q4.1, q4.2 + 3)) fun (x5 : AV) =>
   (bindV (.val (.one .bool)) (binA E .eql 29 (.tmp 12) (.const .nilIface) x5 AV.nilIface) fun (x6 : Bool) =>
   some (x6, h3)))))
  else
   (need a0 fun q7 =>
   (bindV (.val (.one .any)) (h.cell (q7.1, q7.2 + 3)) fun (x8 : AV) =>
   (bindV (.val (.one .bool)) (binA E .eql 29 (.tmp 12) (.const .nilIface) x8 AV.nilIface) fun (x9 : Bool) =>
   some (x9, h)))))
noncomputable def ann188 : Ann := .n
theorem f188_ok (N : Nat) : FnOK Tryz.prog 188 [(.one .ptr), (.one (.int .i64))] (.val (.one .bool)) (fun x h => f188 N x.1 x.2.1 h) :=
  runK_ok envOK hmix (addCall_ok (f57_ok N) noCalls_ok) (N := N) (x := ann188) (fn := Tryz.f188) (c := Tryz.f188.body.getD .skip) (by kernel_rfl) (by kernel_rfl) (by kernel_rfl) (by kernel_rfl) (fun _ _ => by kernel_rfl)

/- (*usufruct/parse.parser).lives$1 -/
noncomputable def f148 (N : Nat) (a0 : Option (Nat × Nat)) (a1 : Option (Nat × Nat)) (h : Heap) : Option ((Unit) × Heap) :=
  (need a0 fun q1 =>
  (bindV (.val (.one .slice)) (h.cell q1) fun (x2 : SL) =>
  (need a1 fun q3 =>
  (bindV (.val (.one .ptr)) (h.cell q3) fun (x4 : Option (Nat × Nat)) =>
  (bind2 (f94 N x4 3 h) fun (x5 : List UInt8) h6 =>
  let h7 : Heap := h6.push (.row [(.str x5)] .own)
  (bindT (.val (.one .slice)) (appendA E 38 38 (.slice x2.a x2.len x2.cap x2.sz) (.slice (some (h6.next, 0)) 1 1 1) h7) fun (x8 : SL) h9 =>
  (need a0 fun q11 =>
  (need (h9.store q11 [(.slice x8.a x8.len x8.cap x8.sz)]) fun h10 =>
  (guardB (bif (needB a1 fun q => sameO (h.cell q) (.ptr x4)) then (bif (needB a0 fun q => sameO (h7.cell q) (.slice x2.a x2.len x2.cap x2.sz)) then (bif (needB a0 fun q => sameO (h6.cell q) (.slice x2.a x2.len x2.cap x2.sz)) then (bif (needB a0 fun q => sameO (h.cell q) (.slice x2.a x2.len x2.cap x2.sz)) then true else false) else false) else false) else false) (
  some ((()), h10)))))))))))
noncomputable def ann148 : Ann := .n
theorem f148_ok (N : Nat) : FnOK Tryz.prog 148 [(.one .ptr), (.one .ptr)] (.tup []) (fun x h => f148 N x.1 x.2.1 h) :=
  runK_ok envOK hmix (addCall_ok (f94_ok N) noCalls_ok) (N := N) (x := ann148) (fn := Tryz.f148) (c := Tryz.f148.body.getD .skip) (by kernel_rfl) (by kernel_rfl) (by kernel_rfl) (by kernel_rfl) (fun _ _ => by kernel_rfl)

/- (*usufruct/parse.parser).list, given (*usufruct/parse.parser).lives$1 -/
noncomputable def f147c148_l1_b (N : Nat) (go : Option (Nat × Nat) → List UInt8 → (Option (Nat × Nat) × Option (Nat × Nat) × Unit) → Int → Heap → Option (Out × (Unit) × Heap)) (v0 : Option (Nat × Nat)) (v1 : List UInt8) (v2 : (Option (Nat × Nat) × Option (Nat × Nat) × Unit)) (v6 : Int) (h : Heap) : Option (Out × (Unit) × Heap) :=
  (bind2 (f188 N v0 v6 h) fun (x1 : Bool) h2 =>
  (bif x1 then
   (bind2 (f148 N v2.1 v2.2.1 h2) fun (x3 : (Unit)) h4 =>
   (bind2 (f93 N v0 v1 h4) fun (x5 : Bool) h6 =>
   let x7 : Bool := !x5
   (bif x7 then
    some (Out.ret, (()), h6)
   else
    let x8 : Int := wrapA .i64 (v6 + 1)
    go v0 v1 (v2.1, v2.2.1, ()) x8 h6)))
  else
   some ((Out.exit 0), (()), h2)))
noncomputable def f147c148_l1 (N : Nat) (M : Nat) (v0 : Option (Nat × Nat)) (v1 : List UInt8) (v2 : (Option (Nat × Nat) × Option (Nat × Nat) × Unit)) (v6 : Int) (h : Heap) : Option (Out × (Unit) × Heap) := iter (fun go s h => f147c148_l1_b N (fun v0 v1 v2 v6 h => go (v0, v1, v2, v6, ()) h) s.1 s.2.1 s.2.2.1 s.2.2.2.1 h) M (v0, v1, v2, v6, ()) h
theorem f147c148_l1_succ (N : Nat) (M : Nat) (v0 : Option (Nat × Nat)) (v1 : List UInt8) (v2 : (Option (Nat × Nat) × Option (Nat × Nat) × Unit)) (v6 : Int) (h : Heap) : f147c148_l1 N (M + 1) v0 v1 v2 v6 h = f147c148_l1_b N (f147c148_l1 N M) v0 v1 v2 v6 h := rfl
theorem f147c148_l1_zero (N : Nat) (v0 : Option (Nat × Nat)) (v1 : List UInt8) (v2 : (Option (Nat × Nat) × Option (Nat × Nat) × Unit)) (v6 : Int) (h : Heap) : f147c148_l1 N 0 v0 v1 v2 v6 h = none := rfl
noncomputable def f147c148 (N : Nat) (a0 : Option (Nat × Nat)) (a1 : List UInt8) (a2 : (Option (Nat × Nat) × Option (Nat × Nat) × Unit)) (h : Heap) : Option ((Unit) × Heap) :=
  (bind3 (f147c148_l1 N N a0 a1 (a2.1, a2.2.1, ()) 0 h) fun o9 (j10 : (Unit)) h11 =>
  (bif eqOut o9 (.exit 0) then
   some ((()), h11)
  else
   some ((()), h11)))
noncomputable def ann147c148 : Ann := (.two .n (.two (.loop [(0, (.one .ptr)), (1, (.one .str)), (2, (.clo 148 [.ptr, .ptr])), (6, (.one (.int .i64)))] [(.exit 0), .ret] [] .n) .n))
theorem f147c148_ok (N : Nat) : FnOK Tryz.prog 147 [(.one .ptr), (.one .str), (.clo 148 [.ptr, .ptr])] (.tup []) (fun x h => f147c148 N x.1 x.2.1 x.2.2.1 h) :=
  runK_ok envOK hmix (addCall_ok (f93_ok N) (addCall_ok (f188_ok N) (addCall_ok (f148_ok N) noCalls_ok))) (N := N) (x := ann147c148) (fn := Tryz.f147) (c := Tryz.f147.body.getD .skip) (by kernel_rfl) (by kernel_rfl) (by kernel_rfl) (by kernel_rfl) (fun _ _ => by kernel_rfl)

/- (*usufruct/parse.parser).want -/
noncomputable def f149 (N : Nat) (a0 : Option (Nat × Nat)) (a1 : List UInt8) (h : Heap) : Option ((Unit) × Heap) :=
  (bind2 (f93 N a0 a1 h) fun (x1 : Bool) h2 =>
  let x3 : Bool := !x1
  (bif x3 then
   (bind2 (f57 N a0 21 h2) fun (x4 : (Unit)) h5 =>
   some ((()), h5))
  else
   some ((()), h2)))
noncomputable def ann149 : Ann := .n
theorem f149_ok (N : Nat) : FnOK Tryz.prog 149 [(.one .ptr), (.one .str)] (.tup []) (fun x h => f149 N x.1 x.2.1 h) :=
  runK_ok envOK hmix (addCall_ok (f93_ok N) (addCall_ok (f57_ok N) noCalls_ok)) (N := N) (x := ann149) (fn := Tryz.f149) (c := Tryz.f149.body.getD .skip) (by kernel_rfl) (by kernel_rfl) (by kernel_rfl) (by kernel_rfl) (fun _ _ => by kernel_rfl)

/- (*usufruct/parse.parser).lives -/
noncomputable def f96 (N : Nat) (a0 : Option (Nat × Nat)) (h : Heap) : Option (SL × Heap) :=
  let h1 : Heap := h.push (.row [(.ptr a0)] .own)
  let h2 : Heap := h1.push (.row [(.slice none 0 0 0)] .own)
  (bindV (.val (.one .ptr)) (h2.cell (h.next, 0)) fun (x3 : Option (Nat × Nat)) =>
  (bind2 (f93 N x3 [60] h2) fun (x4 : Bool) h5 =>
  (bif x4 then
   (bindV (.val (.one .ptr)) (h5.cell (h.next, 0)) fun (x6 : Option (Nat × Nat)) =>
   (bind2 (f147c148 N x6 [44] ((some (h1.next, 0)), (some (h.next, 0)), ()) h5) fun (x7 : (Unit)) h8 =>
   (bindV (.val (.one .ptr)) (h8.cell (h.next, 0)) fun (x9 : Option (Nat × Nat)) =>
   (bind2 (f149 N x9 [62] h8) fun (x10 : (Unit)) h11 =>
   (bindV (.val (.one .slice)) (h11.cell (h1.next, 0)) fun (x12 : SL) =>
   some (x12, h11))))))
  else
   (bindV (.val (.one .slice)) (h5.cell (h1.next, 0)) fun (x13 : SL) =>
   some (x13, h5)))))
noncomputable def ann96 : Ann := .n
theorem f96_ok (N : Nat) : FnOK Tryz.prog 96 [(.one .ptr)] (.val (.one .slice)) (fun x h => f96 N x.1 h) :=
  runK_ok envOK hmix (addCall_ok (f93_ok N) (addCall_ok (f149_ok N) (addCallS_ok (sel := fun a => isClo 2 148 a) (f147c148_ok N) noCalls_ok))) (N := N) (x := ann96) (fn := Tryz.f96) (c := Tryz.f96.body.getD .skip) (by kernel_rfl) (by kernel_rfl) (by kernel_rfl) (by kernel_rfl) (fun _ _ => by kernel_rfl)

/- (*usufruct/parse.parser).kind -/
noncomputable def f55_r (N : Nat) (rec55 : Option (Nat × Nat) → Int → Heap → Option ((Int × List UInt8 × SL × SL × Unit) × Heap)) (a0 : Option (Nat × Nat)) (a1 : Int) (h : Heap) : Option ((Int × List UInt8 × SL × SL × Unit) × Heap) :=
  let h1 : Heap := h.push (.row [(.int .i64 0), (.str []), (.slice none 0 0 0), (.slice none 0 0 0)] .own)
  (bind2 (α := (Option (Nat × Nat) × Int × Option (Nat × Nat) × Unit)) (
   let x2 : Bool := ltInt 64 a1
   (bif x2 then
    (bind2 (f57 N a0 6 h1) fun (x3 : (Unit)) h4 =>
    some ((a0, a1, (some (h.next, 0)), ()), h4))
   else
    some ((a0, a1, (some (h.next, 0)), ()), h1))) fun (j5 : (Option (Nat × Nat) × Int × Option (Nat × Nat) × Unit)) h6 =>
  (need j5.1 fun q7 =>
  (bindV (.val (.one .any)) (h6.cell (q7.1, q7.2 + 3)) fun (x8 : AV) =>
  (bindV (.val (.one .bool)) (binA E .neq 29 (.tmp 15) (.const .nilIface) x8 AV.nilIface) fun (x9 : Bool) =>
  (bif x9 then
   (need j5.2.2.1 fun q11 =>
   (need (h6.store q11 [(.int .i64 0), (.str []), (.slice none 0 0 0), (.slice none 0 0 0)]) fun h10 =>
   (need j5.2.2.1 fun q12 =>
   (bindV (.val (.agg [(.int .i64), .str, .slice, .slice])) (h10.cells q12 4) fun (x13 : (Int × List UInt8 × SL × SL × Unit)) =>
   some ((x13.1, x13.2.1, x13.2.2.1, x13.2.2.2.1, ()), h10)))))
  else
   (bind2 (f92 N j5.1 [105, 110, 116] h6) fun (x14 : Bool) h15 =>
   (bif x14 then
    (need j5.2.2.1 fun q17 =>
    (need (h15.store q17 [(.int .i64 1), (.str []), (.slice none 0 0 0), (.slice none 0 0 0)]) fun h16 =>
    (need j5.2.2.1 fun q18 =>
    (bindV (.val (.agg [(.int .i64), .str, .slice, .slice])) (h16.cells q18 4) fun (x19 : (Int × List UInt8 × SL × SL × Unit)) =>
    some ((x19.1, x19.2.1, x19.2.2.1, x19.2.2.2.1, ()), h16)))))
   else
    (bind2 (f92 N j5.1 [98, 111, 111, 108] h15) fun (x20 : Bool) h21 =>
    (bif x20 then
     (need j5.2.2.1 fun q23 =>
     (need (h21.store q23 [(.int .i64 2), (.str []), (.slice none 0 0 0), (.slice none 0 0 0)]) fun h22 =>
     (need j5.2.2.1 fun q24 =>
     (bindV (.val (.agg [(.int .i64), .str, .slice, .slice])) (h22.cells q24 4) fun (x25 : (Int × List UInt8 × SL × SL × Unit)) =>
     some ((x25.1, x25.2.1, x25.2.2.1, x25.2.2.2.1, ()), h22)))))
    else
     (bind2 (f93 N j5.1 [38] h21) fun (x26 : Bool) h27 =>
     (bif x26 then
      let h28 : Heap := h27.push (.row [(.int .i64 0), (.str []), (.slice none 0 0 0), (.slice none 0 0 0)] .own)
      (need (h28.store (h27.next, 0) [(.int .i64 4), (.str []), (.slice none 0 0 0), (.slice none 0 0 0)]) fun h29 =>
      (bind2 (α := (Option (Nat × Nat) × Int × Option (Nat × Nat) × Option (Nat × Nat) × Unit)) (
       (bind2 (f56 N j5.1 h29) fun (x30 : (Int × List UInt8 × Int × Unit)) h31 =>
       let x32 : Bool := eqInt x30.1 3
       (bif x32 then
        (bind2 (f94 N j5.1 3 h31) fun (x33 : List UInt8) h34 =>
        let h35 : Heap := h34.push (.row [(.str x33)] .own)
        (need (h35.store ((h27.next, 0).1, (h27.next, 0).2 + 2) [(.slice (some (h34.next, 0)) 1 1 1)]) fun h36 =>
        some ((j5.1, j5.2.1, j5.2.2.1, (some (h27.next, 0)), ()), h36)))
       else
        some ((j5.1, j5.2.1, j5.2.2.1, (some (h27.next, 0)), ()), h31)))) fun (j37 : (Option (Nat × Nat) × Int × Option (Nat × Nat) × Option (Nat × Nat) × Unit)) h38 =>
      (bind2 (α := (Option (Nat × Nat) × Int × Option (Nat × Nat) × Option (Nat × Nat) × Unit)) (
       (bind2 (f92 N j37.1 [109, 117, 116] h38) fun (x39 : Bool) h40 =>
       (bif x39 then
        (need j37.2.2.2.1 fun q41 =>
        (need (h40.store (q41.1, q41.2 + 0) [(.int .i64 5)]) fun h42 =>
        some ((j37.1, j37.2.1, j37.2.2.1, j37.2.2.2.1, ()), h42)))
       else
        some ((j37.1, j37.2.1, j37.2.2.1, j37.2.2.2.1, ()), h40)))) fun (j43 : (Option (Nat × Nat) × Int × Option (Nat × Nat) × Option (Nat × Nat) × Unit)) h44 =>
      let x45 : Int := wrapA .i64 (j43.2.1 + 1)
      (bind2 (rec55 j43.1 x45 h44) fun (x46 : (Int × List UInt8 × SL × SL × Unit)) h47 =>
      let h48 : Heap := h47.push (.row [(.int .i64 x46.1), (.str x46.2.1), (.slice x46.2.2.1.a x46.2.2.1.len x46.2.2.1.cap x46.2.2.1.sz), (.slice x46.2.2.2.1.a x46.2.2.2.1.len x46.2.2.2.1.cap x46.2.2.2.1.sz)] .own)
      (need j43.2.2.2.1 fun q49 =>
      (need (h48.store (q49.1, q49.2 + 3) [(.slice (some (h47.next, 0)) 1 1 4)]) fun h50 =>
      (need j43.2.2.2.1 fun q51 =>
      (bindV (.val (.agg [(.int .i64), .str, .slice, .slice])) (h50.cells q51 4) fun (x52 : (Int × List UInt8 × SL × SL × Unit)) =>
      (need j43.2.2.1 fun q54 =>
      (need (h50.store q54 [(.int .i64 x52.1), (.str x52.2.1), (.slice x52.2.2.1.a x52.2.2.1.len x52.2.2.1.cap x52.2.2.1.sz), (.slice x52.2.2.2.1.a x52.2.2.2.1.len x52.2.2.2.1.cap x52.2.2.2.1.sz)]) fun h53 =>
      (need j43.2.2.1 fun q55 =>
      (bindV (.val (.agg [(.int .i64), .str, .slice, .slice])) (h53.cells q55 4) fun (x56 : (Int × List UInt8 × SL × SL × Unit)) =>
      some ((x56.1, x56.2.1, x56.2.2.1, x56.2.2.2.1, ()), h53)))))))))))))
     else
      (bind2 (f95 N j5.1 h27) fun (x57 : List UInt8) h58 =>
      let h59 : Heap := h58.push (.row [(.int .i64 0), (.str []), (.slice none 0 0 0), (.slice none 0 0 0)] .own)
      (need (h59.store (h58.next, 0) [(.int .i64 3), (.str x57), (.slice none 0 0 0), (.slice none 0 0 0)]) fun h60 =>
      (bind2 (f96 N j5.1 h60) fun (x61 : SL) h62 =>
      (need (h62.store ((h58.next, 0).1, (h58.next, 0).2 + 2) [(.slice x61.a x61.len x61.cap x61.sz)]) fun h63 =>
      (bindV (.val (.agg [(.int .i64), .str, .slice, .slice])) (h63.cells (h58.next, 0) 4) fun (x64 : (Int × List UInt8 × SL × SL × Unit)) =>
      (need j5.2.2.1 fun q66 =>
      (need (h63.store q66 [(.int .i64 x64.1), (.str x64.2.1), (.slice x64.2.2.1.a x64.2.2.1.len x64.2.2.1.cap x64.2.2.1.sz), (.slice x64.2.2.2.1.a x64.2.2.2.1.len x64.2.2.2.1.cap x64.2.2.2.1.sz)]) fun h65 =>
      (need j5.2.2.1 fun q67 =>
      (bindV (.val (.agg [(.int .i64), .str, .slice, .slice])) (h65.cells q67 4) fun (x68 : (Int × List UInt8 × SL × SL × Unit)) =>
      some ((x68.1, x68.2.1, x68.2.2.1, x68.2.2.2.1, ()), h65)))))))))))))))))))))
noncomputable def ann55 : Ann := (.two .n (.two (.join [(0, (.one .ptr)), (1, (.one (.int .i64))), (4, (.one .ptr))] .n) (.two (.two (.two .n (.two .n (.two .n (.two .n (.two .n (.two .n (.two .n (.two (.two .n (.two (.join [(0, (.one .ptr)), (1, (.one (.int .i64))), (4, (.one .ptr)), (5, (.one .ptr))] .n) (.two (.join [(0, (.one .ptr)), (1, (.one (.int .i64))), (4, (.one .ptr)), (5, (.one .ptr))] .n) .n))) .n)))))))) .n) .n)))

noncomputable def cl_f55 (N M : Nat) : ((Option (Nat × Nat) → Int → Heap → Option ((Int × List UInt8 × SL × SL × Unit) × Heap)) × Unit) := Nat.rec (fun _ _ _ => none, ()) (fun _ r => (f55_r N r.1, ())) M
noncomputable def f55 (N M : Nat) : Option (Nat × Nat) → Int → Heap → Option ((Int × List UInt8 × SL × SL × Unit) × Heap) := (cl_f55 N M).1
theorem f55_succ (N M : Nat) (a0 : Option (Nat × Nat)) (a1 : Int) (h : Heap) : f55 N (M + 1) a0 a1 h = f55_r N (f55 N M) a0 a1 h := rfl
theorem cl_f55_okm (N : Nat) : ∀ M : Nat, (FnOK Tryz.prog 55 [(.one .ptr), (.one (.int .i64))] (.val (.agg [(.int .i64), .str, .slice, .slice])) (fun x h => f55 N M x.1 x.2.1 h)) ∧ True
  | 0 => ⟨(fun xs h r h' hx => by cases hx), trivial⟩
  | M + 1 => ⟨runK_ok envOK hmix (addCall_ok (f96_ok N) (addCall_ok (f95_ok N) (addCall_ok (f94_ok N) (addCall_ok (f93_ok N) (addCall_ok (f92_ok N) (addCall_ok (f57_ok N) (addCall_ok (f56_ok N) (addCall_ok (cl_f55_okm N M).1 noCalls_ok)))))))) (N := N) (x := ann55) (fn := Tryz.f55) (c := Tryz.f55.body.getD .skip) (by kernel_rfl) (by kernel_rfl) (by kernel_rfl) (by kernel_rfl) (fun _ _ => by kernel_rfl), trivial⟩
theorem f55_ok (N : Nat) : FnOK Tryz.prog 55 [(.one .ptr), (.one (.int .i64))] (.val (.agg [(.int .i64), .str, .slice, .slice])) (fun x h => f55 N N x.1 x.2.1 h) := (cl_f55_okm N N).1

/- usufruct/parse.Type -/
noncomputable def f23 (N : Nat) (a0 : List UInt8) (h : Heap) : Option (((Int × List UInt8 × SL × SL × Unit) × AV × Unit) × Heap) :=
  let h1 : Heap := h.push (.row [(.int .i64 0), (.str []), (.slice none 0 0 0), (.slice none 0 0 0)] .own)
  (bind2 (f54 N a0 h1) fun (x2 : (SL × AV × Unit)) h3 =>
  (bindV (.val (.one .bool)) (binA E .neq 29 (.tmp 13) (.const .nilIface) x2.2.1 AV.nilIface) fun (x4 : Bool) =>
  (bif x4 then
   (need (h3.store (h.next, 0) [(.int .i64 0), (.str []), (.slice none 0 0 0), (.slice none 0 0 0)]) fun h5 =>
   (bindV (.val (.agg [(.int .i64), .str, .slice, .slice])) (h5.cells (h.next, 0) 4) fun (x6 : (Int × List UInt8 × SL × SL × Unit)) =>
   some (((x6.1, x6.2.1, x6.2.2.1, x6.2.2.2.1, ()), x2.2.1, ()), h5)))
  else
   let h7 : Heap := h3.push (.row [(.slice x2.1.a x2.1.len x2.1.cap x2.1.sz), (.int .i64 0), (.int .i64 0), AV.nilIface] .own)
   (bind2 (f55 N N (some (h3.next, 0)) 1 h7) fun (x8 : (Int × List UInt8 × SL × SL × Unit)) h9 =>
   let h10 : Heap := h9.push (.row [(.int .i64 0), (.str []), (.slice none 0 0 0), (.slice none 0 0 0)] .own)
   (need (h10.store (h9.next, 0) [(.int .i64 x8.1), (.str x8.2.1), (.slice x8.2.2.1.a x8.2.2.1.len x8.2.2.1.cap x8.2.2.1.sz), (.slice x8.2.2.2.1.a x8.2.2.2.1.len x8.2.2.2.1.cap x8.2.2.2.1.sz)]) fun h11 =>
   (bind2 (f56 N (some (h3.next, 0)) h11) fun (x12 : (Int × List UInt8 × Int × Unit)) h13 =>
   let x14 : Bool := !eqInt x12.1 0
   (bif x14 then
    (bind2 (f57 N (some (h3.next, 0)) 21 h13) fun (x15 : (Unit)) h16 =>
    (bindV (.val (.one .any)) (h16.cell ((h3.next, 0).1, (h3.next, 0).2 + 3)) fun (x17 : AV) =>
    (bindV (.val (.one .bool)) (binA E .neq 29 (.tmp 31) (.const .nilIface) x17 AV.nilIface) fun (x18 : Bool) =>
    (bif x18 then
     (bindV (.val (.one .any)) (h16.cell ((h3.next, 0).1, (h3.next, 0).2 + 3)) fun (x19 : AV) =>
     (need (h16.store (h.next, 0) [(.int .i64 0), (.str []), (.slice none 0 0 0), (.slice none 0 0 0)]) fun h20 =>
     (guardB (bif (sameO (h20.cell ((h3.next, 0).1, (h3.next, 0).2 + 3)) x19) then (bif (sameO (h16.cell ((h3.next, 0).1, (h3.next, 0).2 + 3)) x19) then true else false) else false) (
     (bindV (.val (.agg [(.int .i64), .str, .slice, .slice])) (h20.cells (h.next, 0) 4) fun (x21 : (Int × List UInt8 × SL × SL × Unit)) =>
     some (((x21.1, x21.2.1, x21.2.2.1, x21.2.2.2.1, ()), x19, ()), h20))))))
    else
     (bindV (.val (.agg [(.int .i64), .str, .slice, .slice])) (h16.cells (h9.next, 0) 4) fun (x22 : (Int × List UInt8 × SL × SL × Unit)) =>
     (need (h16.store (h.next, 0) [(.int .i64 x22.1), (.str x22.2.1), (.slice x22.2.2.1.a x22.2.2.1.len x22.2.2.1.cap x22.2.2.1.sz), (.slice x22.2.2.2.1.a x22.2.2.2.1.len x22.2.2.2.1.cap x22.2.2.2.1.sz)]) fun h23 =>
     (bindV (.val (.agg [(.int .i64), .str, .slice, .slice])) (h23.cells (h.next, 0) 4) fun (x24 : (Int × List UInt8 × SL × SL × Unit)) =>
     some (((x24.1, x24.2.1, x24.2.2.1, x24.2.2.2.1, ()), AV.nilIface, ()), h23))))))))
   else
    (bindV (.val (.one .any)) (h13.cell ((h3.next, 0).1, (h3.next, 0).2 + 3)) fun (x25 : AV) =>
    (bindV (.val (.one .bool)) (binA E .neq 29 (.tmp 31) (.const .nilIface) x25 AV.nilIface) fun (x26 : Bool) =>
    (bif x26 then
     (bindV (.val (.one .any)) (h13.cell ((h3.next, 0).1, (h3.next, 0).2 + 3)) fun (x27 : AV) =>
     (need (h13.store (h.next, 0) [(.int .i64 0), (.str []), (.slice none 0 0 0), (.slice none 0 0 0)]) fun h28 =>
     (guardB (bif (sameO (h28.cell ((h3.next, 0).1, (h3.next, 0).2 + 3)) x27) then (bif (sameO (h13.cell ((h3.next, 0).1, (h3.next, 0).2 + 3)) x27) then true else false) else false) (
     (bindV (.val (.agg [(.int .i64), .str, .slice, .slice])) (h28.cells (h.next, 0) 4) fun (x29 : (Int × List UInt8 × SL × SL × Unit)) =>
     some (((x29.1, x29.2.1, x29.2.2.1, x29.2.2.2.1, ()), x27, ()), h28))))))
    else
     (bindV (.val (.agg [(.int .i64), .str, .slice, .slice])) (h13.cells (h9.next, 0) 4) fun (x30 : (Int × List UInt8 × SL × SL × Unit)) =>
     (need (h13.store (h.next, 0) [(.int .i64 x30.1), (.str x30.2.1), (.slice x30.2.2.1.a x30.2.2.1.len x30.2.2.1.cap x30.2.2.1.sz), (.slice x30.2.2.2.1.a x30.2.2.2.1.len x30.2.2.2.1.cap x30.2.2.2.1.sz)]) fun h31 =>
     (bindV (.val (.agg [(.int .i64), .str, .slice, .slice])) (h31.cells (h.next, 0) 4) fun (x32 : (Int × List UInt8 × SL × SL × Unit)) =>
     some (((x32.1, x32.2.1, x32.2.2.1, x32.2.2.2.1, ()), AV.nilIface, ()), h31))))))))))))))
noncomputable def ann23 : Ann := .n
theorem f23_ok (N : Nat) : FnOK Tryz.prog 23 [(.one .str)] (.tup [(.agg [(.int .i64), .str, .slice, .slice]), (.one .any)]) (fun x h => f23 N x.1 h) :=
  runK_ok envOK hmix (addCall_ok (f57_ok N) (addCall_ok (f56_ok N) (addCall_ok (f55_ok N) (addCall_ok (f54_ok N) noCalls_ok)))) (N := N) (x := ann23) (fn := Tryz.f23) (c := Tryz.f23.body.getD .skip) (by kernel_rfl) (by kernel_rfl) (by kernel_rfl) (by kernel_rfl) (fun _ _ => by kernel_rfl)

/- usufruct/usufructref6.skip -/
noncomputable def f64_l2_b (N : Nat) (go : List UInt8 → Int → Heap → Option (Out × (List UInt8 × Int × Unit) × Heap)) (v0 : List UInt8) (v1 : Int) (h : Heap) : Option (Out × (List UInt8 × Int × Unit) × Heap) :=
  let x16 : Bool := ltInt v1 (Int.ofNat v0.length)
  (bif x16 then
   (strK v0 v1 fun x17 =>
   let x18 : Bool := !eqInt x17 10
   (bif x18 then
    let x19 : Int := wrapA .i64 (v1 + 1)
    go v0 x19 h
   else
    some ((Out.exit 2), (v0, v1, ()), h)))
  else
   some ((Out.exit 2), (v0, v1, ()), h))
noncomputable def f64_l2 (N : Nat) (M : Nat) (v0 : List UInt8) (v1 : Int) (h : Heap) : Option (Out × (List UInt8 × Int × Unit) × Heap) := iter (fun go s h => f64_l2_b N (fun v0 v1 h => go (v0, v1, ()) h) s.1 s.2.1 h) M (v0, v1, ()) h
theorem f64_l2_succ (N : Nat) (M : Nat) (v0 : List UInt8) (v1 : Int) (h : Heap) : f64_l2 N (M + 1) v0 v1 h = f64_l2_b N (f64_l2 N M) v0 v1 h := rfl
theorem f64_l2_zero (N : Nat) (v0 : List UInt8) (v1 : Int) (h : Heap) : f64_l2 N 0 v0 v1 h = none := rfl
noncomputable def f64_l1_b (N : Nat) (go : List UInt8 → Int → Heap → Option (Out × (Int × Unit) × Heap)) (v0 : List UInt8) (v1 : Int) (h : Heap) : Option (Out × (Int × Unit) × Heap) :=
  let x1 : Bool := ltInt v1 (Int.ofNat v0.length)
  (bif x1 then
   (strK v0 v1 fun x2 =>
   let x3 : Bool := eqInt x2 32
   (bif x3 then
    let x4 : Int := wrapA .i64 (v1 + 1)
    go v0 x4 h
   else
    (strK v0 v1 fun x5 =>
    let x6 : Bool := eqInt x5 9
    (bif x6 then
     let x7 : Int := wrapA .i64 (v1 + 1)
     go v0 x7 h
    else
     (strK v0 v1 fun x8 =>
     let x9 : Bool := eqInt x8 10
     (bif x9 then
      let x10 : Int := wrapA .i64 (v1 + 1)
      go v0 x10 h
     else
      let x11 : Int := wrapA .i64 ((Int.ofNat v0.length) - v1)
      let x12 : Bool := leInt 2 x11
      (bif x12 then
       let x13 : Int := wrapA .i64 (v1 + 2)
       (bindV (.val (.one .str)) (sliceA E h 9 (.str v0) (some (.int .i64 v1)) (some (.int .i64 x13))) fun (x14 : List UInt8) =>
       let x15 : Bool := eqBytes x14 [47, 47]
       (bif x15 then
        (bind3 (f64_l2 N N v0 v1 h) fun _ (j21 : (List UInt8 × Int × Unit)) h22 =>
        go j21.1 j21.2.1 h22)
       else
        some ((Out.exit 0), (v1, ()), h)))
      else
       some ((Out.exit 0), (v1, ()), h))))))))
  else
   some ((Out.exit 0), (v1, ()), h))
noncomputable def f64_l1 (N : Nat) (M : Nat) (v0 : List UInt8) (v1 : Int) (h : Heap) : Option (Out × (Int × Unit) × Heap) := iter (fun go s h => f64_l1_b N (fun v0 v1 h => go (v0, v1, ()) h) s.1 s.2.1 h) M (v0, v1, ()) h
theorem f64_l1_succ (N : Nat) (M : Nat) (v0 : List UInt8) (v1 : Int) (h : Heap) : f64_l1 N (M + 1) v0 v1 h = f64_l1_b N (f64_l1 N M) v0 v1 h := rfl
theorem f64_l1_zero (N : Nat) (v0 : List UInt8) (v1 : Int) (h : Heap) : f64_l1 N 0 v0 v1 h = none := rfl
noncomputable def f64 (N : Nat) (a0 : List UInt8) (a1 : Int) (h : Heap) : Option (Int × Heap) :=
  (bind3 (f64_l1 N N a0 a1 h) fun _ (j24 : (Int × Unit)) h25 =>
  some (j24.1, h25))
noncomputable def ann64 : Ann := (.two .n (.two (.two (.loop [(0, (.one .str)), (1, (.one (.int .i64)))] [(.exit 0)] [(1, (.one (.int .i64)))] (.two .n (.two (.two .n (.two (.two .n (.two (.two (.two (.loop [(0, (.one .str)), (1, (.one (.int .i64)))] [(.exit 2)] [(0, (.one .str)), (1, (.one (.int .i64)))] .n) .n) .n) .n)) .n)) .n))) .n) .n))
theorem f64_ok (N : Nat) : FnOK Tryz.prog 64 [(.one .str), (.one (.int .i64))] (.val (.one (.int .i64))) (fun x h => f64 N x.1 x.2.1 h) :=
  runK_ok envOK hmix noCalls_ok (N := N) (x := ann64) (fn := Tryz.f64) (c := Tryz.f64.body.getD .skip) (by kernel_rfl) (by kernel_rfl) (by kernel_rfl) (by kernel_rfl) (fun _ _ => by kernel_rfl)

/- usufruct/usufructref6.letter -/
noncomputable def f65 (N : Nat) (a0 : Int) (h : Heap) : Option (Bool × Heap) :=
  let x1 : Bool := leInt 97 a0
  (bif x1 then
   let x2 : Bool := leInt a0 122
   (bif x2 then
    some (true, h)
   else
    let x3 : Bool := leInt 65 a0
    (bif x3 then
     let x4 : Bool := leInt a0 90
     (bif x4 then
      some (true, h)
     else
      let x5 : Bool := eqInt a0 95
      some (x5, h))
    else
     let x6 : Bool := eqInt a0 95
     some (x6, h)))
  else
   let x7 : Bool := leInt 65 a0
   (bif x7 then
    let x8 : Bool := leInt a0 90
    (bif x8 then
     some (true, h)
    else
     let x9 : Bool := eqInt a0 95
     some (x9, h))
   else
    let x10 : Bool := eqInt a0 95
    some (x10, h)))
noncomputable def ann65 : Ann := .n
theorem f65_ok (N : Nat) : FnOK Tryz.prog 65 [(.one (.int .u8))] (.val (.one .bool)) (fun x h => f65 N x.1 h) :=
  runK_ok envOK hmix noCalls_ok (N := N) (x := ann65) (fn := Tryz.f65) (c := Tryz.f65.body.getD .skip) (by kernel_rfl) (by kernel_rfl) (by kernel_rfl) (by kernel_rfl) (fun _ _ => by kernel_rfl)

/- usufruct/usufructref6.digit -/
noncomputable def f69 (N : Nat) (a0 : Int) (h : Heap) : Option (Bool × Heap) :=
  let x1 : Bool := leInt 48 a0
  (bif x1 then
   let x2 : Bool := leInt a0 57
   some (x2, h)
  else
   some (false, h))
noncomputable def ann69 : Ann := .n
theorem f69_ok (N : Nat) : FnOK Tryz.prog 69 [(.one (.int .u8))] (.val (.one .bool)) (fun x h => f69 N x.1 h) :=
  runK_ok envOK hmix noCalls_ok (N := N) (x := ann69) (fn := Tryz.f69) (c := Tryz.f69.body.getD .skip) (by kernel_rfl) (by kernel_rfl) (by kernel_rfl) (by kernel_rfl) (fun _ _ => by kernel_rfl)

/- usufruct/usufructref6.run -/
noncomputable def f66_l1_b (N : Nat) (go : List UInt8 → Int → Heap → Option (Out × (Int × Unit) × Heap)) (v0 : List UInt8) (v1 : Int) (h : Heap) : Option (Out × (Int × Unit) × Heap) :=
  let x1 : Bool := ltInt v1 (Int.ofNat v0.length)
  (bif x1 then
   (strK v0 v1 fun x2 =>
   (bind2 (f65 N x2 h) fun (x3 : Bool) h4 =>
   (bif x3 then
    let x5 : Int := wrapA .i64 (v1 + 1)
    go v0 x5 h4
   else
    (strK v0 v1 fun x6 =>
    (bind2 (f69 N x6 h4) fun (x7 : Bool) h8 =>
    (bif x7 then
     let x9 : Int := wrapA .i64 (v1 + 1)
     go v0 x9 h8
    else
     some ((Out.exit 0), (v1, ()), h8)))))))
  else
   some ((Out.exit 0), (v1, ()), h))
noncomputable def f66_l1 (N : Nat) (M : Nat) (v0 : List UInt8) (v1 : Int) (h : Heap) : Option (Out × (Int × Unit) × Heap) := iter (fun go s h => f66_l1_b N (fun v0 v1 h => go (v0, v1, ()) h) s.1 s.2.1 h) M (v0, v1, ()) h
theorem f66_l1_succ (N : Nat) (M : Nat) (v0 : List UInt8) (v1 : Int) (h : Heap) : f66_l1 N (M + 1) v0 v1 h = f66_l1_b N (f66_l1 N M) v0 v1 h := rfl
theorem f66_l1_zero (N : Nat) (v0 : List UInt8) (v1 : Int) (h : Heap) : f66_l1 N 0 v0 v1 h = none := rfl
noncomputable def f66 (N : Nat) (a0 : List UInt8) (a1 : Int) (h : Heap) : Option (Int × Heap) :=
  (bind3 (f66_l1 N N a0 a1 h) fun _ (j11 : (Int × Unit)) h12 =>
  some (j11.1, h12))
noncomputable def ann66 : Ann := (.two .n (.two (.two (.loop [(0, (.one .str)), (1, (.one (.int .i64)))] [(.exit 0)] [(1, (.one (.int .i64)))] .n) .n) .n))
theorem f66_ok (N : Nat) : FnOK Tryz.prog 66 [(.one .str), (.one (.int .i64))] (.val (.one (.int .i64))) (fun x h => f66 N x.1 x.2.1 h) :=
  runK_ok envOK hmix (addCall_ok (f69_ok N) (addCall_ok (f65_ok N) noCalls_ok)) (N := N) (x := ann66) (fn := Tryz.f66) (c := Tryz.f66.body.getD .skip) (by kernel_rfl) (by kernel_rfl) (by kernel_rfl) (by kernel_rfl) (fun _ _ => by kernel_rfl)

/- usufruct/usufructref6.Word -/
noncomputable def f67_l1_b (N : Nat) (go : List UInt8 → Bool → SL → Int → Heap → Option (Out × (Bool × Unit) × Heap)) (v0 : List UInt8) (v2 : Bool) (v3 : SL) (v4 : Int) (h : Heap) : Option (Out × (Bool × Unit) × Heap) :=
  let x2 : Bool := ltInt v4 (Int.ofNat v3.len)
  (bif x2 then
   (ixK v3.a v3.len v4 1 fun q3 =>
   (bindV (.val (.one .str)) (h.cell q3) fun (x4 : List UInt8) =>
   let x5 : Bool := eqBytes x4 v0
   (bif x5 then
    some (Out.ret, (true, ()), h)
   else
    let x6 : Int := wrapA .i64 (v4 + 1)
    go v0 v2 v3 x6 h)))
  else
   some ((Out.exit 0), (v2, ()), h))
noncomputable def f67_l1 (N : Nat) (M : Nat) (v0 : List UInt8) (v2 : Bool) (v3 : SL) (v4 : Int) (h : Heap) : Option (Out × (Bool × Unit) × Heap) := iter (fun go s h => f67_l1_b N (fun v0 v2 v3 v4 h => go (v0, v2, v3, v4, ()) h) s.1 s.2.1 s.2.2.1 s.2.2.2.1 h) M (v0, v2, v3, v4, ()) h
theorem f67_l1_succ (N : Nat) (M : Nat) (v0 : List UInt8) (v2 : Bool) (v3 : SL) (v4 : Int) (h : Heap) : f67_l1 N (M + 1) v0 v2 v3 v4 h = f67_l1_b N (f67_l1 N M) v0 v2 v3 v4 h := rfl
theorem f67_l1_zero (N : Nat) (v0 : List UInt8) (v2 : Bool) (v3 : SL) (v4 : Int) (h : Heap) : f67_l1 N 0 v0 v2 v3 v4 h = none := rfl
noncomputable def f67 (N : Nat) (a0 : List UInt8) (h : Heap) : Option (Bool × Heap) :=
  let h1 : Heap := h.push (.row [(.str [102, 110]), (.str [115, 116, 114, 117, 99, 116]), (.str [112, 117, 98]), (.str [108, 101, 116]), (.str [109, 117, 116]), (.str [105, 102]), (.str [101, 108, 115, 101]), (.str [119, 104, 105, 108, 101]), (.str [108, 111, 111, 112]), (.str [98, 114, 101, 97, 107]), (.str [99, 111, 110, 116, 105, 110, 117, 101]), (.str [114, 101, 116, 117, 114, 110]), (.str [100, 114, 111, 112]), (.str [116, 114, 117, 101]), (.str [102, 97, 108, 115, 101]), (.str [105, 110, 116]), (.str [98, 111, 111, 108])] .own)
  (bind3 (f67_l1 N N a0 false ⟨(some (h.next, 0)), 17, 17, 1⟩ 0 h1) fun o7 (j8 : (Bool × Unit)) h9 =>
  (bif eqOut o7 (.exit 0) then
   some (false, h9)
  else
   some (j8.1, h9)))
noncomputable def ann67 : Ann := (.two .n (.two .n (.two (.two .n (.two (.loop [(0, (.one .str)), (2, (.one .bool)), (3, (.one .slice)), (4, (.one (.int .i64)))] [(.exit 0), .ret] [(2, (.one .bool))] .n) .n)) .n)))
theorem f67_ok (N : Nat) : FnOK Tryz.prog 67 [(.one .str)] (.val (.one .bool)) (fun x h => f67 N x.1 h) :=
  runK_ok envOK hmix noCalls_ok (N := N) (x := ann67) (fn := Tryz.f67) (c := Tryz.f67.body.getD .skip) (by kernel_rfl) (by kernel_rfl) (by kernel_rfl) (by kernel_rfl) (fun _ _ => by kernel_rfl)

/- usufruct/usufructref6.Life -/
noncomputable def f68 (N : Nat) (a0 : List UInt8) (h : Heap) : Option (Bool × Heap) :=
  let x1 : Bool := leInt 1 (Int.ofNat a0.length)
  (bif x1 then
   let x2 : Bool := leInt (Int.ofNat a0.length) 32
   (bif x2 then
    (strK a0 0 fun x3 =>
    (bind2 (f65 N x3 h) fun (x4 : Bool) h5 =>
    (bif x4 then
     (bind2 (f66 N a0 0 h5) fun (x6 : Int) h7 =>
     let x8 : Bool := eqInt x6 (Int.ofNat a0.length)
     some (x8, h7))
    else
     some (false, h5))))
   else
    some (false, h))
  else
   some (false, h))
noncomputable def ann68 : Ann := .n
theorem f68_ok (N : Nat) : FnOK Tryz.prog 68 [(.one .str)] (.val (.one .bool)) (fun x h => f68 N x.1 h) :=
  runK_ok envOK hmix (addCall_ok (f66_ok N) (addCall_ok (f65_ok N) noCalls_ok)) (N := N) (x := ann68) (fn := Tryz.f68) (c := Tryz.f68.body.getD .skip) (by kernel_rfl) (by kernel_rfl) (by kernel_rfl) (by kernel_rfl) (fun _ _ => by kernel_rfl)

/- usufruct/usufructref6.Name -/
noncomputable def f46 (N : Nat) (a0 : List UInt8) (h : Heap) : Option (Bool × Heap) :=
  (bind2 (f68 N a0 h) fun (x1 : Bool) h2 =>
  (bif x1 then
   (bind2 (f67 N a0 h2) fun (x3 : Bool) h4 =>
   let x5 : Bool := !x3
   some (x5, h4))
  else
   some (false, h2)))
noncomputable def ann46 : Ann := .n
theorem f46_ok (N : Nat) : FnOK Tryz.prog 46 [(.one .str)] (.val (.one .bool)) (fun x h => f46 N x.1 h) :=
  runK_ok envOK hmix (addCall_ok (f68_ok N) (addCall_ok (f67_ok N) noCalls_ok)) (N := N) (x := ann46) (fn := Tryz.f46) (c := Tryz.f46.body.getD .skip) (by kernel_rfl) (by kernel_rfl) (by kernel_rfl) (by kernel_rfl) (fun _ _ => by kernel_rfl)

/- usufruct/usufructref6.number -/
noncomputable def f70_l1_b (N : Nat) (go : List UInt8 → Bool → Int → Int → Heap → Option (Out × (Bool × Int × Unit) × Heap)) (v0 : List UInt8) (v2 : Bool) (v3 : Int) (v4 : Int) (h : Heap) : Option (Out × (Bool × Int × Unit) × Heap) :=
  let x10 : Bool := ltInt v4 (Int.ofNat v0.length)
  (bif x10 then
   (strK v0 v4 fun x11 =>
   (bind2 (f69 N x11 h) fun (x12 : Bool) h13 =>
   let x14 : Bool := !x12
   (bif x14 then
    some (Out.ret, (false, v3, ()), h13)
   else
    let x15 : Int := wrapA .i64 (v3 * 10)
    (strK v0 v4 fun x16 =>
    let x17 : Int := wrapA .u8 (x16 - 48)
    let x18 : Int := wrapA .i64 x17
    let x19 : Int := wrapA .i64 (x15 + x18)
    let x20 : Int := wrapA .i64 (v4 + 1)
    go v0 v2 x19 x20 h13))))
  else
   some ((Out.exit 0), (v2, v3, ()), h))
noncomputable def f70_l1 (N : Nat) (M : Nat) (v0 : List UInt8) (v2 : Bool) (v3 : Int) (v4 : Int) (h : Heap) : Option (Out × (Bool × Int × Unit) × Heap) := iter (fun go s h => f70_l1_b N (fun v0 v2 v3 v4 h => go (v0, v2, v3, v4, ()) h) s.1 s.2.1 s.2.2.1 s.2.2.2.1 h) M (v0, v2, v3, v4, ()) h
theorem f70_l1_succ (N : Nat) (M : Nat) (v0 : List UInt8) (v2 : Bool) (v3 : Int) (v4 : Int) (h : Heap) : f70_l1 N (M + 1) v0 v2 v3 v4 h = f70_l1_b N (f70_l1 N M) v0 v2 v3 v4 h := rfl
theorem f70_l1_zero (N : Nat) (v0 : List UInt8) (v2 : Bool) (v3 : Int) (v4 : Int) (h : Heap) : f70_l1 N 0 v0 v2 v3 v4 h = none := rfl
noncomputable def f70 (N : Nat) (a0 : List UInt8) (h : Heap) : Option (Bool × Heap) :=
  (need (α := Sum ((List UInt8 × Bool × Unit) × Heap) (Sum ((Bool × Unit) × Heap) (Empty))) (
   let x1 : Bool := eqInt (Int.ofNat a0.length) 0
   (bif x1 then
    some (Sum.inr (Sum.inl ((false, ()), h)))
   else
    let x2 : Bool := ltInt 10 (Int.ofNat a0.length)
    (bif x2 then
     some (Sum.inr (Sum.inl ((false, ()), h)))
    else
     let x3 : Bool := ltInt 1 (Int.ofNat a0.length)
     (bif x3 then
      (strK a0 0 fun x4 =>
      let x5 : Bool := eqInt x4 48
      (bif x5 then
       some (Sum.inr (Sum.inl ((false, ()), h)))
      else
       some (Sum.inl ((a0, false, ()), h))))
     else
      some (Sum.inl ((a0, false, ()), h)))))) fun j6 =>
  (jcase j6 (fun (j7 : (List UInt8 × Bool × Unit)) h8 =>
   (bind3 (f70_l1 N N j7.1 j7.2.1 0 0 h8) fun o21 (j22 : (Bool × Int × Unit)) h23 =>
   (bif eqOut o21 (.exit 0) then
    let x24 : Bool := leInt j22.2.1 2147483647
    some (x24, h23)
   else
    some (j22.1, h23)))) fun j9 =>
  (jcase j9 (fun (j25 : (Bool × Unit)) h26 =>
   some (j25.1, h26)) fun _ =>
  none)))
noncomputable def ann70 : Ann := (.two .n (.two (.joinO [(.norm, [(0, (.one .str)), (2, (.one .bool))]), (.ret, [(2, (.one .bool))])] .n) (.two .n (.two (.two .n (.two (.loop [(0, (.one .str)), (2, (.one .bool)), (3, (.one (.int .i64))), (4, (.one (.int .i64)))] [(.exit 0), .ret] [(2, (.one .bool)), (3, (.one (.int .i64)))] .n) .n)) .n))))
theorem f70_ok (N : Nat) : FnOK Tryz.prog 70 [(.one .str)] (.val (.one .bool)) (fun x h => f70 N x.1 h) :=
  runK_ok envOK hmix (addCall_ok (f69_ok N) noCalls_ok) (N := N) (x := ann70) (fn := Tryz.f70) (c := Tryz.f70.body.getD .skip) (by kernel_rfl) (by kernel_rfl) (by kernel_rfl) (by kernel_rfl) (fun _ _ => by kernel_rfl)

/- usufruct/usufructref6.sign -/
noncomputable def f71_l2_b (N : Nat) (go : List UInt8 → Int → Int → List UInt8 → Int → Heap → Option (Out × (Int × Unit) × Heap)) (v0 : List UInt8) (v1 : Int) (v4 : Int) (v7 : List UInt8) (v8 : Int) (h : Heap) : Option (Out × (Int × Unit) × Heap) :=
  let x15 : Bool := ltInt v8 (Int.ofNat v7.length)
  (bif x15 then
   (strK v7 v8 fun x16 =>
   (strK v0 v1 fun x17 =>
   let x18 : Bool := eqInt x16 x17
   (bif x18 then
    some (Out.ret, (1, ()), h)
   else
    let x19 : Int := wrapA .i64 (v8 + 1)
    go v0 v1 v4 v7 x19 h)))
  else
   some ((Out.exit 2), (v4, ()), h))
noncomputable def f71_l2 (N : Nat) (M : Nat) (v0 : List UInt8) (v1 : Int) (v4 : Int) (v7 : List UInt8) (v8 : Int) (h : Heap) : Option (Out × (Int × Unit) × Heap) := iter (fun go s h => f71_l2_b N (fun v0 v1 v4 v7 v8 h => go (v0, v1, v4, v7, v8, ()) h) s.1 s.2.1 s.2.2.1 s.2.2.2.1 s.2.2.2.2.1 h) M (v0, v1, v4, v7, v8, ()) h
theorem f71_l2_succ (N : Nat) (M : Nat) (v0 : List UInt8) (v1 : Int) (v4 : Int) (v7 : List UInt8) (v8 : Int) (h : Heap) : f71_l2 N (M + 1) v0 v1 v4 v7 v8 h = f71_l2_b N (f71_l2 N M) v0 v1 v4 v7 v8 h := rfl
theorem f71_l2_zero (N : Nat) (v0 : List UInt8) (v1 : Int) (v4 : Int) (v7 : List UInt8) (v8 : Int) (h : Heap) : f71_l2 N 0 v0 v1 v4 v7 v8 h = none := rfl
noncomputable def f71_l1_b (N : Nat) (go : List UInt8 → Int → Int → SL → Int → Heap → Option (Out × (List UInt8 × Int × Int × Unit) × Heap)) (v0 : List UInt8) (v1 : Int) (v4 : Int) (v5 : SL) (v6 : Int) (h : Heap) : Option (Out × (List UInt8 × Int × Int × Unit) × Heap) :=
  let x2 : Bool := ltInt v6 (Int.ofNat v5.len)
  (bif x2 then
   let x3 : Int := wrapA .i64 ((Int.ofNat v0.length) - v1)
   let x4 : Bool := leInt 2 x3
   (bif x4 then
    let x5 : Int := wrapA .i64 (v1 + 2)
    (bindV (.val (.one .str)) (sliceA E h 9 (.str v0) (some (.int .i64 v1)) (some (.int .i64 x5))) fun (x6 : List UInt8) =>
    (ixK v5.a v5.len v6 1 fun q7 =>
    (bindV (.val (.one .str)) (h.cell q7) fun (x8 : List UInt8) =>
    let x9 : Bool := eqBytes x6 x8
    (bif x9 then
     some (Out.ret, (v0, v1, 2, ()), h)
    else
     let x10 : Int := wrapA .i64 (v6 + 1)
     go v0 v1 v4 v5 x10 h))))
   else
    let x11 : Int := wrapA .i64 (v6 + 1)
    go v0 v1 v4 v5 x11 h)
  else
   some ((Out.exit 0), (v0, v1, v4, ()), h))
noncomputable def f71_l1 (N : Nat) (M : Nat) (v0 : List UInt8) (v1 : Int) (v4 : Int) (v5 : SL) (v6 : Int) (h : Heap) : Option (Out × (List UInt8 × Int × Int × Unit) × Heap) := iter (fun go s h => f71_l1_b N (fun v0 v1 v4 v5 v6 h => go (v0, v1, v4, v5, v6, ()) h) s.1 s.2.1 s.2.2.1 s.2.2.2.1 s.2.2.2.2.1 h) M (v0, v1, v4, v5, v6, ()) h
theorem f71_l1_succ (N : Nat) (M : Nat) (v0 : List UInt8) (v1 : Int) (v4 : Int) (v5 : SL) (v6 : Int) (h : Heap) : f71_l1 N (M + 1) v0 v1 v4 v5 v6 h = f71_l1_b N (f71_l1 N M) v0 v1 v4 v5 v6 h := rfl
theorem f71_l1_zero (N : Nat) (v0 : List UInt8) (v1 : Int) (v4 : Int) (v5 : SL) (v6 : Int) (h : Heap) : f71_l1 N 0 v0 v1 v4 v5 v6 h = none := rfl
noncomputable def f71 (N : Nat) (a0 : List UInt8) (a1 : Int) (h : Heap) : Option (Int × Heap) :=
  let h1 : Heap := h.push (.row [(.str [58, 58]), (.str [45, 62]), (.str [61, 61])] .own)
  (bind3 (f71_l1 N N a0 a1 0 ⟨(some (h.next, 0)), 3, 3, 1⟩ 0 h1) fun o12 (j13 : (List UInt8 × Int × Int × Unit)) h14 =>
  (bif eqOut o12 (.exit 0) then
   (bind3 (f71_l2 N N j13.1 j13.2.1 j13.2.2.1 [40, 41, 123, 125, 60, 62, 44, 59, 58, 46, 42, 38, 43, 45, 61, 33] 0 h14) fun o20 (j21 : (Int × Unit)) h22 =>
   (bif eqOut o20 (.exit 2) then
    some (0, h22)
   else
    some (j21.1, h22)))
  else
   some (j13.2.2.1, h14)))
noncomputable def ann71 : Ann := (.two .n (.two .n (.two (.two .n (.two (.loop [(0, (.one .str)), (1, (.one (.int .i64))), (4, (.one (.int .i64))), (5, (.one .slice)), (6, (.one (.int .i64)))] [(.exit 0), .ret] [(0, (.one .str)), (1, (.one (.int .i64))), (4, (.one (.int .i64)))] .n) .n)) (.two .n (.two (.two .n (.two (.loop [(0, (.one .str)), (1, (.one (.int .i64))), (4, (.one (.int .i64))), (7, (.one .str)), (8, (.one (.int .i64)))] [(.exit 2), .ret] [(4, (.one (.int .i64)))] .n) .n)) .n)))))
theorem f71_ok (N : Nat) : FnOK Tryz.prog 71 [(.one .str), (.one (.int .i64))] (.val (.one (.int .i64))) (fun x h => f71 N x.1 x.2.1 h) :=
  runK_ok envOK hmix noCalls_ok (N := N) (x := ann71) (fn := Tryz.f71) (c := Tryz.f71.body.getD .skip) (by kernel_rfl) (by kernel_rfl) (by kernel_rfl) (by kernel_rfl) (fun _ _ => by kernel_rfl)

/- usufruct/usufructref6.Lex -/
noncomputable def f28_l1_b (N : Nat) (go : List UInt8 → SL → Int → Int → SL → Int → Heap → Option (Out × (List UInt8 × SL × Int × Int × SL × Unit) × Heap)) (v0 : List UInt8) (v2 : SL) (v3 : Int) (v4 : Int) (v5 : SL) (v6 : Int) (h : Heap) : Option (Out × (List UInt8 × SL × Int × Int × SL × Unit) × Heap) :=
  let x4 : Bool := ltInt v6 (Int.ofNat v0.length)
  (bif x4 then
   let h5 : Heap := h.push (.row [(.int .i64 0), (.str []), (.int .i64 0)] .own)
   (need (h5.store (h.next, 0) [(.int .i64 0), (.str []), (.int .i64 v6)]) fun h6 =>
   (strK v0 v6 fun x7 =>
   (bind2 (f65 N x7 h6) fun (x8 : Bool) h9 =>
   (bif x8 then
    (bind2 (f66 N v0 v6 h9) fun (x10 : Int) h11 =>
    (bindV (.val (.one .str)) (sliceA E h11 9 (.str v0) (some (.int .i64 v6)) (some (.int .i64 x10))) fun (x12 : List UInt8) =>
    (need (h11.store ((h.next, 0).1, (h.next, 0).2 + 1) [(.str x12)]) fun h13 =>
    (need (h13.store ((h.next, 0).1, (h.next, 0).2 + 0) [(.int .i64 1)]) fun h14 =>
    (bindV (.val (.one .str)) (h14.cell ((h.next, 0).1, (h.next, 0).2 + 1)) fun (x15 : List UInt8) =>
    (bind2 (f67 N x15 h14) fun (x16 : Bool) h17 =>
    (bif x16 then
     (need (h17.store ((h.next, 0).1, (h.next, 0).2 + 0) [(.int .i64 2)]) fun h18 =>
     (bindV (.val (.agg [(.int .i64), .str, (.int .i64)])) (h18.cells (h.next, 0) 3) fun (x19 : (Int × List UInt8 × Int × Unit)) =>
     let h20 : Heap := h18.push (.row [(.int .i64 x19.1), (.str x19.2.1), (.int .i64 x19.2.2.1)] .own)
     (bindT (.val (.one .slice)) (appendA E 57 57 (.slice v5.a v5.len v5.cap v5.sz) (.slice (some (h18.next, 0)) 1 1 3) h20) fun (x21 : SL) h22 =>
     (bind2 (f64 N v0 x10 h22) fun (x23 : Int) h24 =>
     go v0 v2 v3 v4 x21 x23 h24))))
    else
     (bindV (.val (.one .str)) (h17.cell ((h.next, 0).1, (h.next, 0).2 + 1)) fun (x25 : List UInt8) =>
     (bind2 (f46 N x25 h17) fun (x26 : Bool) h27 =>
     let x28 : Bool := !x26
     (bif x28 then
      some (Out.ret, (v0, ⟨none, 0, 0, 0⟩, 20, v6, v5, ()), h27)
     else
      (bindV (.val (.agg [(.int .i64), .str, (.int .i64)])) (h27.cells (h.next, 0) 3) fun (x29 : (Int × List UInt8 × Int × Unit)) =>
      let h30 : Heap := h27.push (.row [(.int .i64 x29.1), (.str x29.2.1), (.int .i64 x29.2.2.1)] .own)
      (bindT (.val (.one .slice)) (appendA E 57 57 (.slice v5.a v5.len v5.cap v5.sz) (.slice (some (h27.next, 0)) 1 1 3) h30) fun (x31 : SL) h32 =>
      (bind2 (f64 N v0 x10 h32) fun (x33 : Int) h34 =>
      go v0 v2 v3 v4 x31 x33 h34)))))))))))))
   else
    (strK v0 v6 fun x35 =>
    let x36 : Bool := eqInt x35 39
    (bif x36 then
     let x37 : Int := wrapA .i64 (v6 + 1)
     (bind2 (f66 N v0 x37 h9) fun (x38 : Int) h39 =>
     let x40 : Int := wrapA .i64 (v6 + 1)
     (bindV (.val (.one .str)) (sliceA E h39 9 (.str v0) (some (.int .i64 x40)) (some (.int .i64 x38))) fun (x41 : List UInt8) =>
     (need (h39.store ((h.next, 0).1, (h.next, 0).2 + 1) [(.str x41)]) fun h42 =>
     (need (h42.store ((h.next, 0).1, (h.next, 0).2 + 0) [(.int .i64 3)]) fun h43 =>
     (bindV (.val (.one .str)) (h43.cell ((h.next, 0).1, (h.next, 0).2 + 1)) fun (x44 : List UInt8) =>
     (bind2 (f68 N x44 h43) fun (x45 : Bool) h46 =>
     let x47 : Bool := !x45
     (bif x47 then
      some (Out.ret, (v0, ⟨none, 0, 0, 0⟩, 20, v6, v5, ()), h46)
     else
      (bindV (.val (.agg [(.int .i64), .str, (.int .i64)])) (h46.cells (h.next, 0) 3) fun (x48 : (Int × List UInt8 × Int × Unit)) =>
      let h49 : Heap := h46.push (.row [(.int .i64 x48.1), (.str x48.2.1), (.int .i64 x48.2.2.1)] .own)
      (bindT (.val (.one .slice)) (appendA E 57 57 (.slice v5.a v5.len v5.cap v5.sz) (.slice (some (h46.next, 0)) 1 1 3) h49) fun (x50 : SL) h51 =>
      (bind2 (f64 N v0 x38 h51) fun (x52 : Int) h53 =>
      go v0 v2 v3 v4 x50 x52 h53))))))))))
    else
     (strK v0 v6 fun x54 =>
     (bind2 (f69 N x54 h9) fun (x55 : Bool) h56 =>
     (bif x55 then
      (bind2 (f66 N v0 v6 h56) fun (x57 : Int) h58 =>
      (bindV (.val (.one .str)) (sliceA E h58 9 (.str v0) (some (.int .i64 v6)) (some (.int .i64 x57))) fun (x59 : List UInt8) =>
      (need (h58.store ((h.next, 0).1, (h.next, 0).2 + 1) [(.str x59)]) fun h60 =>
      (need (h60.store ((h.next, 0).1, (h.next, 0).2 + 0) [(.int .i64 4)]) fun h61 =>
      (bindV (.val (.one .str)) (h61.cell ((h.next, 0).1, (h.next, 0).2 + 1)) fun (x62 : List UInt8) =>
      (bind2 (f70 N x62 h61) fun (x63 : Bool) h64 =>
      let x65 : Bool := !x63
      (bif x65 then
       some (Out.ret, (v0, ⟨none, 0, 0, 0⟩, 20, v6, v5, ()), h64)
      else
       (bindV (.val (.agg [(.int .i64), .str, (.int .i64)])) (h64.cells (h.next, 0) 3) fun (x66 : (Int × List UInt8 × Int × Unit)) =>
       let h67 : Heap := h64.push (.row [(.int .i64 x66.1), (.str x66.2.1), (.int .i64 x66.2.2.1)] .own)
       (bindT (.val (.one .slice)) (appendA E 57 57 (.slice v5.a v5.len v5.cap v5.sz) (.slice (some (h64.next, 0)) 1 1 3) h67) fun (x68 : SL) h69 =>
       (bind2 (f64 N v0 x57 h69) fun (x70 : Int) h71 =>
       go v0 v2 v3 v4 x68 x70 h71))))))))))
     else
      (bind2 (f71 N v0 v6 h56) fun (x72 : Int) h73 =>
      let x74 : Bool := eqInt x72 0
      (bif x74 then
       some (Out.ret, (v0, ⟨none, 0, 0, 0⟩, 20, v6, v5, ()), h73)
      else
       let x75 : Int := wrapA .i64 (v6 + x72)
       (bindV (.val (.one .str)) (sliceA E h73 9 (.str v0) (some (.int .i64 v6)) (some (.int .i64 x75))) fun (x76 : List UInt8) =>
       (need (h73.store ((h.next, 0).1, (h.next, 0).2 + 1) [(.str x76)]) fun h77 =>
       (need (h77.store ((h.next, 0).1, (h.next, 0).2 + 0) [(.int .i64 5)]) fun h78 =>
       (bindV (.val (.agg [(.int .i64), .str, (.int .i64)])) (h78.cells (h.next, 0) 3) fun (x79 : (Int × List UInt8 × Int × Unit)) =>
       let h80 : Heap := h78.push (.row [(.int .i64 x79.1), (.str x79.2.1), (.int .i64 x79.2.2.1)] .own)
       (bindT (.val (.one .slice)) (appendA E 57 57 (.slice v5.a v5.len v5.cap v5.sz) (.slice (some (h78.next, 0)) 1 1 3) h80) fun (x81 : SL) h82 =>
       (bind2 (f64 N v0 x75 h82) fun (x83 : Int) h84 =>
       go v0 v2 v3 v4 x81 x83 h84)))))))))))))))))
  else
   some ((Out.exit 0), (v0, v2, v3, v4, v5, ()), h))
noncomputable def f28_l1 (N : Nat) (M : Nat) (v0 : List UInt8) (v2 : SL) (v3 : Int) (v4 : Int) (v5 : SL) (v6 : Int) (h : Heap) : Option (Out × (List UInt8 × SL × Int × Int × SL × Unit) × Heap) := iter (fun go s h => f28_l1_b N (fun v0 v2 v3 v4 v5 v6 h => go (v0, v2, v3, v4, v5, v6, ()) h) s.1 s.2.1 s.2.2.1 s.2.2.2.1 s.2.2.2.2.1 s.2.2.2.2.2.1 h) M (v0, v2, v3, v4, v5, v6, ()) h
theorem f28_l1_succ (N : Nat) (M : Nat) (v0 : List UInt8) (v2 : SL) (v3 : Int) (v4 : Int) (v5 : SL) (v6 : Int) (h : Heap) : f28_l1 N (M + 1) v0 v2 v3 v4 v5 v6 h = f28_l1_b N (f28_l1 N M) v0 v2 v3 v4 v5 v6 h := rfl
theorem f28_l1_zero (N : Nat) (v0 : List UInt8) (v2 : SL) (v3 : Int) (v4 : Int) (v5 : SL) (v6 : Int) (h : Heap) : f28_l1 N 0 v0 v2 v3 v4 v5 v6 h = none := rfl
noncomputable def f28 (N : Nat) (a0 : List UInt8) (h : Heap) : Option ((SL × Int × Int × Unit) × Heap) :=
  let x1 : Bool := ltInt 1048576 (Int.ofNat a0.length)
  (bif x1 then
   some ((⟨none, 0, 0, 0⟩, 5, 0, ()), h)
  else
   (bind2 (f64 N a0 0 h) fun (x2 : Int) h3 =>
   (bind3 (f28_l1 N N a0 ⟨none, 0, 0, 0⟩ 0 0 ⟨none, 0, 0, 0⟩ x2 h3) fun o85 (j86 : (List UInt8 × SL × Int × Int × SL × Unit)) h87 =>
   (bif eqOut o85 (.exit 0) then
    let h88 : Heap := h87.push (.row [(.int .i64 0), (.str []), (.int .i64 (Int.ofNat j86.1.length))] .own)
    (bindT (.val (.one .slice)) (appendA E 57 57 (.slice j86.2.2.2.2.1.a j86.2.2.2.2.1.len j86.2.2.2.2.1.cap j86.2.2.2.2.1.sz) (.slice (some (h87.next, 0)) 1 1 3) h88) fun (x89 : SL) h90 =>
    some ((x89, 0, 0, ()), h90))
   else
    some ((j86.2.1, j86.2.2.1, j86.2.2.2.1, ()), h87)))))
noncomputable def ann28 : Ann := (.two .n (.two .n (.two .n (.two .n (.two (.two (.loop [(0, (.one .str)), (2, (.one .slice)), (3, (.one (.int .i64))), (4, (.one (.int .i64))), (5, (.one .slice)), (6, (.one (.int .i64)))] [(.exit 0), .ret] [(0, (.one .str)), (2, (.one .slice)), (3, (.one (.int .i64))), (4, (.one (.int .i64))), (5, (.one .slice))] .n) .n) .n)))))
theorem f28_ok (N : Nat) : FnOK Tryz.prog 28 [(.one .str)] (.tup [(.one .slice), (.one (.int .i64)), (.one (.int .i64))]) (fun x h => f28 N x.1 h) :=
  runK_ok envOK hmix (addCall_ok (f71_ok N) (addCall_ok (f70_ok N) (addCall_ok (f69_ok N) (addCall_ok (f68_ok N) (addCall_ok (f67_ok N) (addCall_ok (f66_ok N) (addCall_ok (f65_ok N) (addCall_ok (f64_ok N) (addCall_ok (f46_ok N) noCalls_ok))))))))) (N := N) (x := ann28) (fn := Tryz.f28) (c := Tryz.f28.body.getD .skip) (by kernel_rfl) (by kernel_rfl) (by kernel_rfl) (by kernel_rfl) (fun _ _ => by kernel_rfl)

/- (*usufruct/usufructref8.P).fail -/
noncomputable def f62 (N : Nat) (a0 : Option (Nat × Nat)) (a1 : Int) (h : Heap) : Option ((Unit) × Heap) :=
  (need a0 fun q1 =>
  (bindV (.val (.one (.int .i64))) (h.cell (q1.1, q1.2 + 2)) fun (x2 : Int) =>
  let x3 : Bool := eqInt x2 0
  (bif x3 then
   (need a0 fun q4 =>
   (bindV (.val (.one .slice)) (h.cell (q4.1, q4.2 + 0)) fun (x5 : SL) =>
   (need a0 fun q6 =>
   (bindV (.val (.one (.int .i64))) (h.cell (q6.1, q6.2 + 1)) fun (x7 : Int) =>
   (ixK x5.a x5.len x7 3 fun q8 =>
   (bindV (.val (.one (.int .i64))) (h.cell (q8.1, q8.2 + 2)) fun (x9 : Int) =>
   (need a0 fun q10 =>
   (need (h.store (q10.1, q10.2 + 2) [(.int .i64 a1)]) fun h11 =>
   (need a0 fun q12 =>
   (need (h11.store (q12.1, q12.2 + 3) [(.int .i64 x9)]) fun h13 =>
   some ((()), h13)))))))))))
  else
   some ((()), h))))
noncomputable def ann62 : Ann := .n
theorem f62_ok (N : Nat) : FnOK Tryz.prog 62 [(.one .ptr), (.one (.int .i64))] (.tup []) (fun x h => f62 N x.1 x.2.1 h) :=
  runK_ok envOK hmix noCalls_ok (N := N) (x := ann62) (fn := Tryz.f62) (c := Tryz.f62.body.getD .skip) (by kernel_rfl) (by kernel_rfl) (by kernel_rfl) (by kernel_rfl) (fun _ _ => by kernel_rfl)

/- (*usufruct/usufructref8.P).deep -/
noncomputable def f97 (N : Nat) (a0 : Option (Nat × Nat)) (a1 : Int) (h : Heap) : Option ((Unit) × Heap) :=
  (need a0 fun q1 =>
  (bindV (.val (.one (.int .i64))) (h.cell (q1.1, q1.2 + 2)) fun (x2 : Int) =>
  let x3 : Bool := eqInt x2 0
  (bif x3 then
   let x4 : Bool := ltInt 64 a1
   (bif x4 then
    (bind2 (f62 N a0 6 h) fun (x5 : (Unit)) h6 =>
    some ((()), h6))
   else
    some ((()), h))
  else
   some ((()), h))))
noncomputable def ann97 : Ann := .n
theorem f97_ok (N : Nat) : FnOK Tryz.prog 97 [(.one .ptr), (.one (.int .i64))] (.tup []) (fun x h => f97 N x.1 x.2.1 h) :=
  runK_ok envOK hmix (addCall_ok (f62_ok N) noCalls_ok) (N := N) (x := ann97) (fn := Tryz.f97) (c := Tryz.f97.body.getD .skip) (by kernel_rfl) (by kernel_rfl) (by kernel_rfl) (by kernel_rfl) (fun _ _ => by kernel_rfl)

/- (*usufruct/usufructref8.P).is -/
noncomputable def f150 (N : Nat) (a0 : Option (Nat × Nat)) (a1 : List UInt8) (h : Heap) : Option (Bool × Heap) :=
  (need a0 fun q1 =>
  (bindV (.val (.one .slice)) (h.cell (q1.1, q1.2 + 0)) fun (x2 : SL) =>
  (need a0 fun q3 =>
  (bindV (.val (.one (.int .i64))) (h.cell (q3.1, q3.2 + 1)) fun (x4 : Int) =>
  (ixK x2.a x2.len x4 3 fun q5 =>
  (bindV (.val (.agg [(.int .i64), .str, (.int .i64)])) (h.cells q5 3) fun (x6 : (Int × List UInt8 × Int × Unit)) =>
  let h7 : Heap := h.push (.row [(.int .i64 0), (.str []), (.int .i64 0)] .own)
  (need (h7.store (h.next, 0) [(.int .i64 x6.1), (.str x6.2.1), (.int .i64 x6.2.2.1)]) fun h8 =>
  (guardB (bif (sameO (h7.cells q5 3) (.agg [(.int .i64 x6.1), (.str x6.2.1), (.int .i64 x6.2.2.1)])) then (bif (sameO (h.cells q5 3) (.agg [(.int .i64 x6.1), (.str x6.2.1), (.int .i64 x6.2.2.1)])) then (bif (sameO (h7.cell (q3.1, q3.2 + 1)) (.int .i64 x4)) then (bif (sameO (h.cell (q3.1, q3.2 + 1)) (.int .i64 x4)) then (bif (sameO (h7.cell (q1.1, q1.2 + 0)) (.slice x2.a x2.len x2.cap x2.sz)) then (bif (sameO (h.cell (q1.1, q1.2 + 0)) (.slice x2.a x2.len x2.cap x2.sz)) then true else false) else false) else false) else false) else false) else false) (
  (bindV (.val (.one (.int .i64))) (h8.cell ((h.next, 0).1, (h.next, 0).2 + 0)) fun (x9 : Int) =>
  let x10 : Bool := eqInt x9 2
  (bif x10 then
   (bindV (.val (.one .str)) (h8.cell ((h.next, 0).1, (h.next, 0).2 + 1)) fun (x11 : List UInt8) =>
   let x12 : Bool := eqBytes x11 a1
   some (x12, h8))
  else
   (bindV (.val (.one (.int .i64))) (h8.cell ((h.next, 0).1, (h.next, 0).2 + 0)) fun (x13 : Int) =>
   let x14 : Bool := eqInt x13 5
   (bif x14 then
    (bindV (.val (.one .str)) (h8.cell ((h.next, 0).1, (h.next, 0).2 + 1)) fun (x15 : List UInt8) =>
    let x16 : Bool := eqBytes x15 a1
    some (x16, h8))
   else
    some (false, h8))))))))))))))
noncomputable def ann150 : Ann := .n
theorem f150_ok (N : Nat) : FnOK Tryz.prog 150 [(.one .ptr), (.one .str)] (.val (.one .bool)) (fun x h => f150 N x.1 x.2.1 h) :=
  runK_ok envOK hmix noCalls_ok (N := N) (x := ann150) (fn := Tryz.f150) (c := Tryz.f150.body.getD .skip) (by kernel_rfl) (by kernel_rfl) (by kernel_rfl) (by kernel_rfl) (fun _ _ => by kernel_rfl)

/- (*usufruct/usufructref8.P).opt -/
noncomputable def f98 (N : Nat) (a0 : Option (Nat × Nat)) (a1 : List UInt8) (h : Heap) : Option (Bool × Heap) :=
  (need a0 fun q1 =>
  (bindV (.val (.one (.int .i64))) (h.cell (q1.1, q1.2 + 2)) fun (x2 : Int) =>
  let x3 : Bool := eqInt x2 0
  (bif x3 then
   (bind2 (f150 N a0 a1 h) fun (x4 : Bool) h5 =>
   (bif x4 then
    (need a0 fun q6 =>
    (bindV (.val (.one (.int .i64))) (h5.cell (q6.1, q6.2 + 1)) fun (x7 : Int) =>
    let x8 : Int := wrapA .i64 (x7 + 1)
    (need a0 fun q9 =>
    (need (h5.store (q9.1, q9.2 + 1) [(.int .i64 x8)]) fun h10 =>
    some (true, h10)))))
   else
    some (false, h5)))
  else
   some (false, h))))
noncomputable def ann98 : Ann := .n
theorem f98_ok (N : Nat) : FnOK Tryz.prog 98 [(.one .ptr), (.one .str)] (.val (.one .bool)) (fun x h => f98 N x.1 x.2.1 h) :=
  runK_ok envOK hmix (addCall_ok (f150_ok N) noCalls_ok) (N := N) (x := ann98) (fn := Tryz.f98) (c := Tryz.f98.body.getD .skip) (by kernel_rfl) (by kernel_rfl) (by kernel_rfl) (by kernel_rfl) (fun _ _ => by kernel_rfl)

/- (*usufruct/usufructref8.P).kind -/
noncomputable def f61 (N : Nat) (a0 : Option (Nat × Nat)) (a1 : Int) (h : Heap) : Option (Bool × Heap) :=
  (need a0 fun q1 =>
  (bindV (.val (.one .slice)) (h.cell (q1.1, q1.2 + 0)) fun (x2 : SL) =>
  (need a0 fun q3 =>
  (bindV (.val (.one (.int .i64))) (h.cell (q3.1, q3.2 + 1)) fun (x4 : Int) =>
  (ixK x2.a x2.len x4 3 fun q5 =>
  (bindV (.val (.one (.int .i64))) (h.cell (q5.1, q5.2 + 0)) fun (x6 : Int) =>
  let x7 : Bool := eqInt x6 a1
  some (x7, h)))))))
noncomputable def ann61 : Ann := .n
theorem f61_ok (N : Nat) : FnOK Tryz.prog 61 [(.one .ptr), (.one (.int .i64))] (.val (.one .bool)) (fun x h => f61 N x.1 x.2.1 h) :=
  runK_ok envOK hmix noCalls_ok (N := N) (x := ann61) (fn := Tryz.f61) (c := Tryz.f61.body.getD .skip) (by kernel_rfl) (by kernel_rfl) (by kernel_rfl) (by kernel_rfl) (fun _ _ => by kernel_rfl)

/- (*usufruct/usufructref8.P).text -/
noncomputable def f99 (N : Nat) (a0 : Option (Nat × Nat)) (a1 : Int) (h : Heap) : Option (List UInt8 × Heap) :=
  (bind2 (α := (Option (Nat × Nat) × Unit)) (
   (bind2 (α := (Option (Nat × Nat) × Bool × Unit)) (
    (need a0 fun q1 =>
    (bindV (.val (.one (.int .i64))) (h.cell (q1.1, q1.2 + 2)) fun (x2 : Int) =>
    let x3 : Bool := eqInt x2 0
    (bif x3 then
     (bind2 (f61 N a0 a1 h) fun (x4 : Bool) h5 =>
     let x6 : Bool := !x4
     some ((a0, x6, ()), h5))
    else
     some ((a0, false, ()), h))))) fun (j7 : (Option (Nat × Nat) × Bool × Unit)) h8 =>
   (bif j7.2.1 then
    (bind2 (f62 N j7.1 21 h8) fun (x9 : (Unit)) h10 =>
    some ((j7.1, ()), h10))
   else
    some ((j7.1, ()), h8)))) fun (j11 : (Option (Nat × Nat) × Unit)) h12 =>
  (need j11.1 fun q13 =>
  (bindV (.val (.one (.int .i64))) (h12.cell (q13.1, q13.2 + 2)) fun (x14 : Int) =>
  let x15 : Bool := !eqInt x14 0
  (bif x15 then
   some ([], h12)
  else
   (need j11.1 fun q16 =>
   (bindV (.val (.one (.int .i64))) (h12.cell (q16.1, q16.2 + 1)) fun (x17 : Int) =>
   let x18 : Int := wrapA .i64 (x17 + 1)
   (need j11.1 fun q19 =>
   (need (h12.store (q19.1, q19.2 + 1) [(.int .i64 x18)]) fun h20 =>
   (need j11.1 fun q21 =>
   (bindV (.val (.one .slice)) (h20.cell (q21.1, q21.2 + 0)) fun (x22 : SL) =>
   (need j11.1 fun q23 =>
   (bindV (.val (.one (.int .i64))) (h20.cell (q23.1, q23.2 + 1)) fun (x24 : Int) =>
   let x25 : Int := wrapA .i64 (x24 - 1)
   (ixK x22.a x22.len x25 3 fun q26 =>
   (bindV (.val (.one .str)) (h20.cell (q26.1, q26.2 + 1)) fun (x27 : List UInt8) =>
   some (x27, h20)))))))))))))))
noncomputable def ann99 : Ann := (.two .n (.two (.join [(0, (.one .ptr))] (.two (.join [(0, (.one .ptr)), (15, (.one .bool))] .n) .n)) .n))
theorem f99_ok (N : Nat) : FnOK Tryz.prog 99 [(.one .ptr), (.one (.int .i64))] (.val (.one .str)) (fun x h => f99 N x.1 x.2.1 h) :=
  runK_ok envOK hmix (addCall_ok (f62_ok N) (addCall_ok (f61_ok N) noCalls_ok)) (N := N) (x := ann99) (fn := Tryz.f99) (c := Tryz.f99.body.getD .skip) (by kernel_rfl) (by kernel_rfl) (by kernel_rfl) (by kernel_rfl) (fun _ _ => by kernel_rfl)

/- (*usufruct/usufructref8.P).name -/
noncomputable def f100 (N : Nat) (a0 : Option (Nat × Nat)) (h : Heap) : Option (List UInt8 × Heap) :=
  (bind2 (f99 N a0 1 h) fun (x1 : List UInt8) h2 =>
  (bind2 (f98 N a0 [58, 58] h2) fun (x3 : Bool) h4 =>
  (bif x3 then
   (bindV (.val (.one .str)) (binStr .add x1 [58, 58]) fun (x5 : List UInt8) =>
   (bind2 (f99 N a0 1 h4) fun (x6 : List UInt8) h7 =>
   (bindV (.val (.one .str)) (binStr .add x5 x6) fun (x8 : List UInt8) =>
   some (x8, h7))))
  else
   some (x1, h4))))
noncomputable def ann100 : Ann := .n
theorem f100_ok (N : Nat) : FnOK Tryz.prog 100 [(.one .ptr)] (.val (.one .str)) (fun x h => f100 N x.1 h) :=
  runK_ok envOK hmix (addCall_ok (f99_ok N) (addCall_ok (f98_ok N) noCalls_ok)) (N := N) (x := ann100) (fn := Tryz.f100) (c := Tryz.f100.body.getD .skip) (by kernel_rfl) (by kernel_rfl) (by kernel_rfl) (by kernel_rfl) (fun _ _ => by kernel_rfl)

/- (*usufruct/usufructref8.P).long -/
noncomputable def f151 (N : Nat) (a0 : Option (Nat × Nat)) (a1 : Int) (h : Heap) : Option ((Unit) × Heap) :=
  (need a0 fun q1 =>
  (bindV (.val (.one (.int .i64))) (h.cell (q1.1, q1.2 + 2)) fun (x2 : Int) =>
  let x3 : Bool := eqInt x2 0
  (bif x3 then
   let x4 : Bool := leInt 64 a1
   (bif x4 then
    (bind2 (f62 N a0 5 h) fun (x5 : (Unit)) h6 =>
    some ((()), h6))
   else
    some ((()), h))
  else
   some ((()), h))))
noncomputable def ann151 : Ann := .n
theorem f151_ok (N : Nat) : FnOK Tryz.prog 151 [(.one .ptr), (.one (.int .i64))] (.tup []) (fun x h => f151 N x.1 x.2.1 h) :=
  runK_ok envOK hmix (addCall_ok (f62_ok N) noCalls_ok) (N := N) (x := ann151) (fn := Tryz.f151) (c := Tryz.f151.body.getD .skip) (by kernel_rfl) (by kernel_rfl) (by kernel_rfl) (by kernel_rfl) (fun _ _ => by kernel_rfl)

/- (*usufruct/usufructref8.P).take -/
noncomputable def f152 (N : Nat) (a0 : Option (Nat × Nat)) (a1 : List UInt8) (h : Heap) : Option ((Unit) × Heap) :=
  (need a0 fun q1 =>
  (bindV (.val (.one (.int .i64))) (h.cell (q1.1, q1.2 + 2)) fun (x2 : Int) =>
  let x3 : Bool := eqInt x2 0
  (bif x3 then
   (bind2 (f150 N a0 a1 h) fun (x4 : Bool) h5 =>
   let x6 : Bool := !x4
   (bif x6 then
    (bind2 (f62 N a0 21 h5) fun (x7 : (Unit)) h8 =>
    (need a0 fun q9 =>
    (bindV (.val (.one (.int .i64))) (h8.cell (q9.1, q9.2 + 2)) fun (x10 : Int) =>
    let x11 : Bool := eqInt x10 0
    (bif x11 then
     (need a0 fun q12 =>
     (bindV (.val (.one (.int .i64))) (h8.cell (q12.1, q12.2 + 1)) fun (x13 : Int) =>
     let x14 : Int := wrapA .i64 (x13 + 1)
     (need a0 fun q15 =>
     (need (h8.store (q15.1, q15.2 + 1) [(.int .i64 x14)]) fun h16 =>
     some ((()), h16)))))
    else
     some ((()), h8)))))
   else
    (need a0 fun q17 =>
    (bindV (.val (.one (.int .i64))) (h5.cell (q17.1, q17.2 + 2)) fun (x18 : Int) =>
    let x19 : Bool := eqInt x18 0
    (bif x19 then
     (need a0 fun q20 =>
     (bindV (.val (.one (.int .i64))) (h5.cell (q20.1, q20.2 + 1)) fun (x21 : Int) =>
     let x22 : Int := wrapA .i64 (x21 + 1)
     (need a0 fun q23 =>
     (need (h5.store (q23.1, q23.2 + 1) [(.int .i64 x22)]) fun h24 =>
     some ((()), h24)))))
    else
     some ((()), h5))))))
  else
   (need a0 fun q25 =>
   (bindV (.val (.one (.int .i64))) (h.cell (q25.1, q25.2 + 2)) fun (x26 : Int) =>
   let x27 : Bool := eqInt x26 0
   (bif x27 then
    (need a0 fun q28 =>
    (bindV (.val (.one (.int .i64))) (h.cell (q28.1, q28.2 + 1)) fun (x29 : Int) =>
    let x30 : Int := wrapA .i64 (x29 + 1)
    (need a0 fun q31 =>
    (need (h.store (q31.1, q31.2 + 1) [(.int .i64 x30)]) fun h32 =>
    some ((()), h32)))))
   else
    some ((()), h)))))))
noncomputable def ann152 : Ann := .n
theorem f152_ok (N : Nat) : FnOK Tryz.prog 152 [(.one .ptr), (.one .str)] (.tup []) (fun x h => f152 N x.1 x.2.1 h) :=
  runK_ok envOK hmix (addCall_ok (f62_ok N) (addCall_ok (f150_ok N) noCalls_ok)) (N := N) (x := ann152) (fn := Tryz.f152) (c := Tryz.f152.body.getD .skip) (by kernel_rfl) (by kernel_rfl) (by kernel_rfl) (by kernel_rfl) (fun _ _ => by kernel_rfl)

/- (*usufruct/usufructref8.P).lifes -/
noncomputable def f101_l1_b (N : Nat) (go : Option (Nat × Nat) → SL → Heap → Option (Out × (Option (Nat × Nat) × SL × Unit) × Heap)) (v0 : Option (Nat × Nat)) (v3 : SL) (h : Heap) : Option (Out × (Option (Nat × Nat) × SL × Unit) × Heap) :=
  (need v0 fun q4 =>
  (bindV (.val (.one (.int .i64))) (h.cell (q4.1, q4.2 + 2)) fun (x5 : Int) =>
  let x6 : Bool := eqInt x5 0
  (bif x6 then
   (bind2 (f151 N v0 (Int.ofNat v3.len) h) fun (x7 : (Unit)) h8 =>
   (bind2 (f99 N v0 3 h8) fun (x9 : List UInt8) h10 =>
   let h11 : Heap := h10.push (.row [(.str x9)] .own)
   (bindT (.val (.one .slice)) (appendA E 38 38 (.slice v3.a v3.len v3.cap v3.sz) (.slice (some (h10.next, 0)) 1 1 1) h11) fun (x12 : SL) h13 =>
   (bind2 (f98 N v0 [44] h13) fun (x14 : Bool) h15 =>
   let x16 : Bool := !x14
   (bif x16 then
    some ((Out.exit 0), (v0, x12, ()), h15)
   else
    go v0 x12 h15)))))
  else
   some ((Out.exit 0), (v0, v3, ()), h))))
noncomputable def f101_l1 (N : Nat) (M : Nat) (v0 : Option (Nat × Nat)) (v3 : SL) (h : Heap) : Option (Out × (Option (Nat × Nat) × SL × Unit) × Heap) := iter (fun go s h => f101_l1_b N (fun v0 v3 h => go (v0, v3, ()) h) s.1 s.2.1 h) M (v0, v3, ()) h
theorem f101_l1_succ (N : Nat) (M : Nat) (v0 : Option (Nat × Nat)) (v3 : SL) (h : Heap) : f101_l1 N (M + 1) v0 v3 h = f101_l1_b N (f101_l1 N M) v0 v3 h := rfl
theorem f101_l1_zero (N : Nat) (v0 : Option (Nat × Nat)) (v3 : SL) (h : Heap) : f101_l1 N 0 v0 v3 h = none := rfl
noncomputable def f101 (N : Nat) (a0 : Option (Nat × Nat)) (h : Heap) : Option (SL × Heap) :=
  (bind2 (f98 N a0 [60] h) fun (x1 : Bool) h2 =>
  let x3 : Bool := !x1
  (bif x3 then
   some (⟨none, 0, 0, 0⟩, h2)
  else
   (bind3 (f101_l1 N N a0 ⟨none, 0, 0, 0⟩ h2) fun _ (j18 : (Option (Nat × Nat) × SL × Unit)) h19 =>
   (bind2 (f152 N j18.1 [62] h19) fun (x20 : (Unit)) h21 =>
   some (j18.2.1, h21)))))
noncomputable def ann101 : Ann := (.two .n (.two .n (.two .n (.two (.two (.loop [(0, (.one .ptr)), (3, (.one .slice))] [(.exit 0)] [(0, (.one .ptr)), (3, (.one .slice))] .n) .n) .n))))
theorem f101_ok (N : Nat) : FnOK Tryz.prog 101 [(.one .ptr)] (.val (.one .slice)) (fun x h => f101 N x.1 h) :=
  runK_ok envOK hmix (addCall_ok (f99_ok N) (addCall_ok (f98_ok N) (addCall_ok (f152_ok N) (addCall_ok (f151_ok N) noCalls_ok)))) (N := N) (x := ann101) (fn := Tryz.f101) (c := Tryz.f101.body.getD .skip) (by kernel_rfl) (by kernel_rfl) (by kernel_rfl) (by kernel_rfl) (fun _ _ => by kernel_rfl)

/- (*usufruct/usufructref8.P).typ -/
noncomputable def f60_r (N : Nat) (rec60 : Option (Nat × Nat) → Int → Heap → Option ((Int × List UInt8 × SL × SL × Unit) × Heap)) (a0 : Option (Nat × Nat)) (a1 : Int) (h : Heap) : Option ((Int × List UInt8 × SL × SL × Unit) × Heap) :=
  let h1 : Heap := h.push (.row [(.int .i64 0), (.str []), (.slice none 0 0 0), (.slice none 0 0 0)] .own)
  (bind2 (f97 N a0 a1 h1) fun (x2 : (Unit)) h3 =>
  (need a0 fun q4 =>
  (bindV (.val (.one (.int .i64))) (h3.cell (q4.1, q4.2 + 2)) fun (x5 : Int) =>
  let x6 : Bool := !eqInt x5 0
  (bif x6 then
   (need (h3.store (h.next, 0) [(.int .i64 0), (.str []), (.slice none 0 0 0), (.slice none 0 0 0)]) fun h7 =>
   (bindV (.val (.agg [(.int .i64), .str, .slice, .slice])) (h7.cells (h.next, 0) 4) fun (x8 : (Int × List UInt8 × SL × SL × Unit)) =>
   some ((x8.1, x8.2.1, x8.2.2.1, x8.2.2.2.1, ()), h7)))
  else
   (bind2 (f98 N a0 [105, 110, 116] h3) fun (x9 : Bool) h10 =>
   (bif x9 then
    (need (h10.store (h.next, 0) [(.int .i64 1), (.str []), (.slice none 0 0 0), (.slice none 0 0 0)]) fun h11 =>
    (bindV (.val (.agg [(.int .i64), .str, .slice, .slice])) (h11.cells (h.next, 0) 4) fun (x12 : (Int × List UInt8 × SL × SL × Unit)) =>
    some ((x12.1, x12.2.1, x12.2.2.1, x12.2.2.2.1, ()), h11)))
   else
    (bind2 (f98 N a0 [98, 111, 111, 108] h10) fun (x13 : Bool) h14 =>
    (bif x13 then
     (need (h14.store (h.next, 0) [(.int .i64 2), (.str []), (.slice none 0 0 0), (.slice none 0 0 0)]) fun h15 =>
     (bindV (.val (.agg [(.int .i64), .str, .slice, .slice])) (h15.cells (h.next, 0) 4) fun (x16 : (Int × List UInt8 × SL × SL × Unit)) =>
     some ((x16.1, x16.2.1, x16.2.2.1, x16.2.2.2.1, ()), h15)))
    else
     (bind2 (f98 N a0 [38] h14) fun (x17 : Bool) h18 =>
     (bif x17 then
      let h19 : Heap := h18.push (.row [(.int .i64 0), (.str []), (.slice none 0 0 0), (.slice none 0 0 0)] .own)
      (need (h19.store (h18.next, 0) [(.int .i64 4), (.str []), (.slice none 0 0 0), (.slice none 0 0 0)]) fun h20 =>
      (bind2 (α := (Option (Nat × Nat) × Int × Option (Nat × Nat) × Option (Nat × Nat) × Unit)) (
       (bind2 (f61 N a0 3 h20) fun (x21 : Bool) h22 =>
       (bif x21 then
        (bind2 (f99 N a0 3 h22) fun (x23 : List UInt8) h24 =>
        let h25 : Heap := h24.push (.row [(.str x23)] .own)
        (need (h25.store ((h18.next, 0).1, (h18.next, 0).2 + 2) [(.slice (some (h24.next, 0)) 1 1 1)]) fun h26 =>
        some ((a0, a1, (some (h.next, 0)), (some (h18.next, 0)), ()), h26)))
       else
        some ((a0, a1, (some (h.next, 0)), (some (h18.next, 0)), ()), h22)))) fun (j27 : (Option (Nat × Nat) × Int × Option (Nat × Nat) × Option (Nat × Nat) × Unit)) h28 =>
      (bind2 (α := (Option (Nat × Nat) × Int × Option (Nat × Nat) × Option (Nat × Nat) × Unit)) (
       (bind2 (f98 N j27.1 [109, 117, 116] h28) fun (x29 : Bool) h30 =>
       (bif x29 then
        (need j27.2.2.2.1 fun q31 =>
        (need (h30.store (q31.1, q31.2 + 0) [(.int .i64 5)]) fun h32 =>
        some ((j27.1, j27.2.1, j27.2.2.1, j27.2.2.2.1, ()), h32)))
       else
        some ((j27.1, j27.2.1, j27.2.2.1, j27.2.2.2.1, ()), h30)))) fun (j33 : (Option (Nat × Nat) × Int × Option (Nat × Nat) × Option (Nat × Nat) × Unit)) h34 =>
      let x35 : Int := wrapA .i64 (j33.2.1 + 1)
      (bind2 (rec60 j33.1 x35 h34) fun (x36 : (Int × List UInt8 × SL × SL × Unit)) h37 =>
      let h38 : Heap := h37.push (.row [(.int .i64 x36.1), (.str x36.2.1), (.slice x36.2.2.1.a x36.2.2.1.len x36.2.2.1.cap x36.2.2.1.sz), (.slice x36.2.2.2.1.a x36.2.2.2.1.len x36.2.2.2.1.cap x36.2.2.2.1.sz)] .own)
      (need j33.2.2.2.1 fun q39 =>
      (need (h38.store (q39.1, q39.2 + 3) [(.slice (some (h37.next, 0)) 1 1 4)]) fun h40 =>
      (need j33.2.2.2.1 fun q41 =>
      (bindV (.val (.agg [(.int .i64), .str, .slice, .slice])) (h40.cells q41 4) fun (x42 : (Int × List UInt8 × SL × SL × Unit)) =>
      (need j33.2.2.1 fun q44 =>
      (need (h40.store q44 [(.int .i64 x42.1), (.str x42.2.1), (.slice x42.2.2.1.a x42.2.2.1.len x42.2.2.1.cap x42.2.2.1.sz), (.slice x42.2.2.2.1.a x42.2.2.2.1.len x42.2.2.2.1.cap x42.2.2.2.1.sz)]) fun h43 =>
      (need j33.2.2.1 fun q45 =>
      (bindV (.val (.agg [(.int .i64), .str, .slice, .slice])) (h43.cells q45 4) fun (x46 : (Int × List UInt8 × SL × SL × Unit)) =>
      some ((x46.1, x46.2.1, x46.2.2.1, x46.2.2.2.1, ()), h43)))))))))))))
     else
      (bind2 (f100 N a0 h18) fun (x47 : List UInt8) h48 =>
      let h49 : Heap := h48.push (.row [(.int .i64 0), (.str []), (.slice none 0 0 0), (.slice none 0 0 0)] .own)
      (need (h49.store (h48.next, 0) [(.int .i64 3), (.str x47), (.slice none 0 0 0), (.slice none 0 0 0)]) fun h50 =>
      (bind2 (α := (Option (Nat × Nat) × Option (Nat × Nat) × Unit)) (
       (need a0 fun q51 =>
       (bindV (.val (.one (.int .i64))) (h50.cell (q51.1, q51.2 + 2)) fun (x52 : Int) =>
       let x53 : Bool := eqInt x52 0
       (bif x53 then
        (bind2 (f101 N a0 h50) fun (x54 : SL) h55 =>
        (need (h55.store ((h48.next, 0).1, (h48.next, 0).2 + 2) [(.slice x54.a x54.len x54.cap x54.sz)]) fun h56 =>
        some (((some (h.next, 0)), (some (h48.next, 0)), ()), h56)))
       else
        some (((some (h.next, 0)), (some (h48.next, 0)), ()), h50))))) fun (j57 : (Option (Nat × Nat) × Option (Nat × Nat) × Unit)) h58 =>
      (need j57.2.1 fun q59 =>
      (bindV (.val (.agg [(.int .i64), .str, .slice, .slice])) (h58.cells q59 4) fun (x60 : (Int × List UInt8 × SL × SL × Unit)) =>
      (need j57.1 fun q62 =>
      (need (h58.store q62 [(.int .i64 x60.1), (.str x60.2.1), (.slice x60.2.2.1.a x60.2.2.1.len x60.2.2.1.cap x60.2.2.1.sz), (.slice x60.2.2.2.1.a x60.2.2.2.1.len x60.2.2.2.1.cap x60.2.2.2.1.sz)]) fun h61 =>
      (need j57.1 fun q63 =>
      (bindV (.val (.agg [(.int .i64), .str, .slice, .slice])) (h61.cells q63 4) fun (x64 : (Int × List UInt8 × SL × SL × Unit)) =>
      some ((x64.1, x64.2.1, x64.2.2.1, x64.2.2.2.1, ()), h61))))))))))))))))))))
noncomputable def ann60 : Ann := (.two .n (.two .n (.two .n (.two .n (.two .n (.two (.two .n (.two (.two .n (.two (.join [(0, (.one .ptr)), (1, (.one (.int .i64))), (4, (.one .ptr)), (5, (.one .ptr))] .n) (.two (.join [(0, (.one .ptr)), (1, (.one (.int .i64))), (4, (.one .ptr)), (5, (.one .ptr))] .n) .n))) .n)) (.two .n (.two (.join [(4, (.one .ptr)), (6, (.one .ptr))] .n) .n))))))))

noncomputable def cl_f60 (N M : Nat) : ((Option (Nat × Nat) → Int → Heap → Option ((Int × List UInt8 × SL × SL × Unit) × Heap)) × Unit) := Nat.rec (fun _ _ _ => none, ()) (fun _ r => (f60_r N r.1, ())) M
noncomputable def f60 (N M : Nat) : Option (Nat × Nat) → Int → Heap → Option ((Int × List UInt8 × SL × SL × Unit) × Heap) := (cl_f60 N M).1
theorem f60_succ (N M : Nat) (a0 : Option (Nat × Nat)) (a1 : Int) (h : Heap) : f60 N (M + 1) a0 a1 h = f60_r N (f60 N M) a0 a1 h := rfl
theorem cl_f60_okm (N : Nat) : ∀ M : Nat, (FnOK Tryz.prog 60 [(.one .ptr), (.one (.int .i64))] (.val (.agg [(.int .i64), .str, .slice, .slice])) (fun x h => f60 N M x.1 x.2.1 h)) ∧ True
  | 0 => ⟨(fun xs h r h' hx => by cases hx), trivial⟩
  | M + 1 => ⟨runK_ok envOK hmix (addCall_ok (f99_ok N) (addCall_ok (f98_ok N) (addCall_ok (f97_ok N) (addCall_ok (f61_ok N) (addCall_ok (cl_f60_okm N M).1 (addCall_ok (f101_ok N) (addCall_ok (f100_ok N) noCalls_ok))))))) (N := N) (x := ann60) (fn := Tryz.f60) (c := Tryz.f60.body.getD .skip) (by kernel_rfl) (by kernel_rfl) (by kernel_rfl) (by kernel_rfl) (fun _ _ => by kernel_rfl), trivial⟩
theorem f60_ok (N : Nat) : FnOK Tryz.prog 60 [(.one .ptr), (.one (.int .i64))] (.val (.agg [(.int .i64), .str, .slice, .slice])) (fun x h => f60 N N x.1 x.2.1 h) := (cl_f60_okm N N).1

/- usufruct/usufructref8.Type -/
noncomputable def f26 (N : Nat) (a0 : List UInt8) (h : Heap) : Option (((Int × List UInt8 × SL × SL × Unit) × Int × Int × Unit) × Heap) :=
  let h1 : Heap := h.push (.row [(.int .i64 0), (.str []), (.slice none 0 0 0), (.slice none 0 0 0)] .own)
  (bind2 (f28 N a0 h1) fun (x2 : (SL × Int × Int × Unit)) h3 =>
  let x4 : Bool := !eqInt x2.2.1 0
  (bif x4 then
   (need (h3.store (h.next, 0) [(.int .i64 0), (.str []), (.slice none 0 0 0), (.slice none 0 0 0)]) fun h5 =>
   (bindV (.val (.agg [(.int .i64), .str, .slice, .slice])) (h5.cells (h.next, 0) 4) fun (x6 : (Int × List UInt8 × SL × SL × Unit)) =>
   some (((x6.1, x6.2.1, x6.2.2.1, x6.2.2.2.1, ()), x2.2.1, x2.2.2.1, ()), h5)))
  else
   let h7 : Heap := h3.push (.row [(.slice x2.1.a x2.1.len x2.1.cap x2.1.sz), (.int .i64 0), (.int .i64 0), (.int .i64 0), (.int .i64 0), (.int .i64 0)] .own)
   (bind2 (f60 N N (some (h3.next, 0)) 1 h7) fun (x8 : (Int × List UInt8 × SL × SL × Unit)) h9 =>
   let h10 : Heap := h9.push (.row [(.int .i64 0), (.str []), (.slice none 0 0 0), (.slice none 0 0 0)] .own)
   (need (h10.store (h9.next, 0) [(.int .i64 x8.1), (.str x8.2.1), (.slice x8.2.2.1.a x8.2.2.1.len x8.2.2.1.cap x8.2.2.1.sz), (.slice x8.2.2.2.1.a x8.2.2.2.1.len x8.2.2.2.1.cap x8.2.2.2.1.sz)]) fun h11 =>
   (bind2 (α := (Option (Nat × Nat) × Option (Nat × Nat) × Option (Nat × Nat) × Unit)) (
    (bind2 (α := (Option (Nat × Nat) × Option (Nat × Nat) × Option (Nat × Nat) × Bool × Unit)) (
     (bindV (.val (.one (.int .i64))) (h11.cell ((h3.next, 0).1, (h3.next, 0).2 + 2)) fun (x12 : Int) =>
     let x13 : Bool := eqInt x12 0
     (bif x13 then
      (bind2 (f61 N (some (h3.next, 0)) 0 h11) fun (x14 : Bool) h15 =>
      let x16 : Bool := !x14
      some (((some (h.next, 0)), (some (h3.next, 0)), (some (h9.next, 0)), x16, ()), h15))
     else
      some (((some (h.next, 0)), (some (h3.next, 0)), (some (h9.next, 0)), false, ()), h11)))) fun (j17 : (Option (Nat × Nat) × Option (Nat × Nat) × Option (Nat × Nat) × Bool × Unit)) h18 =>
    (bif j17.2.2.2.1 then
     (bind2 (f62 N j17.2.1 21 h18) fun (x19 : (Unit)) h20 =>
     some ((j17.1, j17.2.1, j17.2.2.1, ()), h20))
    else
     some ((j17.1, j17.2.1, j17.2.2.1, ()), h18)))) fun (j21 : (Option (Nat × Nat) × Option (Nat × Nat) × Option (Nat × Nat) × Unit)) h22 =>
   (need j21.2.1 fun q23 =>
   (bindV (.val (.one (.int .i64))) (h22.cell (q23.1, q23.2 + 2)) fun (x24 : Int) =>
   let x25 : Bool := !eqInt x24 0
   (bif x25 then
    (need j21.2.1 fun q26 =>
    (bindV (.val (.one (.int .i64))) (h22.cell (q26.1, q26.2 + 2)) fun (x27 : Int) =>
    (need j21.2.1 fun q28 =>
    (bindV (.val (.one (.int .i64))) (h22.cell (q28.1, q28.2 + 3)) fun (x29 : Int) =>
    (need j21.1 fun q31 =>
    (need (h22.store q31 [(.int .i64 0), (.str []), (.slice none 0 0 0), (.slice none 0 0 0)]) fun h30 =>
    (guardB (bif (sameO (h30.cell (q28.1, q28.2 + 3)) (.int .i64 x29)) then (bif (sameO (h22.cell (q28.1, q28.2 + 3)) (.int .i64 x29)) then (bif (sameO (h30.cell (q26.1, q26.2 + 2)) (.int .i64 x27)) then (bif (sameO (h22.cell (q26.1, q26.2 + 2)) (.int .i64 x27)) then true else false) else false) else false) else false) (
    (need j21.1 fun q32 =>
    (bindV (.val (.agg [(.int .i64), .str, .slice, .slice])) (h30.cells q32 4) fun (x33 : (Int × List UInt8 × SL × SL × Unit)) =>
    some (((x33.1, x33.2.1, x33.2.2.1, x33.2.2.2.1, ()), x27, x29, ()), h30)))))))))))
   else
    (need j21.2.2.1 fun q34 =>
    (bindV (.val (.agg [(.int .i64), .str, .slice, .slice])) (h22.cells q34 4) fun (x35 : (Int × List UInt8 × SL × SL × Unit)) =>
    (need j21.1 fun q37 =>
    (need (h22.store q37 [(.int .i64 x35.1), (.str x35.2.1), (.slice x35.2.2.1.a x35.2.2.1.len x35.2.2.1.cap x35.2.2.1.sz), (.slice x35.2.2.2.1.a x35.2.2.2.1.len x35.2.2.2.1.cap x35.2.2.2.1.sz)]) fun h36 =>
    (need j21.1 fun q38 =>
    (bindV (.val (.agg [(.int .i64), .str, .slice, .slice])) (h36.cells q38 4) fun (x39 : (Int × List UInt8 × SL × SL × Unit)) =>
    some (((x39.1, x39.2.1, x39.2.2.1, x39.2.2.2.1, ()), 0, 0, ()), h36)))))))))))))))
noncomputable def ann26 : Ann := (.two .n (.two .n (.two .n (.two .n (.two .n (.two (.join [(2, (.one .ptr)), (8, (.one .ptr)), (9, (.one .ptr))] (.two (.join [(2, (.one .ptr)), (8, (.one .ptr)), (9, (.one .ptr)), (35, (.one .bool))] .n) .n)) .n))))))
theorem f26_ok (N : Nat) : FnOK Tryz.prog 26 [(.one .str)] (.tup [(.agg [(.int .i64), .str, .slice, .slice]), (.one (.int .i64)), (.one (.int .i64))]) (fun x h => f26 N x.1 h) :=
  runK_ok envOK hmix (addCall_ok (f62_ok N) (addCall_ok (f61_ok N) (addCall_ok (f60_ok N) (addCall_ok (f28_ok N) noCalls_ok)))) (N := N) (x := ann26) (fn := Tryz.f26) (c := Tryz.f26.body.getD .skip) (by kernel_rfl) (by kernel_rfl) (by kernel_rfl) (by kernel_rfl) (fun _ _ => by kernel_rfl)

/- usufruct/usufructref1.Texts -/
noncomputable def f59_l1_b (N : Nat) (go : SL → SL → Bool → Int → Heap → Option (Out × (Bool × Unit) × Heap)) (v0 : SL) (v1 : SL) (v4 : Bool) (v5 : Int) (h : Heap) : Option (Out × (Bool × Unit) × Heap) :=
  let x2 : Bool := ltInt v5 (Int.ofNat v0.len)
  (bif x2 then
   (ixK v0.a v0.len v5 1 fun q3 =>
   (bindV (.val (.one .str)) (h.cell q3) fun (x4 : List UInt8) =>
   (ixK v1.a v1.len v5 1 fun q5 =>
   (bindV (.val (.one .str)) (h.cell q5) fun (x6 : List UInt8) =>
   let x7 : Bool := !eqBytes x4 x6
   (bif x7 then
    some (Out.ret, (false, ()), h)
   else
    let x8 : Int := wrapA .i64 (v5 + 1)
    go v0 v1 v4 x8 h)))))
  else
   some ((Out.exit 0), (v4, ()), h))
noncomputable def f59_l1 (N : Nat) (M : Nat) (v0 : SL) (v1 : SL) (v4 : Bool) (v5 : Int) (h : Heap) : Option (Out × (Bool × Unit) × Heap) := iter (fun go s h => f59_l1_b N (fun v0 v1 v4 v5 h => go (v0, v1, v4, v5, ()) h) s.1 s.2.1 s.2.2.1 s.2.2.2.1 h) M (v0, v1, v4, v5, ()) h
theorem f59_l1_succ (N : Nat) (M : Nat) (v0 : SL) (v1 : SL) (v4 : Bool) (v5 : Int) (h : Heap) : f59_l1 N (M + 1) v0 v1 v4 v5 h = f59_l1_b N (f59_l1 N M) v0 v1 v4 v5 h := rfl
theorem f59_l1_zero (N : Nat) (v0 : SL) (v1 : SL) (v4 : Bool) (v5 : Int) (h : Heap) : f59_l1 N 0 v0 v1 v4 v5 h = none := rfl
noncomputable def f59 (N : Nat) (a0 : SL) (a1 : SL) (h : Heap) : Option (Bool × Heap) :=
  let x1 : Bool := !eqInt (Int.ofNat a0.len) (Int.ofNat a1.len)
  (bif x1 then
   some (false, h)
  else
   (bind3 (f59_l1 N N a0 a1 false 0 h) fun o9 (j10 : (Bool × Unit)) h11 =>
   (bif eqOut o9 (.exit 0) then
    some (true, h11)
   else
    some (j10.1, h11))))
noncomputable def ann59 : Ann := (.two .n (.two .n (.two (.two .n (.two (.loop [(0, (.one .slice)), (1, (.one .slice)), (4, (.one .bool)), (5, (.one (.int .i64)))] [(.exit 0), .ret] [(4, (.one .bool))] .n) .n)) .n)))
theorem f59_ok (N : Nat) : FnOK Tryz.prog 59 [(.one .slice), (.one .slice)] (.val (.one .bool)) (fun x h => f59 N x.1 x.2.1 h) :=
  runK_ok envOK hmix noCalls_ok (N := N) (x := ann59) (fn := Tryz.f59) (c := Tryz.f59.body.getD .skip) (by kernel_rfl) (by kernel_rfl) (by kernel_rfl) (by kernel_rfl) (fun _ _ => by kernel_rfl)

/- usufruct/usufructref7.SameType -/
noncomputable def f25_l1_b (N : Nat) (rec25 : (Int × List UInt8 × SL × SL × Unit) → (Int × List UInt8 × SL × SL × Unit) → Heap → Option (Bool × Heap)) (go : Option (Nat × Nat) → Option (Nat × Nat) → Bool → Int → Heap → Option (Out × (Bool × Unit) × Heap)) (v2 : Option (Nat × Nat)) (v3 : Option (Nat × Nat)) (v4 : Bool) (v5 : Int) (h : Heap) : Option (Out × (Bool × Unit) × Heap) :=
  (need v2 fun q17 =>
  (bindV (.val (.one .slice)) (h.cell (q17.1, q17.2 + 3)) fun (x18 : SL) =>
  let x19 : Bool := ltInt v5 (Int.ofNat x18.len)
  (bif x19 then
   (need v2 fun q20 =>
   (bindV (.val (.one .slice)) (h.cell (q20.1, q20.2 + 3)) fun (x21 : SL) =>
   (ixK x21.a x21.len v5 4 fun q22 =>
   (bindV (.val (.agg [(.int .i64), .str, .slice, .slice])) (h.cells q22 4) fun (x23 : (Int × List UInt8 × SL × SL × Unit)) =>
   (need v3 fun q24 =>
   (bindV (.val (.one .slice)) (h.cell (q24.1, q24.2 + 3)) fun (x25 : SL) =>
   (ixK x25.a x25.len v5 4 fun q26 =>
   (bindV (.val (.agg [(.int .i64), .str, .slice, .slice])) (h.cells q26 4) fun (x27 : (Int × List UInt8 × SL × SL × Unit)) =>
   (bind2 (rec25 (x23.1, x23.2.1, x23.2.2.1, x23.2.2.2.1, ()) (x27.1, x27.2.1, x27.2.2.1, x27.2.2.2.1, ()) h) fun (x28 : Bool) h29 =>
   let x30 : Bool := !x28
   (bif x30 then
    some (Out.ret, (false, ()), h29)
   else
    let x31 : Int := wrapA .i64 (v5 + 1)
    go v2 v3 v4 x31 h29))))))))))
  else
   some ((Out.exit 0), (v4, ()), h))))
noncomputable def f25_l1 (N : Nat) (rec25 : (Int × List UInt8 × SL × SL × Unit) → (Int × List UInt8 × SL × SL × Unit) → Heap → Option (Bool × Heap)) (M : Nat) (v2 : Option (Nat × Nat)) (v3 : Option (Nat × Nat)) (v4 : Bool) (v5 : Int) (h : Heap) : Option (Out × (Bool × Unit) × Heap) := iter (fun go s h => f25_l1_b N rec25 (fun v2 v3 v4 v5 h => go (v2, v3, v4, v5, ()) h) s.1 s.2.1 s.2.2.1 s.2.2.2.1 h) M (v2, v3, v4, v5, ()) h
theorem f25_l1_succ (N : Nat) (rec25 : (Int × List UInt8 × SL × SL × Unit) → (Int × List UInt8 × SL × SL × Unit) → Heap → Option (Bool × Heap)) (M : Nat) (v2 : Option (Nat × Nat)) (v3 : Option (Nat × Nat)) (v4 : Bool) (v5 : Int) (h : Heap) : f25_l1 N rec25 (M + 1) v2 v3 v4 v5 h = f25_l1_b N rec25 (f25_l1 N rec25 M) v2 v3 v4 v5 h := rfl
theorem f25_l1_zero (N : Nat) (rec25 : (Int × List UInt8 × SL × SL × Unit) → (Int × List UInt8 × SL × SL × Unit) → Heap → Option (Bool × Heap)) (v2 : Option (Nat × Nat)) (v3 : Option (Nat × Nat)) (v4 : Bool) (v5 : Int) (h : Heap) : f25_l1 N rec25 0 v2 v3 v4 v5 h = none := rfl
noncomputable def f25_r (N : Nat) (rec25 : (Int × List UInt8 × SL × SL × Unit) → (Int × List UInt8 × SL × SL × Unit) → Heap → Option (Bool × Heap)) (a0 : (Int × List UInt8 × SL × SL × Unit)) (a1 : (Int × List UInt8 × SL × SL × Unit)) (h : Heap) : Option (Bool × Heap) :=
  let h1 : Heap := h.push (.row [(.int .i64 a0.1), (.str a0.2.1), (.slice a0.2.2.1.a a0.2.2.1.len a0.2.2.1.cap a0.2.2.1.sz), (.slice a0.2.2.2.1.a a0.2.2.2.1.len a0.2.2.2.1.cap a0.2.2.2.1.sz)] .own)
  let h2 : Heap := h1.push (.row [(.int .i64 a1.1), (.str a1.2.1), (.slice a1.2.2.1.a a1.2.2.1.len a1.2.2.1.cap a1.2.2.1.sz), (.slice a1.2.2.2.1.a a1.2.2.2.1.len a1.2.2.2.1.cap a1.2.2.2.1.sz)] .own)
  (bindV (.val (.one (.int .i64))) (h2.cell ((h.next, 0).1, (h.next, 0).2 + 0)) fun (x3 : Int) =>
  (bindV (.val (.one (.int .i64))) (h2.cell ((h1.next, 0).1, (h1.next, 0).2 + 0)) fun (x4 : Int) =>
  let x5 : Bool := !eqInt x3 x4
  (bif x5 then
   some (false, h2)
  else
   (bindV (.val (.one .str)) (h2.cell ((h.next, 0).1, (h.next, 0).2 + 1)) fun (x6 : List UInt8) =>
   (bindV (.val (.one .str)) (h2.cell ((h1.next, 0).1, (h1.next, 0).2 + 1)) fun (x7 : List UInt8) =>
   let x8 : Bool := !eqBytes x6 x7
   (bif x8 then
    some (false, h2)
   else
    (bindV (.val (.one .slice)) (h2.cell ((h.next, 0).1, (h.next, 0).2 + 2)) fun (x9 : SL) =>
    (bindV (.val (.one .slice)) (h2.cell ((h1.next, 0).1, (h1.next, 0).2 + 2)) fun (x10 : SL) =>
    (bind2 (f59 N x9 x10 h2) fun (x11 : Bool) h12 =>
    let x13 : Bool := !x11
    (bif x13 then
     some (false, h12)
    else
     (bindV (.val (.one .slice)) (h12.cell ((h.next, 0).1, (h.next, 0).2 + 3)) fun (x14 : SL) =>
     (bindV (.val (.one .slice)) (h12.cell ((h1.next, 0).1, (h1.next, 0).2 + 3)) fun (x15 : SL) =>
     let x16 : Bool := !eqInt (Int.ofNat x14.len) (Int.ofNat x15.len)
     (bif x16 then
      some (false, h12)
     else
      (bind3 (f25_l1 N rec25 N (some (h.next, 0)) (some (h1.next, 0)) false 0 h12) fun o32 (j33 : (Bool × Unit)) h34 =>
      (bif eqOut o32 (.exit 0) then
       some (true, h34)
      else
       some (j33.1, h34))))))))))))))))
noncomputable def ann25 : Ann := (.two .n (.two .n (.two (.two .n (.two (.loop [(2, (.one .ptr)), (3, (.one .ptr)), (4, (.one .bool)), (5, (.one (.int .i64)))] [(.exit 0), .ret] [(4, (.one .bool))] .n) .n)) .n)))

noncomputable def cl_f25 (N M : Nat) : (((Int × List UInt8 × SL × SL × Unit) → (Int × List UInt8 × SL × SL × Unit) → Heap → Option (Bool × Heap)) × Unit) := Nat.rec (fun _ _ _ => none, ()) (fun _ r => (f25_r N r.1, ())) M
noncomputable def f25 (N M : Nat) : (Int × List UInt8 × SL × SL × Unit) → (Int × List UInt8 × SL × SL × Unit) → Heap → Option (Bool × Heap) := (cl_f25 N M).1
theorem f25_succ (N M : Nat) (a0 : (Int × List UInt8 × SL × SL × Unit)) (a1 : (Int × List UInt8 × SL × SL × Unit)) (h : Heap) : f25 N (M + 1) a0 a1 h = f25_r N (f25 N M) a0 a1 h := rfl
theorem cl_f25_okm (N : Nat) : ∀ M : Nat, (FnOK Tryz.prog 25 [(.agg [(.int .i64), .str, .slice, .slice]), (.agg [(.int .i64), .str, .slice, .slice])] (.val (.one .bool)) (fun x h => f25 N M x.1 x.2.1 h)) ∧ True
  | 0 => ⟨(fun xs h r h' hx => by cases hx), trivial⟩
  | M + 1 => ⟨runK_ok envOK hmix (addCall_ok (f59_ok N) (addCall_ok (cl_f25_okm N M).1 noCalls_ok)) (N := N) (x := ann25) (fn := Tryz.f25) (c := Tryz.f25.body.getD .skip) (by kernel_rfl) (by kernel_rfl) (by kernel_rfl) (by kernel_rfl) (fun _ _ => by kernel_rfl), trivial⟩
theorem f25_ok (N : Nat) : FnOK Tryz.prog 25 [(.agg [(.int .i64), .str, .slice, .slice]), (.agg [(.int .i64), .str, .slice, .slice])] (.val (.one .bool)) (fun x h => f25 N N x.1 x.2.1 h) := (cl_f25_okm N N).1

/- usufruct/usufructlaw1.Told -/
noncomputable def f29_l1_b (N : Nat) (go : Option (Nat × Nat) → Int → Int → Int → Heap → Option (Out × (Int × Int × Unit) × Heap)) (v4 : Option (Nat × Nat)) (v6 : Int) (v7 : Int) (v8 : Int) (h : Heap) : Option (Out × (Int × Int × Unit) × Heap) :=
  let x8 : Bool := ltInt v8 200
  (bif x8 then
   (need v4 fun q9 =>
   (bindV (.val (.one .any)) (h.cell (q9.1, q9.2 + 2)) fun (x10 : AV) =>
   (bindV (.tup [(.one .ptr), (.one .bool)]) (assertA E x10 127 true) fun (x11 : (Option (Nat × Nat) × Bool × Unit)) =>
   let x12 : Bool := !x11.2.1
   (bif x12 then
    some ((Out.exit 0), (v6, v7, ()), h)
   else
    (bif x11.1.isNone then
     some ((Out.exit 0), (v6, v7, ()), h)
    else
     (need x11.1 fun q13 =>
     (bindV (.val (.one (.int .i64))) (h.cell (q13.1, q13.2 + 1)) fun (x14 : Int) =>
     let x15 : Int := wrapA .i64 (v8 + 1)
     go x11.1 v6 x14 x15 h)))))))
  else
   some ((Out.exit 0), (v6, v7, ()), h))
noncomputable def f29_l1 (N : Nat) (M : Nat) (v4 : Option (Nat × Nat)) (v6 : Int) (v7 : Int) (v8 : Int) (h : Heap) : Option (Out × (Int × Int × Unit) × Heap) := iter (fun go s h => f29_l1_b N (fun v4 v6 v7 v8 h => go (v4, v6, v7, v8, ()) h) s.1 s.2.1 s.2.2.1 s.2.2.2.1 h) M (v4, v6, v7, v8, ()) h
theorem f29_l1_succ (N : Nat) (M : Nat) (v4 : Option (Nat × Nat)) (v6 : Int) (v7 : Int) (v8 : Int) (h : Heap) : f29_l1 N (M + 1) v4 v6 v7 v8 h = f29_l1_b N (f29_l1 N M) v4 v6 v7 v8 h := rfl
theorem f29_l1_zero (N : Nat) (v4 : Option (Nat × Nat)) (v6 : Int) (v7 : Int) (v8 : Int) (h : Heap) : f29_l1 N 0 v4 v6 v7 v8 h = none := rfl
noncomputable def f29 (N : Nat) (a0 : AV) (h : Heap) : Option ((Int × Int × Unit) × Heap) :=
  (bindV (.val (.one .bool)) (binA E .eql 29 (.tmp 11) (.const .nilIface) a0 AV.nilIface) fun (x1 : Bool) =>
  (bif x1 then
   some ((0, 0, ()), h)
  else
   (bindV (.tup [(.one .ptr), (.one .bool)]) (assertA E a0 127 true) fun (x2 : (Option (Nat × Nat) × Bool × Unit)) =>
   let x3 : Bool := !x2.2.1
   (bif x3 then
    some (((-1), 0, ()), h)
   else
    (bif x2.1.isNone then
     some (((-1), 0, ()), h)
    else
     (need x2.1 fun q4 =>
     (bindV (.val (.one (.int .i64))) (h.cell (q4.1, q4.2 + 0)) fun (x5 : Int) =>
     (need x2.1 fun q6 =>
     (bindV (.val (.one (.int .i64))) (h.cell (q6.1, q6.2 + 1)) fun (x7 : Int) =>
     (bind3 (f29_l1 N N x2.1 x5 x7 0 h) fun _ (j17 : (Int × Int × Unit)) h18 =>
     some ((j17.1, j17.2.1, ()), h18)))))))))))
noncomputable def ann29 : Ann := (.two .n (.two .n (.two .n (.two .n (.two .n (.two (.two .n (.two (.loop [(4, (.one .ptr)), (6, (.one (.int .i64))), (7, (.one (.int .i64))), (8, (.one (.int .i64)))] [(.exit 0)] [(6, (.one (.int .i64))), (7, (.one (.int .i64)))] .n) .n)) .n))))))
theorem f29_ok (N : Nat) : FnOK Tryz.prog 29 [(.one .any)] (.tup [(.one (.int .i64)), (.one (.int .i64))]) (fun x h => f29 N x.1 h) :=
  runK_ok envOK hmix noCalls_ok (N := N) (x := ann29) (fn := Tryz.f29) (c := Tryz.f29.body.getD .skip) (by kernel_rfl) (by kernel_rfl) (by kernel_rfl) (by kernel_rfl) (fun _ _ => by kernel_rfl)

/- usufruct/usufructlaw1.Is -/
noncomputable def f18 (N : Nat) (a0 : AV) (a1 : Int) (a2 : Int) (h : Heap) : Option (Bool × Heap) :=
  (bind2 (f29 N a0 h) fun (x1 : (Int × Int × Unit)) h2 =>
  let x3 : Bool := eqInt x1.1 a1
  (bif x3 then
   let x4 : Bool := eqInt x1.2.1 a2
   some (x4, h2)
  else
   some (false, h2)))
noncomputable def ann18 : Ann := .n
theorem f18_ok (N : Nat) : FnOK Tryz.prog 18 [(.one .any), (.one (.int .i64)), (.one (.int .i64))] (.val (.one .bool)) (fun x h => f18 N x.1 x.2.1 x.2.2.1 h) :=
  runK_ok envOK hmix (addCall_ok (f29_ok N) noCalls_ok) (N := N) (x := ann18) (fn := Tryz.f18) (c := Tryz.f18.body.getD .skip) (by kernel_rfl) (by kernel_rfl) (by kernel_rfl) (by kernel_rfl) (fun _ _ => by kernel_rfl)

/- usufruct/usufructlaw8.ParseTypes -/
noncomputable def f6 (N : Nat) (a0 : List UInt8) (h : Heap) : Option (Bool × Heap) :=
  let x1 : Bool := ltInt 1000 (Int.ofNat a0.length)
  (bif x1 then
   (bind2 (f22 N  h) fun (x2 : Bool) h3 =>
   some (x2, h3))
  else
   (bind2 (f23 N a0 h) fun (x4 : ((Int × List UInt8 × SL × SL × Unit) × AV × Unit)) h5 =>
   let h6 : Heap := h5.push (.row [(.int .i64 0), (.str []), (.slice none 0 0 0), (.slice none 0 0 0)] .own)
   (need (h6.store (h5.next, 0) [(.int .i64 x4.1.1), (.str x4.1.2.1), (.slice x4.1.2.2.1.a x4.1.2.2.1.len x4.1.2.2.1.cap x4.1.2.2.1.sz), (.slice x4.1.2.2.2.1.a x4.1.2.2.2.1.len x4.1.2.2.2.1.cap x4.1.2.2.2.1.sz)]) fun h7 =>
   (bind2 (f26 N a0 h7) fun (x8 : ((Int × List UInt8 × SL × SL × Unit) × Int × Int × Unit)) h9 =>
   let h10 : Heap := h9.push (.row [(.int .i64 0), (.str []), (.slice none 0 0 0), (.slice none 0 0 0)] .own)
   (need (h10.store (h9.next, 0) [(.int .i64 x8.1.1), (.str x8.1.2.1), (.slice x8.1.2.2.1.a x8.1.2.2.1.len x8.1.2.2.1.cap x8.1.2.2.1.sz), (.slice x8.1.2.2.2.1.a x8.1.2.2.2.1.len x8.1.2.2.2.1.cap x8.1.2.2.2.1.sz)]) fun h11 =>
   (bind2 (f22 N  h11) fun (x12 : Bool) h13 =>
   (bif x12 then
    (bindV (.val (.agg [(.int .i64), .str, .slice, .slice])) (h13.cells (h5.next, 0) 4) fun (x14 : (Int × List UInt8 × SL × SL × Unit)) =>
    (bindV (.val (.agg [(.int .i64), .str, .slice, .slice])) (h13.cells (h9.next, 0) 4) fun (x15 : (Int × List UInt8 × SL × SL × Unit)) =>
    (bind2 (f25 N N (x14.1, x14.2.1, x14.2.2.1, x14.2.2.2.1, ()) (x15.1, x15.2.1, x15.2.2.1, x15.2.2.2.1, ()) h13) fun (x16 : Bool) h17 =>
    (bif x16 then
     (bind2 (f18 N x4.2.1 x8.2.1 x8.2.2.1 h17) fun (x18 : Bool) h19 =>
     some (x18, h19))
    else
     some (false, h17)))))
   else
    some (false, h13))))))))
noncomputable def ann6 : Ann := .n
theorem f6_ok (N : Nat) : FnOK Tryz.prog 6 [(.one .str)] (.val (.one .bool)) (fun x h => f6 N x.1 h) :=
  runK_ok envOK hmix (addCall_ok (f26_ok N) (addCall_ok (f25_ok N) (addCall_ok (f23_ok N) (addCall_ok (f22_ok N) (addCall_ok (f18_ok N) noCalls_ok))))) (N := N) (x := ann6) (fn := Tryz.f6) (c := Tryz.f6.body.getD .skip) (by kernel_rfl) (by kernel_rfl) (by kernel_rfl) (by kernel_rfl) (fun _ _ => by kernel_rfl)

/- usufruct/usufructref7.Long -/
noncomputable def f51_l1_b (N : Nat) (go : List UInt8 → Bool → Int → Heap → Option (Out × (List UInt8 × Bool × Unit) × Heap)) (v0 : List UInt8) (v2 : Bool) (v3 : Int) (h : Heap) : Option (Out × (List UInt8 × Bool × Unit) × Heap) :=
  let x1 : Int := wrapA .i64 (v3 + 1)
  let x2 : Bool := ltInt x1 (Int.ofNat v0.length)
  (bif x2 then
   let x3 : Int := wrapA .i64 (v3 + 2)
   (bindV (.val (.one .str)) (sliceA E h 9 (.str v0) (some (.int .i64 v3)) (some (.int .i64 x3))) fun (x4 : List UInt8) =>
   let x5 : Bool := eqBytes x4 [58, 58]
   (bif x5 then
    (bindV (.val (.one .str)) (sliceA E h 9 (.str v0) none (some (.int .i64 v3))) fun (x6 : List UInt8) =>
    (bind2 (f46 N x6 h) fun (x7 : Bool) h8 =>
    (bif x7 then
     let x9 : Int := wrapA .i64 (v3 + 2)
     (bindV (.val (.one .str)) (sliceA E h8 9 (.str v0) (some (.int .i64 x9)) none) fun (x10 : List UInt8) =>
     (bind2 (f46 N x10 h8) fun (x11 : Bool) h12 =>
     some (Out.ret, (v0, x11, ()), h12)))
    else
     some (Out.ret, (v0, false, ()), h8))))
   else
    let x13 : Int := wrapA .i64 (v3 + 1)
    go v0 v2 x13 h))
  else
   some ((Out.exit 0), (v0, v2, ()), h))
noncomputable def f51_l1 (N : Nat) (M : Nat) (v0 : List UInt8) (v2 : Bool) (v3 : Int) (h : Heap) : Option (Out × (List UInt8 × Bool × Unit) × Heap) := iter (fun go s h => f51_l1_b N (fun v0 v2 v3 h => go (v0, v2, v3, ()) h) s.1 s.2.1 s.2.2.1 h) M (v0, v2, v3, ()) h
theorem f51_l1_succ (N : Nat) (M : Nat) (v0 : List UInt8) (v2 : Bool) (v3 : Int) (h : Heap) : f51_l1 N (M + 1) v0 v2 v3 h = f51_l1_b N (f51_l1 N M) v0 v2 v3 h := rfl
theorem f51_l1_zero (N : Nat) (v0 : List UInt8) (v2 : Bool) (v3 : Int) (h : Heap) : f51_l1 N 0 v0 v2 v3 h = none := rfl
noncomputable def f51 (N : Nat) (a0 : List UInt8) (h : Heap) : Option (Bool × Heap) :=
  (bind3 (f51_l1 N N a0 false 0 h) fun o14 (j15 : (List UInt8 × Bool × Unit)) h16 =>
  (bif eqOut o14 (.exit 0) then
   (bind2 (f46 N j15.1 h16) fun (x17 : Bool) h18 =>
   some (x17, h18))
  else
   some (j15.2.1, h16)))
noncomputable def ann51 : Ann := (.two .n (.two (.two .n (.two (.loop [(0, (.one .str)), (2, (.one .bool)), (3, (.one (.int .i64)))] [(.exit 0), .ret] [(0, (.one .str)), (2, (.one .bool))] .n) .n)) .n))
theorem f51_ok (N : Nat) : FnOK Tryz.prog 51 [(.one .str)] (.val (.one .bool)) (fun x h => f51 N x.1 h) :=
  runK_ok envOK hmix (addCall_ok (f46_ok N) noCalls_ok) (N := N) (x := ann51) (fn := Tryz.f51) (c := Tryz.f51.body.getD .skip) (by kernel_rfl) (by kernel_rfl) (by kernel_rfl) (by kernel_rfl) (fun _ _ => by kernel_rfl)

/- usufruct/usufructref7.lives -/
noncomputable def f47_l1_b (N : Nat) (go : SL → Bool → Int → Heap → Option (Out × (SL × Bool × Unit) × Heap)) (v0 : SL) (v2 : Bool) (v3 : Int) (h : Heap) : Option (Out × (SL × Bool × Unit) × Heap) :=
  let x1 : Bool := ltInt v3 (Int.ofNat v0.len)
  (bif x1 then
   let x2 : Bool := ltInt v3 65
   (bif x2 then
    (ixK v0.a v0.len v3 1 fun q3 =>
    (bindV (.val (.one .str)) (h.cell q3) fun (x4 : List UInt8) =>
    (bind2 (f68 N x4 h) fun (x5 : Bool) h6 =>
    let x7 : Bool := !x5
    (bif x7 then
     some (Out.ret, (v0, false, ()), h6)
    else
     let x8 : Int := wrapA .i64 (v3 + 1)
     go v0 v2 x8 h6))))
   else
    some ((Out.exit 0), (v0, v2, ()), h))
  else
   some ((Out.exit 0), (v0, v2, ()), h))
noncomputable def f47_l1 (N : Nat) (M : Nat) (v0 : SL) (v2 : Bool) (v3 : Int) (h : Heap) : Option (Out × (SL × Bool × Unit) × Heap) := iter (fun go s h => f47_l1_b N (fun v0 v2 v3 h => go (v0, v2, v3, ()) h) s.1 s.2.1 s.2.2.1 h) M (v0, v2, v3, ()) h
theorem f47_l1_succ (N : Nat) (M : Nat) (v0 : SL) (v2 : Bool) (v3 : Int) (h : Heap) : f47_l1 N (M + 1) v0 v2 v3 h = f47_l1_b N (f47_l1 N M) v0 v2 v3 h := rfl
theorem f47_l1_zero (N : Nat) (v0 : SL) (v2 : Bool) (v3 : Int) (h : Heap) : f47_l1 N 0 v0 v2 v3 h = none := rfl
noncomputable def f47 (N : Nat) (a0 : SL) (h : Heap) : Option (Bool × Heap) :=
  (bind3 (f47_l1 N N a0 false 0 h) fun o9 (j10 : (SL × Bool × Unit)) h11 =>
  (bif eqOut o9 (.exit 0) then
   let x12 : Bool := leInt (Int.ofNat j10.1.len) 64
   some (x12, h11)
  else
   some (j10.2.1, h11)))
noncomputable def ann47 : Ann := (.two .n (.two (.two .n (.two (.loop [(0, (.one .slice)), (2, (.one .bool)), (3, (.one (.int .i64)))] [(.exit 0), .ret] [(0, (.one .slice)), (2, (.one .bool))] .n) .n)) .n))
theorem f47_ok (N : Nat) : FnOK Tryz.prog 47 [(.one .slice)] (.val (.one .bool)) (fun x h => f47 N x.1 h) :=
  runK_ok envOK hmix (addCall_ok (f68_ok N) noCalls_ok) (N := N) (x := ann47) (fn := Tryz.f47) (c := Tryz.f47.body.getD .skip) (by kernel_rfl) (by kernel_rfl) (by kernel_rfl) (by kernel_rfl) (fun _ _ => by kernel_rfl)

/- usufruct/usufructref7.Type -/
noncomputable def f21_r (N : Nat) (rec21 : (Int × List UInt8 × SL × SL × Unit) → Int → Heap → Option (Bool × Heap)) (a0 : (Int × List UInt8 × SL × SL × Unit)) (a1 : Int) (h : Heap) : Option (Bool × Heap) :=
  let h1 : Heap := h.push (.row [(.int .i64 a0.1), (.str a0.2.1), (.slice a0.2.2.1.a a0.2.2.1.len a0.2.2.1.cap a0.2.2.1.sz), (.slice a0.2.2.2.1.a a0.2.2.2.1.len a0.2.2.2.1.cap a0.2.2.2.1.sz)] .own)
  let x2 : Bool := ltInt 64 a1
  (bif x2 then
   some (false, h1)
  else
   (bindV (.val (.one (.int .i64))) (h1.cell ((h.next, 0).1, (h.next, 0).2 + 0)) fun (x3 : Int) =>
   (bind2 (α := (Int × Option (Nat × Nat) × Int × Bool × Unit)) (
    let x4 : Bool := eqInt x3 1
    (bif x4 then
     some ((a1, (some (h.next, 0)), x3, x4, ()), h1)
    else
     let x5 : Bool := eqInt x3 2
     some ((a1, (some (h.next, 0)), x3, x5, ()), h1))) fun (j6 : (Int × Option (Nat × Nat) × Int × Bool × Unit)) h7 =>
   (bif j6.2.2.2.1 then
    (need j6.2.1 fun q8 =>
    (bindV (.val (.one .str)) (h7.cell (q8.1, q8.2 + 1)) fun (x9 : List UInt8) =>
    let x10 : Bool := eqBytes x9 []
    (bif x10 then
     (need j6.2.1 fun q11 =>
     (bindV (.val (.one .slice)) (h7.cell (q11.1, q11.2 + 2)) fun (x12 : SL) =>
     let x13 : Bool := eqInt (Int.ofNat x12.len) 0
     (bif x13 then
      (need j6.2.1 fun q14 =>
      (bindV (.val (.one .slice)) (h7.cell (q14.1, q14.2 + 3)) fun (x15 : SL) =>
      let x16 : Bool := eqInt (Int.ofNat x15.len) 0
      some (x16, h7)))
     else
      some (false, h7))))
    else
     some (false, h7))))
   else
    let x17 : Bool := eqInt j6.2.2.1 3
    (bif x17 then
     (need j6.2.1 fun q18 =>
     (bindV (.val (.one .str)) (h7.cell (q18.1, q18.2 + 1)) fun (x19 : List UInt8) =>
     (bind2 (f51 N x19 h7) fun (x20 : Bool) h21 =>
     (bif x20 then
      (need j6.2.1 fun q22 =>
      (bindV (.val (.one .slice)) (h21.cell (q22.1, q22.2 + 2)) fun (x23 : SL) =>
      (bind2 (f47 N x23 h21) fun (x24 : Bool) h25 =>
      (bif x24 then
       (need j6.2.1 fun q26 =>
       (bindV (.val (.one .slice)) (h25.cell (q26.1, q26.2 + 3)) fun (x27 : SL) =>
       let x28 : Bool := eqInt (Int.ofNat x27.len) 0
       some (x28, h25)))
      else
       some (false, h25)))))
     else
      some (false, h21)))))
    else
     (bind2 (α := (Int × Option (Nat × Nat) × Bool × Unit)) (
      let x29 : Bool := eqInt j6.2.2.1 4
      (bif x29 then
       some ((j6.1, j6.2.1, x29, ()), h7)
      else
       let x30 : Bool := eqInt j6.2.2.1 5
       some ((j6.1, j6.2.1, x30, ()), h7))) fun (j31 : (Int × Option (Nat × Nat) × Bool × Unit)) h32 =>
     (bif j31.2.2.1 then
      (need j31.2.1 fun q33 =>
      (bindV (.val (.one .str)) (h32.cell (q33.1, q33.2 + 1)) fun (x34 : List UInt8) =>
      let x35 : Bool := eqBytes x34 []
      (bif x35 then
       (need j31.2.1 fun q36 =>
       (bindV (.val (.one .slice)) (h32.cell (q36.1, q36.2 + 2)) fun (x37 : SL) =>
       let x38 : Bool := leInt (Int.ofNat x37.len) 1
       (bif x38 then
        (need j31.2.1 fun q39 =>
        (bindV (.val (.one .slice)) (h32.cell (q39.1, q39.2 + 2)) fun (x40 : SL) =>
        (bind2 (f47 N x40 h32) fun (x41 : Bool) h42 =>
        (bif x41 then
         (need j31.2.1 fun q43 =>
         (bindV (.val (.one .slice)) (h42.cell (q43.1, q43.2 + 3)) fun (x44 : SL) =>
         let x45 : Bool := eqInt (Int.ofNat x44.len) 1
         (bif x45 then
          (need j31.2.1 fun q46 =>
          (bindV (.val (.one .slice)) (h42.cell (q46.1, q46.2 + 3)) fun (x47 : SL) =>
          (ixK x47.a x47.len 0 4 fun q48 =>
          (bindV (.val (.agg [(.int .i64), .str, .slice, .slice])) (h42.cells q48 4) fun (x49 : (Int × List UInt8 × SL × SL × Unit)) =>
          let x50 : Int := wrapA .i64 (j31.1 + 1)
          (bind2 (rec21 (x49.1, x49.2.1, x49.2.2.1, x49.2.2.2.1, ()) x50 h42) fun (x51 : Bool) h52 =>
          some (x51, h52))))))
         else
          some (false, h42))))
        else
         some (false, h42)))))
       else
        some (false, h32))))
      else
       some (false, h32))))
     else
      some (false, h32))))))))
noncomputable def ann21 : Ann := (.two .n (.two .n (.two (.two .n (.two (.two (.join [(1, (.one (.int .i64))), (2, (.one .ptr)), (8, (.one (.int .i64))), (9, (.one .bool))] .n) (.two .n (.two .n (.two .n (.two (.join [(1, (.one (.int .i64))), (2, (.one .ptr)), (43, (.one .bool))] .n) .n))))) .n)) .n)))

noncomputable def cl_f21 (N M : Nat) : (((Int × List UInt8 × SL × SL × Unit) → Int → Heap → Option (Bool × Heap)) × Unit) := Nat.rec (fun _ _ _ => none, ()) (fun _ r => (f21_r N r.1, ())) M
noncomputable def f21 (N M : Nat) : (Int × List UInt8 × SL × SL × Unit) → Int → Heap → Option (Bool × Heap) := (cl_f21 N M).1
theorem f21_succ (N M : Nat) (a0 : (Int × List UInt8 × SL × SL × Unit)) (a1 : Int) (h : Heap) : f21 N (M + 1) a0 a1 h = f21_r N (f21 N M) a0 a1 h := rfl
theorem cl_f21_okm (N : Nat) : ∀ M : Nat, (FnOK Tryz.prog 21 [(.agg [(.int .i64), .str, .slice, .slice]), (.one (.int .i64))] (.val (.one .bool)) (fun x h => f21 N M x.1 x.2.1 h)) ∧ True
  | 0 => ⟨(fun xs h r h' hx => by cases hx), trivial⟩
  | M + 1 => ⟨runK_ok envOK hmix (addCall_ok (f51_ok N) (addCall_ok (f47_ok N) (addCall_ok (cl_f21_okm N M).1 noCalls_ok))) (N := N) (x := ann21) (fn := Tryz.f21) (c := Tryz.f21.body.getD .skip) (by kernel_rfl) (by kernel_rfl) (by kernel_rfl) (by kernel_rfl) (fun _ _ => by kernel_rfl), trivial⟩
theorem f21_ok (N : Nat) : FnOK Tryz.prog 21 [(.agg [(.int .i64), .str, .slice, .slice]), (.one (.int .i64))] (.val (.one .bool)) (fun x h => f21 N N x.1 x.2.1 h) := (cl_f21_okm N N).1

/- usufruct/usufructref9.marks -/
noncomputable def f58_l1_b (N : Nat) (go : SL → List UInt8 → Int → Heap → Option (Out × (List UInt8 × Unit) × Heap)) (v0 : SL) (v3 : List UInt8) (v4 : Int) (h : Heap) : Option (Out × (List UInt8 × Unit) × Heap) :=
  let x1 : Bool := ltInt v4 (Int.ofNat v0.len)
  (bif x1 then
   let x2 : Bool := ltInt 0 v4
   (bif x2 then
    (bindV (.val (.one .str)) (binStr .add v3 [44, 32]) fun (x3 : List UInt8) =>
    (bindV (.val (.one .str)) (binStr .add x3 [39]) fun (x4 : List UInt8) =>
    (ixK v0.a v0.len v4 1 fun q5 =>
    (bindV (.val (.one .str)) (h.cell q5) fun (x6 : List UInt8) =>
    (bindV (.val (.one .str)) (binStr .add x4 x6) fun (x7 : List UInt8) =>
    let x8 : Int := wrapA .i64 (v4 + 1)
    go v0 x7 x8 h)))))
   else
    (bindV (.val (.one .str)) (binStr .add v3 [39]) fun (x9 : List UInt8) =>
    (ixK v0.a v0.len v4 1 fun q10 =>
    (bindV (.val (.one .str)) (h.cell q10) fun (x11 : List UInt8) =>
    (bindV (.val (.one .str)) (binStr .add x9 x11) fun (x12 : List UInt8) =>
    let x13 : Int := wrapA .i64 (v4 + 1)
    go v0 x12 x13 h)))))
  else
   some ((Out.exit 0), (v3, ()), h))
noncomputable def f58_l1 (N : Nat) (M : Nat) (v0 : SL) (v3 : List UInt8) (v4 : Int) (h : Heap) : Option (Out × (List UInt8 × Unit) × Heap) := iter (fun go s h => f58_l1_b N (fun v0 v3 v4 h => go (v0, v3, v4, ()) h) s.1 s.2.1 s.2.2.1 h) M (v0, v3, v4, ()) h
theorem f58_l1_succ (N : Nat) (M : Nat) (v0 : SL) (v3 : List UInt8) (v4 : Int) (h : Heap) : f58_l1 N (M + 1) v0 v3 v4 h = f58_l1_b N (f58_l1 N M) v0 v3 v4 h := rfl
theorem f58_l1_zero (N : Nat) (v0 : SL) (v3 : List UInt8) (v4 : Int) (h : Heap) : f58_l1 N 0 v0 v3 v4 h = none := rfl
noncomputable def f58 (N : Nat) (a0 : SL) (h : Heap) : Option (List UInt8 × Heap) :=
  (bind3 (f58_l1 N N a0 [] 0 h) fun _ (j15 : (List UInt8 × Unit)) h16 =>
  let x17 : Bool := eqBytes j15.1 []
  (bif x17 then
   some ([], h16)
  else
   (bindV (.val (.one .str)) (binStr .add [60] j15.1) fun (x18 : List UInt8) =>
   (bindV (.val (.one .str)) (binStr .add x18 [62]) fun (x19 : List UInt8) =>
   some (x19, h16)))))
noncomputable def ann58 : Ann := (.two .n (.two .n (.two (.two .n (.two (.loop [(0, (.one .slice)), (3, (.one .str)), (4, (.one (.int .i64)))] [(.exit 0)] [(3, (.one .str))] .n) .n)) .n)))
theorem f58_ok (N : Nat) : FnOK Tryz.prog 58 [(.one .slice)] (.val (.one .str)) (fun x h => f58 N x.1 h) :=
  runK_ok envOK hmix noCalls_ok (N := N) (x := ann58) (fn := Tryz.f58) (c := Tryz.f58.body.getD .skip) (by kernel_rfl) (by kernel_rfl) (by kernel_rfl) (by kernel_rfl) (fun _ _ => by kernel_rfl)

/- usufruct/usufructref9.Type -/
noncomputable def f24_r (N : Nat) (rec24 : (Int × List UInt8 × SL × SL × Unit) → Heap → Option (List UInt8 × Heap)) (a0 : (Int × List UInt8 × SL × SL × Unit)) (h : Heap) : Option (List UInt8 × Heap) :=
  let h1 : Heap := h.push (.row [(.int .i64 a0.1), (.str a0.2.1), (.slice a0.2.2.1.a a0.2.2.1.len a0.2.2.1.cap a0.2.2.1.sz), (.slice a0.2.2.2.1.a a0.2.2.2.1.len a0.2.2.2.1.cap a0.2.2.2.1.sz)] .own)
  (bindV (.val (.one (.int .i64))) (h1.cell ((h.next, 0).1, (h.next, 0).2 + 0)) fun (x2 : Int) =>
  let x3 : Bool := eqInt x2 1
  (bif x3 then
   some ([105, 110, 116], h1)
  else
   let x4 : Bool := eqInt x2 2
   (bif x4 then
    some ([98, 111, 111, 108], h1)
   else
    let x5 : Bool := eqInt x2 3
    (bif x5 then
     (bindV (.val (.one .str)) (h1.cell ((h.next, 0).1, (h.next, 0).2 + 1)) fun (x6 : List UInt8) =>
     (bindV (.val (.one .slice)) (h1.cell ((h.next, 0).1, (h.next, 0).2 + 2)) fun (x7 : SL) =>
     (bind2 (f58 N x7 h1) fun (x8 : List UInt8) h9 =>
     (bindV (.val (.one .str)) (binStr .add x6 x8) fun (x10 : List UInt8) =>
     (guardB (bif (sameO (h1.cell ((h.next, 0).1, (h.next, 0).2 + 2)) (.slice x7.a x7.len x7.cap x7.sz)) then (bif (sameO (h9.cell ((h.next, 0).1, (h.next, 0).2 + 1)) (.str x6)) then (bif (sameO (h1.cell ((h.next, 0).1, (h.next, 0).2 + 1)) (.str x6)) then true else false) else false) else false) (
     some (x10, h9)))))))
    else
     (bind2 (α := (Option (Nat × Nat) × Bool × Unit)) (
      let x11 : Bool := eqInt x2 4
      (bif x11 then
       some (((some (h.next, 0)), x11, ()), h1)
      else
       let x12 : Bool := eqInt x2 5
       some (((some (h.next, 0)), x12, ()), h1))) fun (j13 : (Option (Nat × Nat) × Bool × Unit)) h14 =>
     (bif j13.2.1 then
      (need j13.1 fun q15 =>
      (bindV (.val (.one .slice)) (h14.cell (q15.1, q15.2 + 3)) fun (x16 : SL) =>
      let x17 : Bool := eqInt (Int.ofNat x16.len) 0
      (bif x17 then
       some ([], h14)
      else
       (bind2 (α := (Option (Nat × Nat) × List UInt8 × Unit)) (
        (need j13.1 fun q18 =>
        (bindV (.val (.one .slice)) (h14.cell (q18.1, q18.2 + 2)) fun (x19 : SL) =>
        let x20 : Bool := ltInt 0 (Int.ofNat x19.len)
        (bif x20 then
         (bindV (.val (.one .str)) (binStr .add [38] [39]) fun (x21 : List UInt8) =>
         (need j13.1 fun q22 =>
         (bindV (.val (.one .slice)) (h14.cell (q22.1, q22.2 + 2)) fun (x23 : SL) =>
         (ixK x23.a x23.len 0 1 fun q24 =>
         (bindV (.val (.one .str)) (h14.cell q24) fun (x25 : List UInt8) =>
         (bindV (.val (.one .str)) (binStr .add x21 x25) fun (x26 : List UInt8) =>
         (bindV (.val (.one .str)) (binStr .add x26 [32]) fun (x27 : List UInt8) =>
         some ((j13.1, x27, ()), h14))))))))
        else
         some ((j13.1, [38], ()), h14))))) fun (j28 : (Option (Nat × Nat) × List UInt8 × Unit)) h29 =>
       (bind2 (α := (Option (Nat × Nat) × List UInt8 × Unit)) (
        (need j28.1 fun q30 =>
        (bindV (.val (.one (.int .i64))) (h29.cell (q30.1, q30.2 + 0)) fun (x31 : Int) =>
        let x32 : Bool := eqInt x31 5
        (bif x32 then
         (bindV (.val (.one .str)) (binStr .add j28.2.1 [109, 117, 116, 32]) fun (x33 : List UInt8) =>
         some ((j28.1, x33, ()), h29))
        else
         some ((j28.1, j28.2.1, ()), h29))))) fun (j34 : (Option (Nat × Nat) × List UInt8 × Unit)) h35 =>
       (need j34.1 fun q36 =>
       (bindV (.val (.one .slice)) (h35.cell (q36.1, q36.2 + 3)) fun (x37 : SL) =>
       (ixK x37.a x37.len 0 4 fun q38 =>
       (bindV (.val (.agg [(.int .i64), .str, .slice, .slice])) (h35.cells q38 4) fun (x39 : (Int × List UInt8 × SL × SL × Unit)) =>
       (bind2 (rec24 (x39.1, x39.2.1, x39.2.2.1, x39.2.2.2.1, ()) h35) fun (x40 : List UInt8) h41 =>
       (bindV (.val (.one .str)) (binStr .add j34.2.1 x40) fun (x42 : List UInt8) =>
       some (x42, h41))))))))))))
     else
      some ([], h14)))))))
noncomputable def ann24 : Ann := (.two .n (.two (.two .n (.two (.two .n (.two .n (.two .n (.two .n (.two .n (.two .n (.two (.join [(1, (.one .ptr)), (18, (.one .bool))] .n) (.two (.two .n (.two .n (.two (.join [(1, (.one .ptr)), (3, (.one .str))] .n) (.two (.join [(1, (.one .ptr)), (3, (.one .str))] .n) .n)))) .n)))))))) .n)) .n))

noncomputable def cl_f24 (N M : Nat) : (((Int × List UInt8 × SL × SL × Unit) → Heap → Option (List UInt8 × Heap)) × Unit) := Nat.rec (fun _ _ => none, ()) (fun _ r => (f24_r N r.1, ())) M
noncomputable def f24 (N M : Nat) : (Int × List UInt8 × SL × SL × Unit) → Heap → Option (List UInt8 × Heap) := (cl_f24 N M).1
theorem f24_succ (N M : Nat) (a0 : (Int × List UInt8 × SL × SL × Unit)) (h : Heap) : f24 N (M + 1) a0 h = f24_r N (f24 N M) a0 h := rfl
theorem cl_f24_okm (N : Nat) : ∀ M : Nat, (FnOK Tryz.prog 24 [(.agg [(.int .i64), .str, .slice, .slice])] (.val (.one .str)) (fun x h => f24 N M x.1 h)) ∧ True
  | 0 => ⟨(fun xs h r h' hx => by cases hx), trivial⟩
  | M + 1 => ⟨runK_ok envOK hmix (addCall_ok (f58_ok N) (addCall_ok (cl_f24_okm N M).1 noCalls_ok)) (N := N) (x := ann24) (fn := Tryz.f24) (c := Tryz.f24.body.getD .skip) (by kernel_rfl) (by kernel_rfl) (by kernel_rfl) (by kernel_rfl) (fun _ _ => by kernel_rfl), trivial⟩
theorem f24_ok (N : Nat) : FnOK Tryz.prog 24 [(.agg [(.int .i64), .str, .slice, .slice])] (.val (.one .str)) (fun x h => f24 N N x.1 h) := (cl_f24_okm N N).1

/- usufruct/usufructlaw8.ParseBack -/
noncomputable def f5 (N : Nat) (a0 : (Int × List UInt8 × SL × SL × Unit)) (h : Heap) : Option (Bool × Heap) :=
  let h1 : Heap := h.push (.row [(.int .i64 a0.1), (.str a0.2.1), (.slice a0.2.2.1.a a0.2.2.1.len a0.2.2.1.cap a0.2.2.1.sz), (.slice a0.2.2.2.1.a a0.2.2.2.1.len a0.2.2.2.1.cap a0.2.2.2.1.sz)] .own)
  (bindV (.val (.agg [(.int .i64), .str, .slice, .slice])) (h1.cells (h.next, 0) 4) fun (x2 : (Int × List UInt8 × SL × SL × Unit)) =>
  (bind2 (f21 N N (x2.1, x2.2.1, x2.2.2.1, x2.2.2.2.1, ()) 4 h1) fun (x3 : Bool) h4 =>
  let x5 : Bool := !x3
  (bif x5 then
   (bind2 (f22 N  h4) fun (x6 : Bool) h7 =>
   some (x6, h7))
  else
   (bindV (.val (.agg [(.int .i64), .str, .slice, .slice])) (h4.cells (h.next, 0) 4) fun (x8 : (Int × List UInt8 × SL × SL × Unit)) =>
   (bind2 (f24 N N (x8.1, x8.2.1, x8.2.2.1, x8.2.2.2.1, ()) h4) fun (x9 : List UInt8) h10 =>
   (bind2 (f23 N x9 h10) fun (x11 : ((Int × List UInt8 × SL × SL × Unit) × AV × Unit)) h12 =>
   let h13 : Heap := h12.push (.row [(.int .i64 0), (.str []), (.slice none 0 0 0), (.slice none 0 0 0)] .own)
   (need (h13.store (h12.next, 0) [(.int .i64 x11.1.1), (.str x11.1.2.1), (.slice x11.1.2.2.1.a x11.1.2.2.1.len x11.1.2.2.1.cap x11.1.2.2.1.sz), (.slice x11.1.2.2.2.1.a x11.1.2.2.2.1.len x11.1.2.2.2.1.cap x11.1.2.2.2.1.sz)]) fun h14 =>
   (bind2 (f22 N  h14) fun (x15 : Bool) h16 =>
   (bif x15 then
    (bindV (.val (.one .bool)) (binA E .eql 29 (.tmp 17) (.const .nilIface) x11.2.1 AV.nilIface) fun (x17 : Bool) =>
    (bif x17 then
     (bindV (.val (.agg [(.int .i64), .str, .slice, .slice])) (h16.cells (h.next, 0) 4) fun (x18 : (Int × List UInt8 × SL × SL × Unit)) =>
     (bindV (.val (.agg [(.int .i64), .str, .slice, .slice])) (h16.cells (h12.next, 0) 4) fun (x19 : (Int × List UInt8 × SL × SL × Unit)) =>
     (bind2 (f25 N N (x18.1, x18.2.1, x18.2.2.1, x18.2.2.2.1, ()) (x19.1, x19.2.1, x19.2.2.1, x19.2.2.2.1, ()) h16) fun (x20 : Bool) h21 =>
     some (x20, h21))))
    else
     some (false, h16)))
   else
    some (false, h16))))))))))
noncomputable def ann5 : Ann := .n
theorem f5_ok (N : Nat) : FnOK Tryz.prog 5 [(.agg [(.int .i64), .str, .slice, .slice])] (.val (.one .bool)) (fun x h => f5 N x.1 h) :=
  runK_ok envOK hmix (addCall_ok (f25_ok N) (addCall_ok (f24_ok N) (addCall_ok (f23_ok N) (addCall_ok (f22_ok N) (addCall_ok (f21_ok N) noCalls_ok))))) (N := N) (x := ann5) (fn := Tryz.f5) (c := Tryz.f5.body.getD .skip) (by kernel_rfl) (by kernel_rfl) (by kernel_rfl) (by kernel_rfl) (fun _ _ => by kernel_rfl)
end Go.Proofs.YtkcjphhjmlienaaGreatDoor.Qp

set_option linter.unusedVariables false
set_option linter.unusedSimpArgs false
open Go Go.Proofs.YtkcjphhjmlienaaGreatDoor.Ai Go.Proofs
namespace Go.Proofs.YtkcjphhjmlienaaGreatDoor.Qp
abbrev Bs := List UInt8
/-! small rules -/
theorem bindV_some' {β : Type} (t : Ty) (v : AV) (K : t.den → Option β) : bindV t (some v) K = t.cast v K := rfl
theorem guardB_true {β : Type} (k : Option β) : guardB true k = k := rfl
theorem und9 : E.und 9 = some .string := by kernel_rfl
theorem strK_at {β : Type} {s : Bs} {i : Nat} (hi : i < s.length) (K : Int → Option β) : strK s (i : Int) K = K ((s[i]).toNat : Int) := by
  show (match (Int.ofNat i) with | .ofNat j => (match s[j]? with | some b => K b.toNat | none => none) | .negSucc _ => none) = _
  simp only [List.getElem?_eq_getElem hi]
theorem boundA_nat {i hi d : Nat} (h : i ≤ hi) : boundA (some (.int .i64 (i : Int))) hi d = some i := by
  have : Nat.ble i hi = true := by simpa using h
  have e : natOf (.int .i64 (i : Int)) = some i := rfl
  simp only [boundA, e, this, cond_true]
theorem slice_to {h : Heap} {s : Bs} {i j : Nat} (h1 : i ≤ j) (h2 : j ≤ s.length) : sliceA E h 9 (.str s) (some (.int .i64 (i : Int))) (some (.int .i64 (j : Int))) = some (.str ((s.take j).drop i)) := by
  simp only [sliceA, und9, boundA_nat h2, boundA_nat h1]
theorem slice_from {h : Heap} {s : Bs} {i : Nat} (h1 : i ≤ s.length) : sliceA E h 9 (.str s) (some (.int .i64 (i : Int))) none = some (.str (s.drop i)) := by
  have e : boundA none s.length s.length = some s.length := rfl
  simp only [sliceA, und9, e, boundA_nat h1, List.take_length]
theorem slice_upto {h : Heap} {s : Bs} {j : Nat} (h2 : j ≤ s.length) : sliceA E h 9 (.str s) none (some (.int .i64 (j : Int))) = some (.str (s.take j)) := by
  have e : boundA none j 0 = some 0 := rfl
  simp only [sliceA, und9, boundA_nat h2, e, List.drop_zero]
theorem lt_nat (a b : Nat) : ltInt (a : Int) (Int.ofNat b) = decide (a < b) := by
  rw [ltInt_dec]; by_cases h : a < b <;> simp [h] <;> omega
theorem lt_nat' (a b : Nat) : ltInt (a : Int) (b : Int) = decide (a < b) := lt_nat a b
theorem wrap_nat {i : Nat} (h : i ≤ 4000000000) : wrapA .i64 (i : Int) = (i : Int) := wrapA_small (by omega) (by omega)
theorem wrap_succ {i : Nat} (h : i ≤ 4000000000) : wrapA .i64 ((i : Int) + 1) = ((i + 1 : Nat) : Int) := by rw [wrapA_small (by omega) (by omega)]; rfl
theorem eqI (a b : Int) : eqInt a b = decide (a = b) := eqInt_dec a b
theorem leI (a b : Int) : leInt a b = decide (a ≤ b) := leInt_dec a b
theorem ltI (a b : Int) : ltInt a b = decide (a < b) := ltInt_dec a b
/-! bytes -/
def letterB (c : UInt8) : Bool := decide (97 ≤ c.toNat ∧ c.toNat ≤ 122) || decide (65 ≤ c.toNat ∧ c.toNat ≤ 90) || decide (c.toNat = 95)
def digitB (c : UInt8) : Bool := decide (48 ≤ c.toNat ∧ c.toNat ≤ 57)
def goesB (c : UInt8) : Bool := letterB c || digitB c
theorem f170_eq (N : Nat) (c : UInt8) (h : Heap) : f170 N (c.toNat : Int) h = some (letterB c, h) := by
  unfold f170 letterB
  simp only [leI, eqI]
  have a1 : decide ((97 : Int) ≤ (c.toNat : Int)) = decide (97 ≤ c.toNat) := by by_cases q : 97 ≤ c.toNat <;> simp [q] <;> omega
  have a2 : decide ((c.toNat : Int) ≤ 122) = decide (c.toNat ≤ 122) := by by_cases q : c.toNat ≤ 122 <;> simp [q] <;> omega
  have a3 : decide ((65 : Int) ≤ (c.toNat : Int)) = decide (65 ≤ c.toNat) := by by_cases q : 65 ≤ c.toNat <;> simp [q] <;> omega
  have a4 : decide ((c.toNat : Int) ≤ 90) = decide (c.toNat ≤ 90) := by by_cases q : c.toNat ≤ 90 <;> simp [q] <;> omega
  have a5 : decide ((c.toNat : Int) = 95) = decide (c.toNat = 95) := by by_cases q : c.toNat = 95 <;> simp [q] <;> omega
  rw [a1, a2, a3, a4, a5]
  by_cases q1 : 97 ≤ c.toNat <;> by_cases q2 : c.toNat ≤ 122 <;> by_cases q3 : 65 ≤ c.toNat <;> by_cases q4 : c.toNat ≤ 90 <;> by_cases q5 : c.toNat = 95 <;> simp [q1, q2, q3, q4, q5]
theorem f65_eq (N : Nat) (c : UInt8) (h : Heap) : f65 N (c.toNat : Int) h = some (letterB c, h) := by
  unfold f65 letterB
  simp only [leI, eqI]
  have a1 : decide ((97 : Int) ≤ (c.toNat : Int)) = decide (97 ≤ c.toNat) := by by_cases q : 97 ≤ c.toNat <;> simp [q] <;> omega
  have a2 : decide ((c.toNat : Int) ≤ 122) = decide (c.toNat ≤ 122) := by by_cases q : c.toNat ≤ 122 <;> simp [q] <;> omega
  have a3 : decide ((65 : Int) ≤ (c.toNat : Int)) = decide (65 ≤ c.toNat) := by by_cases q : 65 ≤ c.toNat <;> simp [q] <;> omega
  have a4 : decide ((c.toNat : Int) ≤ 90) = decide (c.toNat ≤ 90) := by by_cases q : c.toNat ≤ 90 <;> simp [q] <;> omega
  have a5 : decide ((c.toNat : Int) = 95) = decide (c.toNat = 95) := by by_cases q : c.toNat = 95 <;> simp [q] <;> omega
  rw [a1, a2, a3, a4, a5]
  by_cases q1 : 97 ≤ c.toNat <;> by_cases q2 : c.toNat ≤ 122 <;> by_cases q3 : 65 ≤ c.toNat <;> by_cases q4 : c.toNat ≤ 90 <;> by_cases q5 : c.toNat = 95 <;> simp [q1, q2, q3, q4, q5]
theorem f69_eq (N : Nat) (c : UInt8) (h : Heap) : f69 N (c.toNat : Int) h = some (digitB c, h) := by
  unfold f69 digitB
  simp only [leI]
  have a1 : decide ((48 : Int) ≤ (c.toNat : Int)) = decide (48 ≤ c.toNat) := by by_cases q : 48 ≤ c.toNat <;> simp [q] <;> omega
  have a2 : decide ((c.toNat : Int) ≤ 57) = decide (c.toNat ≤ 57) := by by_cases q : c.toNat ≤ 57 <;> simp [q] <;> omega
  rw [a1, a2]
  by_cases q1 : 48 ≤ c.toNat <;> by_cases q2 : c.toNat ≤ 57 <;> simp [q1, q2]
theorem f195_eq (N : Nat) (c : UInt8) (h : Heap) : f195 N (c.toNat : Int) h = some (goesB c, h) := by
  unfold f195
  rw [f170_eq, bind2_some]
  unfold goesB digitB
  simp only [leI]
  have a1 : decide ((48 : Int) ≤ (c.toNat : Int)) = decide (48 ≤ c.toNat) := by by_cases q : 48 ≤ c.toNat <;> simp [q] <;> omega
  have a2 : decide ((c.toNat : Int) ≤ 57) = decide (c.toNat ≤ 57) := by by_cases q : c.toNat ≤ 57 <;> simp [q] <;> omega
  rw [a1, a2]
  cases letterB c <;> by_cases q1 : 48 ≤ c.toNat <;> by_cases q2 : c.toNat ≤ 57 <;> simp [q1, q2]
/-! runs -/
def runN : Bs → Nat
  | [] => 0
  | c :: r => if goesB c then runN r + 1 else 0
theorem runN_le : ∀ t : Bs, runN t ≤ t.length
  | [] => Nat.le_refl _
  | c :: r => by have := runN_le r; simp only [runN, List.length_cons]; split <;> omega
theorem drop_cons {s : Bs} {i : Nat} (h : i < s.length) : s.drop i = s[i] :: s.drop (i + 1) := List.drop_eq_getElem_cons h
theorem run_loop {N : Nat} {s : Bs} (hs : s.length ≤ 3000000) (h : Heap) : ∀ (M i : Nat), i ≤ s.length → s.length - i < M → f171_l1 N M s (i : Int) h = some (.exit 0, (((i + runN (s.drop i) : Nat) : Int), ()), h) := by
  intro M
  induction M with
  | zero => intro i _ h; omega
  | succ M ih =>
    intro i hi hM
    rw [f171_l1_succ]
    unfold f171_l1_b
    simp only [lt_nat]
    by_cases q : i < s.length
    · simp only [q, decide_true, cond_true]
      rw [strK_at q, f195_eq, bind2_some, wrap_succ (by omega), drop_cons q]
      simp only [runN]
      cases hg : goesB s[i] with
      | true =>
        simp only [cond_true, if_true]
        rw [ih (i + 1) q (by omega)]
        simp only [Nat.add_assoc, Nat.add_comm 1]
      | false => simp
    · simp only [q, decide_false, cond_false]
      rw [List.drop_of_length_le (by omega)]; rfl
theorem f171_eq {N : Nat} {s : Bs} (hs : s.length ≤ 3000000) (hN : s.length < N) {i : Nat} (hi : i ≤ s.length) (h : Heap) : f171 N s (i : Int) h = some (((i + runN (s.drop i) : Nat) : Int), h) := by
  unfold f171
  rw [run_loop hs h N i hi (by omega)]; rfl
theorem rrun_loop {N : Nat} {s : Bs} (hs : s.length ≤ 3000000) (h : Heap) : ∀ (M i : Nat), i ≤ s.length → s.length - i < M → f66_l1 N M s (i : Int) h = some (.exit 0, (((i + runN (s.drop i) : Nat) : Int), ()), h) := by
  intro M
  induction M with
  | zero => intro i _ h; omega
  | succ M ih =>
    intro i hi hM
    rw [f66_l1_succ]
    unfold f66_l1_b
    simp only [lt_nat]
    by_cases q : i < s.length
    · simp only [q, decide_true, cond_true]
      rw [strK_at q, f65_eq, bind2_some, wrap_succ (by omega), strK_at q, f69_eq, bind2_some, drop_cons q]
      have hI := ih (i + 1) q (by omega)
      have hgo : goesB s[i] = (letterB s[i] || digitB s[i]) := rfl
      cases hg : letterB s[i] with
      | true =>
        rw [hg, Bool.true_or] at hgo
        simp only [runN, hgo, cond_true, if_true]
        rw [hI]
        simp only [Nat.add_assoc, Nat.add_comm 1]
      | false =>
        cases hd : digitB s[i] with
        | true =>
          rw [hd, Bool.or_true] at hgo
          simp only [runN, hgo, cond_true, cond_false, if_true]
          rw [hI]
          simp only [Nat.add_assoc, Nat.add_comm 1]
        | false =>
          rw [hg, hd] at hgo
          simp only [runN, hgo, cond_false]; simp
    · simp only [q, decide_false, cond_false]
      rw [List.drop_of_length_le (by omega)]; rfl
theorem f66_eq {N : Nat} {s : Bs} (hs : s.length ≤ 3000000) (hN : s.length < N) {i : Nat} (hi : i ≤ s.length) (h : Heap) : f66 N s (i : Int) h = some (((i + runN (s.drop i) : Nat) : Int), h) := by
  unfold f66
  rw [rrun_loop hs h N i hi (by omega)]; rfl
/-! words -/
def wordL : List Bs := [[102, 110], [115, 116, 114, 117, 99, 116], [112, 117, 98], [108, 101, 116], [109, 117, 116], [105, 102], [101, 108, 115, 101], [119, 104, 105, 108, 101], [108, 111, 111, 112], [98, 114, 101, 97, 107], [99, 111, 110, 116, 105, 110, 117, 101], [114, 101, 116, 117, 114, 110], [100, 114, 111, 112], [116, 114, 117, 101], [102, 97, 108, 115, 101], [105, 110, 116], [98, 111, 111, 108]]
def anyEq (t : Bs) : List Bs → Bool
  | [] => false
  | w :: r => bif eqBytes t w then true else anyEq t r
def isWord (t : Bs) : Bool := anyEq t wordL
theorem f172_eq (N : Nat) (t : Bs) (h : Heap) : f172 N t h = some (isWord t, h) := by
  unfold f172 isWord wordL
  simp only [anyEq]
  repeat' (first | rfl | (generalize eqBytes t _ = b; cases b <;> simp only [cond_true, cond_false]))
theorem eqBytes_comm (a b : Bs) : eqBytes a b = eqBytes b a := by
  rw [eqBytes_eq, eqBytes_eq]
  by_cases q : a = b
  · subst q; rfl
  · have q' : ¬ b = a := fun e => q e.symm
    rw [beq_eq_false_iff_ne.2 q, beq_eq_false_iff_ne.2 q']
theorem rword_loop {N : Nat} {t : Bs} {h : Heap} {A : Nat} {l : List Bs} (hg : h.is A (l.map AV.str)) (hl : l.length ≤ 1000) : ∀ (M i : Nat), i ≤ l.length → l.length - i < M →
    f67_l1 N M t false ⟨some (A, 0), l.length, l.length, 1⟩ (i : Int) h = bif anyEq t (l.drop i) then some (.ret, (true, ()), h) else some (.exit 0, (false, ()), h) := by
  intro M
  induction M with
  | zero => intro i _ h; omega
  | succ M ih =>
    intro i hi hM
    rw [f67_l1_succ]
    unfold f67_l1_b
    simp only [lt_nat]
    by_cases q : i < l.length
    · simp only [q, decide_true, cond_true]
      have e := ixK_of (β := Out × (Bool × Unit) × Heap) (A, 0) l.length i 1
      rw [show ((i : Nat) : Int) = Int.ofNat i from rfl, ixK_of _ _ _ _ _ q]
      simp only [Nat.zero_add, Nat.mul_one]
      have hc := hg.cell i
      rw [List.drop_eq_getElem_cons (by simpa using q)] at hc
      simp only [List.head?_cons, List.getElem_map] at hc
      rw [hc]
      simp only [bindV_some, cast_str]
      rw [List.drop_eq_getElem_cons q]
      simp only [anyEq, eqBytes_comm t]
      cases hq : eqBytes l[i] t with
      | true => simp
      | false =>
        simp only [cond_false]
        rw [show Int.ofNat i = (i : Int) from rfl, wrap_succ (by omega)]
        exact ih (i + 1) q (by omega)
    · simp only [q, decide_false, cond_false]
      rw [List.drop_of_length_le (by omega)]; rfl
theorem f67_eq {N : Nat} (hN : 20 ≤ N) (t : Bs) (h : Heap) : f67 N t h = some (isWord t, h.push (.row (wordL.map AV.str) .own)) := by
  unfold f67
  have := rword_loop (N := N) (t := t) (Heap.is_push h (wordL.map AV.str)) (by decide) N 0 (Nat.zero_le _) (by show 17 - 0 < N; omega)
  have e : (h.push (.row (wordL.map AV.str) .own)) = h.push (.row [(.str [102, 110]), (.str [115, 116, 114, 117, 99, 116]), (.str [112, 117, 98]), (.str [108, 101, 116]), (.str [109, 117, 116]), (.str [105, 102]), (.str [101, 108, 115, 101]), (.str [119, 104, 105, 108, 101]), (.str [108, 111, 111, 112]), (.str [98, 114, 101, 97, 107]), (.str [99, 111, 110, 116, 105, 110, 117, 101]), (.str [114, 101, 116, 117, 114, 110]), (.str [100, 114, 111, 112]), (.str [116, 114, 117, 101]), (.str [102, 97, 108, 115, 101]), (.str [105, 110, 116]), (.str [98, 111, 111, 108])] .own) := rfl
  rw [← e]
  dsimp only
  rw [show (⟨some (h.next, 0), 17, 17, 1⟩ : SL) = ⟨some (h.next, 0), wordL.length, wordL.length, 1⟩ from rfl, show (0 : Int) = ((0 : Nat) : Int) from rfl, this, List.drop_zero]
  unfold isWord
  cases anyEq t wordL <;> rfl
end Go.Proofs.YtkcjphhjmlienaaGreatDoor.Qp

set_option linter.unusedVariables false
set_option linter.unusedSimpArgs false
open Go Go.Proofs.YtkcjphhjmlienaaGreatDoor.Ai Go.Proofs
namespace Go.Proofs.YtkcjphhjmlienaaGreatDoor.Qp
/-! prefixes, first bytes -/
def hasP (p x : Bs) : Bool := decide (p.length ≤ x.length) && eqBytes (x.take p.length) p
theorem f140_eq (N : Nat) (x p : Bs) (h : Heap) : f140 N x p h = some (hasP p x, h) := by
  unfold f140 f186
  have e : leInt (Int.ofNat p.length) (Int.ofNat x.length) = decide (p.length ≤ x.length) := by
    rw [leI]; by_cases q : p.length ≤ x.length <;> simp [q] <;> omega
  simp only [e, hasP]
  by_cases q : p.length ≤ x.length
  · simp only [q, decide_true, cond_true, Bool.true_and]
    rw [show Int.ofNat p.length = (p.length : Int) from rfl, slice_upto q]
    rfl
  · simp only [q, decide_false, cond_false, Bool.false_and]; rfl
theorem hasP_take {p x : Bs} (h : hasP p x = true) : x.take p.length = p ∧ p.length ≤ x.length := by
  simp only [hasP, Bool.and_eq_true, decide_eq_true_eq, eqBytes_eq, beq_iff_eq] at h
  exact ⟨h.2, h.1⟩
theorem f141_eq (N : Nat) (x : Bs) (c : Int) (h : Heap) : f141 N x c h = some (Qa.idxL c.toNat.toUInt8 x 0, h) := rfl
/-! blanks -/
def lineN : Bs → Nat
  | [] => 0
  | c :: r => if c.toNat = 10 then 0 else lineN r + 1
def blankB (c : UInt8) : Bool := decide (c.toNat = 32) || decide (c.toNat = 9) || decide (c.toNat = 10)
def blankN : Bool → Bs → Nat
  | _, [] => 0
  | true, c :: r => if c.toNat = 10 then blankN false r + 1 else blankN true r + 1
  | false, c :: r => if blankB c = true then blankN false r + 1 else if hasP [47, 47] (c :: r) = true then blankN true r + 1 else 0
theorem lineN_le : ∀ t : Bs, lineN t ≤ t.length
  | [] => Nat.le_refl _
  | c :: r => by have := lineN_le r; simp only [lineN, List.length_cons]; split <;> omega
theorem blank_line : ∀ t : Bs, blankN true t = lineN t + blankN false (t.drop (lineN t))
  | [] => rfl
  | c :: r => by
    have ih := blank_line r
    by_cases q : c.toNat = 10
    · have hb : blankB c = true := by simp [blankB, q]
      simp only [lineN, q, if_true, List.drop_zero, Nat.zero_add, blankN, hb]
    · simp only [lineN, q, if_false, blankN, List.drop_succ_cons]; omega
theorem blankN_le : ∀ (t : Bs) (b : Bool), blankN b t ≤ t.length
  | [], b => by cases b <;> simp [blankN]
  | c :: r, b => by
    have h1 := blankN_le r true
    have h2 := blankN_le r false
    cases b with
    | true => simp only [blankN, List.length_cons]; split <;> omega
    | false =>
      simp only [blankN, List.length_cons]
      split
      · omega
      · split <;> omega
theorem hasP_47 {c : UInt8} {r : Bs} (h : hasP [47, 47] (c :: r) = true) : c.toNat = 47 ∧ ∃ r', r = 47 :: r' := by
  obtain ⟨h1, h2⟩ := hasP_take h
  cases r with
  | nil => simp at h2
  | cons d r' => simp at h1; exact ⟨by rw [h1.1]; rfl, r', by rw [h1.2]⟩
theorem blank_rem {t : Bs} (h : hasP [47, 47] t = true) : blankN false t = blankN true t ∧ 2 ≤ lineN t := by
  cases t with
  | nil => simp [hasP] at h
  | cons c r =>
    obtain ⟨h1, r', rfl⟩ := hasP_47 h
    have hb : blankB c = false := by simp [blankB, h1]
    have e : (47 : UInt8).toNat = 47 := rfl
    refine ⟨by simp [blankN, hb, h, h1], ?_⟩
    simp [lineN, h1, e]
theorem idx_line : ∀ (t : Bs) (k : Nat), Qa.idxL 10 t k = if lineN t < t.length then ((k + lineN t : Nat) : Int) else -1
  | [], k => rfl
  | c :: r, k => by
    have ih := idx_line r (k + 1)
    have e : (10 : UInt8).toNat = 10 := rfl
    simp only [Qa.idxL, e]
    by_cases q : c.toNat = 10
    · have : Nat.beq c.toNat 10 = true := by rw [q]; rfl
      simp only [this, cond_true, lineN, q, if_true, List.length_cons]
      rw [if_pos (Nat.succ_pos _)]; simp
    · have : Nat.beq c.toNat 10 = false := by
        cases hb : Nat.beq c.toNat 10 with
        | false => rfl
        | true => exact absurd (Nat.eq_of_beq_eq_true hb) q
      simp only [this, cond_false, lineN, q, if_false, List.length_cons, ih]
      by_cases z : lineN r < r.length
      · rw [if_pos z, if_pos (by omega)]; congr 1; omega
      · rw [if_neg z, if_neg (by omega)]
theorem byte_eq (c : UInt8) (n : Nat) : eqInt (c.toNat : Int) (n : Int) = decide (c.toNat = n) := by
  rw [eqI]; by_cases q : c.toNat = n <;> simp [q] <;> omega
theorem blank_loop {N : Nat} {s : Bs} (hs : s.length ≤ 3000000) (h : Heap) : ∀ (M i : Nat), i ≤ s.length → s.length - i < M →
    ∃ o a b, f90_l1 N M s (i : Int) 0 h = some (o, (a, b, ()), h) ∧ (bif eqOut o (.exit 0) then a else b) = ((i + blankN false (s.drop i) : Nat) : Int) := by
  intro M
  induction M with
  | zero => intro i _ h; omega
  | succ M ih =>
    intro i hi hM
    rw [f90_l1_succ]
    unfold f90_l1_b
    simp only [lt_nat]
    by_cases q : i < s.length
    · simp only [q, decide_true, cond_true]
      rw [strK_at q]
      have b32 := byte_eq s[i] 32
      have b9 := byte_eq s[i] 9
      have b10 := byte_eq s[i] 10
      rw [show ((32 : Nat) : Int) = 32 from rfl] at b32
      rw [show ((9 : Nat) : Int) = 9 from rfl] at b9
      rw [show ((10 : Nat) : Int) = 10 from rfl] at b10
      have nx : blankB s[i] = true → ((i + 1 + blankN false (s.drop (i + 1)) : Nat) : Int) = ((i + blankN false (s.drop i) : Nat) : Int) := fun hb => by
        rw [drop_cons q]; simp only [blankN, hb, if_true]; congr 1; omega
      obtain ⟨o, a, b, e1, e2⟩ := ih (i + 1) q (by omega)
      simp only [b32]
      by_cases q1 : (s[i]).toNat = 32
      · simp only [q1, decide_true, cond_true]
        rw [wrap_succ (by omega)]
        exact ⟨o, a, b, e1, e2.trans (nx (by simp [blankB, q1]))⟩
      simp only [q1, decide_false, cond_false]
      rw [strK_at q]
      simp only [b9]
      by_cases q2 : (s[i]).toNat = 9
      · simp only [q2, decide_true, cond_true]
        rw [wrap_succ (by omega)]
        exact ⟨o, a, b, e1, e2.trans (nx (by simp [blankB, q2]))⟩
      simp only [q2, decide_false, cond_false]
      rw [strK_at q]
      simp only [b10]
      by_cases q3 : (s[i]).toNat = 10
      · simp only [q3, decide_true, cond_true]
        rw [wrap_succ (by omega)]
        exact ⟨o, a, b, e1, e2.trans (nx (by simp [blankB, q3]))⟩
      simp only [q3, decide_false, cond_false]
      rw [slice_from hi]
      simp only [bindV_some, cast_str, f140_eq, bind2_some]
      have hb : blankB s[i] = false := by simp [blankB, q1, q2, q3]
      cases hp : hasP [47, 47] (s.drop i) with
      | false =>
        simp only [cond_false]
        refine ⟨_, _, _, rfl, ?_⟩
        rw [drop_cons q] at hp ⊢
        simp only [blankN, hb, hp, if_false, Bool.false_eq_true, Nat.add_zero]
        rfl
      | true =>
        simp only [cond_true]
        have hr := blank_rem hp
        have hl := lineN_le (s.drop i)
        rw [List.length_drop] at hl
        rw [slice_from hi]
        simp only [bindV_some, cast_str, f141_eq, bind2_some]
        rw [show (10 : Int).toNat.toUInt8 = 10 from rfl, idx_line]
        rw [hr.1, blank_line]
        by_cases z : lineN (s.drop i) < (s.drop i).length
        · rw [if_pos z]
          have : ltInt ((0 + lineN (s.drop i) : Nat) : Int) 0 = false := by rw [ltI]; simp
          simp only [this, cond_false]
          rw [show ((i : Int) + ((0 + lineN (s.drop i) : Nat) : Int)) = ((i + lineN (s.drop i) : Nat) : Int) by simp, wrap_nat (by omega)]
          obtain ⟨o, a, b, e1, e2⟩ := ih (i + lineN (s.drop i)) (by omega) (by omega)
          refine ⟨o, a, b, e1, e2.trans ?_⟩
          rw [List.drop_drop]; congr 1; omega
        · rw [if_neg z]
          have : ltInt (-1) 0 = true := rfl
          simp only [this, cond_true]
          refine ⟨_, _, _, rfl, ?_⟩
          rw [List.length_drop] at z
          rw [show (s.drop i).drop (lineN (s.drop i)) = [] from List.drop_of_length_le (by rw [List.length_drop]; omega)]
          show (Int.ofNat s.length) = _
          simp only [blankN, Nat.add_zero]
          have : i + lineN (s.drop i) = s.length := by omega
          rw [this]; rfl
    · simp only [q, decide_false, cond_false]
      refine ⟨_, _, _, rfl, ?_⟩
      rw [List.drop_of_length_le (by omega)]; simp [blankN]
theorem f90_eq {N : Nat} {s : Bs} (hs : s.length ≤ 3000000) (hN : s.length < N) {i : Nat} (hi : i ≤ s.length) (h : Heap) : f90 N s (i : Int) h = some (((i + blankN false (s.drop i) : Nat) : Int), h) := by
  unfold f90
  obtain ⟨o, a, b, e1, e2⟩ := blank_loop hs h N i hi (by omega)
  rw [e1]
  simp only [bind3_some]
  cases ho : eqOut o (.exit 0) with
  | true => rw [ho] at e2; simp only [cond_true] at e2 ⊢; rw [e2]
  | false => rw [ho] at e2; simp only [cond_false] at e2 ⊢; rw [e2]
/-! the document's blanks -/
theorem line_loop {N : Nat} {s : Bs} (hs : s.length ≤ 3000000) (h : Heap) : ∀ (M i : Nat), i ≤ s.length → s.length - i < M →
    f64_l2 N M s (i : Int) h = some (.exit 2, (s, ((i + lineN (s.drop i) : Nat) : Int), ()), h) := by
  intro M
  induction M with
  | zero => intro i _ h; omega
  | succ M ih =>
    intro i hi hM
    rw [f64_l2_succ]
    unfold f64_l2_b
    simp only [lt_nat]
    by_cases q : i < s.length
    · simp only [q, decide_true, cond_true]
      have b10 := byte_eq s[i] 10
      rw [show ((10 : Nat) : Int) = 10 from rfl] at b10
      rw [strK_at q, drop_cons q]
      simp only [b10, lineN]
      by_cases z : (s[i]).toNat = 10
      · simp [z]
      · simp only [z, decide_false, Bool.not_false, cond_true, if_false]
        rw [wrap_succ (by omega), ih (i + 1) q (by omega)]
        rw [show i + (lineN (s.drop (i + 1)) + 1) = i + 1 + lineN (s.drop (i + 1)) by omega]
    · simp only [q, decide_false, cond_false]
      rw [List.drop_of_length_le (by omega)]; simp [lineN]
theorem skip_loop {N : Nat} {s : Bs} (hs : s.length ≤ 3000000) (hN : s.length < N) (h : Heap) : ∀ (M i : Nat), i ≤ s.length → s.length - i < M →
    f64_l1 N M s (i : Int) h = some (.exit 0, (((i + blankN false (s.drop i) : Nat) : Int), ()), h) := by
  intro M
  induction M with
  | zero => intro i _ h; omega
  | succ M ih =>
    intro i hi hM
    rw [f64_l1_succ]
    unfold f64_l1_b
    simp only [lt_nat]
    by_cases q : i < s.length
    · simp only [q, decide_true, cond_true]
      rw [strK_at q]
      have b32 := byte_eq s[i] 32
      have b9 := byte_eq s[i] 9
      have b10 := byte_eq s[i] 10
      rw [show ((32 : Nat) : Int) = 32 from rfl] at b32
      rw [show ((9 : Nat) : Int) = 9 from rfl] at b9
      rw [show ((10 : Nat) : Int) = 10 from rfl] at b10
      have nx : blankB s[i] = true → i + 1 + blankN false (s.drop (i + 1)) = i + blankN false (s.drop i) := fun hb => by
        rw [drop_cons q]; simp only [blankN, hb, if_true]; omega
      have e1 := ih (i + 1) q (by omega)
      simp only [b32]
      by_cases q1 : (s[i]).toNat = 32
      · simp only [q1, decide_true, cond_true]
        rw [wrap_succ (by omega), e1, nx (by simp [blankB, q1])]
      simp only [q1, decide_false, cond_false]
      rw [strK_at q]
      simp only [b9]
      by_cases q2 : (s[i]).toNat = 9
      · simp only [q2, decide_true, cond_true]
        rw [wrap_succ (by omega), e1, nx (by simp [blankB, q2])]
      simp only [q2, decide_false, cond_false]
      rw [strK_at q]
      simp only [b10]
      by_cases q3 : (s[i]).toNat = 10
      · simp only [q3, decide_true, cond_true]
        rw [wrap_succ (by omega), e1, nx (by simp [blankB, q3])]
      simp only [q3, decide_false, cond_false]
      have hb : blankB s[i] = false := by simp [blankB, q1, q2, q3]
      have w1 : wrapA .i64 ((Int.ofNat s.length) - (i : Int)) = ((s.length - i : Nat) : Int) := by
        rw [wrapA_small (by show _ ≤ (s.length : Int) - i; omega) (by show (s.length : Int) - i ≤ _; omega)]
        show (s.length : Int) - i = _; omega
      have w2 : leInt 2 ((s.length - i : Nat) : Int) = decide (2 ≤ s.length - i) := by
        rw [leI]; by_cases z : 2 ≤ s.length - i <;> simp [z] <;> omega
      rw [w1, w2]
      have stop : hasP [47, 47] (s.drop i) = false → i + blankN false (s.drop i) = i := fun hp => by
        rw [drop_cons q] at hp ⊢; simp only [blankN, hb, hp, if_false, Bool.false_eq_true, Nat.add_zero]
      have hlen : (s.drop i).length = s.length - i := List.length_drop
      by_cases z : 2 ≤ s.length - i
      · simp only [z, decide_true, cond_true]
        have w3 : wrapA .i64 ((i : Int) + 2) = ((i + 2 : Nat) : Int) := by rw [wrapA_small (by omega) (by omega)]; rfl
        rw [w3, slice_to (by omega) (by omega)]
        simp only [bindV_some, cast_str]
        have et : (s.take (i + 2)).drop i = (s.drop i).take 2 := by rw [List.drop_take]; congr 1; omega
        have ep : eqBytes ((s.take (i + 2)).drop i) [47, 47] = hasP [47, 47] (s.drop i) := by
          rw [et]; simp only [hasP, hlen, List.length_cons, List.length_nil]
          rw [decide_eq_true (by omega)]; rfl
        rw [ep]
        cases hp : hasP [47, 47] (s.drop i) with
        | false => simp only [cond_false]; rw [stop hp]
        | true =>
          simp only [cond_true]
          have hr := blank_rem hp
          have hl := lineN_le (s.drop i)
          rw [hlen] at hl
          rw [line_loop hs h N i hi (by omega)]
          simp only [bind3_some]
          rw [ih (i + lineN (s.drop i)) (by omega) (by omega), hr.1, blank_line, List.drop_drop, Nat.add_assoc]
      · simp only [z, decide_false, cond_false]
        have hp : hasP [47, 47] (s.drop i) = false := by
          simp only [hasP, hlen, List.length_cons, List.length_nil]
          rw [decide_eq_false (by omega)]; rfl
        rw [stop hp]
    · simp only [q, decide_false, cond_false]
      rw [List.drop_of_length_le (by omega)]; simp [blankN]
theorem f64_eq {N : Nat} {s : Bs} (hs : s.length ≤ 3000000) (hN : s.length < N) {i : Nat} (hi : i ≤ s.length) (h : Heap) : f64 N s (i : Int) h = some (((i + blankN false (s.drop i) : Nat) : Int), h) := by
  unfold f64
  rw [skip_loop hs hN h N i hi (by omega)]; rfl
end Go.Proofs.YtkcjphhjmlienaaGreatDoor.Qp

set_option linter.unusedVariables false
set_option linter.unusedSimpArgs false
open Go Go.Proofs.YtkcjphhjmlienaaGreatDoor.Ai Go.Proofs
namespace Go.Proofs.YtkcjphhjmlienaaGreatDoor.Qp
theorem sub_eq (s : Bs) (i n : Nat) : (s.take (i + n)).drop i = (s.drop i).take n := by rw [List.drop_take]; congr 1; omega
def headB (p : UInt8 → Bool) : Bs → Bool
  | [] => false
  | c :: _ => p c
def lifeB (t : Bs) : Bool := decide (1 ≤ t.length) && decide (t.length ≤ 32) && headB letterB t && decide (runN t = t.length)
def nameB (t : Bs) : Bool := lifeB t && !isWord t
theorem f68_eq {N : Nat} {t : Bs} (ht : t.length ≤ 3000000) (hN : t.length < N) (h : Heap) : f68 N t h = some (lifeB t, h) := by
  unfold f68
  have e1 : leInt 1 (Int.ofNat t.length) = decide (1 ≤ t.length) := by
    rw [leI]; by_cases q : 1 ≤ t.length <;> simp [q] <;> omega
  have e2 : leInt (Int.ofNat t.length) 32 = decide (t.length ≤ 32) := by
    rw [leI]; by_cases q : t.length ≤ 32 <;> simp [q] <;> omega
  simp only [e1, e2]
  by_cases q1 : 1 ≤ t.length
  · by_cases q2 : t.length ≤ 32
    · simp only [q1, q2, decide_true, cond_true]
      have h0 : 0 < t.length := q1
      rw [show (0 : Int) = ((0 : Nat) : Int) from rfl, strK_at h0, f65_eq, bind2_some]
      cases t with
      | nil => simp at h0
      | cons c r =>
        simp only [List.getElem_cons_zero]
        cases hl : letterB c with
        | false => simp [lifeB, headB, hl]
        | true =>
          simp only [cond_true]
          rw [f66_eq ht hN (Nat.zero_le _), bind2_some]
          simp only [Nat.zero_add, List.drop_zero]
          have e3 : eqInt ((runN (c :: r) : Nat) : Int) (Int.ofNat (c :: r).length) = decide (runN (c :: r) = (c :: r).length) := by
            rw [eqI]; by_cases q : runN (c :: r) = (c :: r).length
            · simp only [q, decide_true]; simp
            · simp only [q, decide_false]; simp; simp at q; omega
          rw [e3]
          simp only [lifeB, headB, hl, q1, q2, decide_true, Bool.true_and]
    · simp only [q1, q2, decide_true, decide_false, cond_true, cond_false, lifeB, Bool.true_and, Bool.false_and]
  · simp only [q1, decide_false, cond_false, lifeB, Bool.false_and]
theorem f46_eq {N : Nat} {t : Bs} (ht : t.length ≤ 3000000) (hN : t.length < N) (hN2 : 20 ≤ N) (h : Heap) : ∃ h', f46 N t h = some (nameB t, h') ∧ Chg [] h h' := by
  unfold f46 nameB
  rw [f68_eq ht hN, bind2_some]
  cases hl : lifeB t with
  | false => exact ⟨h, rfl, Chg.refl _ _⟩
  | true =>
    simp only [cond_true]
    rw [f67_eq hN2, bind2_some]
    exact ⟨_, rfl, chg_push _ _⟩
/-! numbers -/
def valN : Bs → Nat → Nat
  | [], v => v
  | c :: r, v => valN r (v * 10 + (c.toNat - 48))
theorem valN_ge : ∀ (t : Bs) (v : Nat), v ≤ valN t v
  | [], v => Nat.le_refl _
  | c :: r, v => by have := valN_ge r (v * 10 + (c.toNat - 48)); simp only [valN]; omega
def okNum (t : Bs) : Bool := t.all digitB && Nat.ble (valN t 0) 2147483647 && !(decide (1 < t.length) && headB (fun c => decide (c.toNat = 48)) t)
theorem u8_in {x : Int} (h1 : 0 ≤ x) (h2 : x ≤ 255) : wrapA .u8 x = x := by
  rw [wrapA_eq]; exact IntWalk.u8_in x ⟨h1, h2⟩
theorem digit_val {c : UInt8} (h : digitB c = true) {v : Nat} (hv : v ≤ 3000000000) : wrapA .i64 (wrapA .i64 ((v : Int) * 10) + wrapA .i64 (wrapA .u8 ((c.toNat : Int) - 48))) = ((v * 10 + (c.toNat - 48) : Nat) : Int) := by
  simp only [digitB, decide_eq_true_eq] at h
  rw [u8_in (by omega) (by omega), wrapA_small (x := (c.toNat : Int) - 48) (by omega) (by omega), wrapA_small (x := (v : Int) * 10) (by omega) (by omega), wrapA_small (by omega) (by omega)]
  omega
def tkc (k : Int) (x : Bs) (a : Int) : List AV := [.int .i64 k, .str x, .int .i64 a]
theorem num_loop {N : Nat} {s : Bs} (hs : s.length ≤ 3000000) {i j A : Nat} (hj : j ≤ s.length) {H : Heap} {k0 : Int} {x0 : Bs} {a0 : Int} (hA : H.own A (tkc k0 x0 a0)) : ∀ (M k v : Nat), k ≤ j → j - k < M → v ≤ 2147483647 →
    f143_l1 N M s (i : Int) (some (A, 0)) 0 (j : Int) (v : Int) (k : Int) H = bif (((s.take j).drop k).all digitB && Nat.ble (valN ((s.take j).drop k) v) 2147483647) then some (.exit 0, (s, (i : Int), some (A, 0), 0, (j : Int), ()), H) else some (.ret, (s, (i : Int), some (A, 0), 0, (j : Int), ()), H.put A (.row (tkc 0 [] 0) .own)) := by
  intro M
  induction M with
  | zero => intro k v _ h; omega
  | succ M ih =>
    intro k v hk hM hv
    rw [f143_l1_succ]
    unfold f143_l1_b
    simp only [lt_nat']
    have hst : H.store (A, 0) [.int .i64 0, .str [], .int .i64 0] = some (H.put A (.row (tkc 0 [] 0) .own)) := hA.store rfl
    by_cases q : k < j
    · simp only [q, decide_true, cond_true]
      have qk : k < s.length := by omega
      have et : (s.take j).drop k = s[k] :: (s.take j).drop (k + 1) := by
        rw [List.drop_eq_getElem_cons (by rw [List.length_take]; omega), List.getElem_take]
      rw [et]
      rw [strK_at qk]
      have l48 : ltInt ((s[k]).toNat : Int) 48 = decide ((s[k]).toNat < 48) := by
        rw [ltI]; by_cases z : (s[k]).toNat < 48 <;> simp [z] <;> omega
      have l57 : ltInt 57 ((s[k]).toNat : Int) = decide (57 < (s[k]).toNat) := by
        rw [ltI]; by_cases z : 57 < (s[k]).toNat <;> simp [z] <;> omega
      simp only [l48]
      by_cases z1 : (s[k]).toNat < 48
      · have hd : digitB s[k] = false := by simp [digitB]; omega
        simp only [z1, decide_true, cond_true, need_some, hst, List.all_cons, hd, Bool.false_and, cond_false]
      simp only [z1, decide_false, cond_false]
      rw [strK_at qk]
      simp only [l57]
      by_cases z2 : 57 < (s[k]).toNat
      · have hd : digitB s[k] = false := by simp [digitB]; omega
        simp only [z2, decide_true, cond_true, need_some, hst, List.all_cons, hd, Bool.false_and, cond_false]
      simp only [z2, decide_false, cond_false]
      have hd : digitB s[k] = true := by simp [digitB]; omega
      rw [strK_at qk, digit_val hd (by omega)]
      have lm : ltInt 2147483647 ((v * 10 + ((s[k]).toNat - 48) : Nat) : Int) = decide (2147483647 < v * 10 + ((s[k]).toNat - 48)) := by
        rw [ltI]; by_cases z : 2147483647 < v * 10 + ((s[k]).toNat - 48) <;> simp only [z, decide_true, decide_false, decide_eq_true_eq, decide_eq_false_iff_not] <;> omega
      rw [lm]
      simp only [List.all_cons, hd, Bool.true_and, valN]
      by_cases z3 : 2147483647 < v * 10 + ((s[k]).toNat - 48)
      · have := valN_ge ((s.take j).drop (k + 1)) (v * 10 + ((s[k]).toNat - 48))
        have hn : Nat.ble (valN ((s.take j).drop (k + 1)) (v * 10 + ((s[k]).toNat - 48))) 2147483647 = false := by
          cases hb : Nat.ble (valN ((s.take j).drop (k + 1)) (v * 10 + ((s[k]).toNat - 48))) 2147483647 with
          | false => rfl
          | true => rw [Nat.ble_eq] at hb; omega
        simp only [z3, decide_true, cond_true, need_some, hst, hn, Bool.and_false, cond_false]
      · simp only [z3, decide_false, cond_false]
        rw [wrap_succ (by omega)]
        exact ih (k + 1) _ q (by omega) (by omega)
    · simp only [q, decide_false, cond_false]
      have : (s.take j).drop k = [] := List.drop_of_length_le (by rw [List.length_take]; omega)
      rw [this]
      have hb : Nat.ble v 2147483647 = true := by rw [Nat.ble_eq]; exact hv
      simp only [List.all_nil, valN, hb, Bool.and_self, cond_true]
theorem put_put (h : Heap) (A : Nat) (a b : Blk) (hA : A < h.next) : ∀ B, ((h.put A a).put A b).g B = (h.put A b).g B := by
  intro B
  by_cases e : B = A
  · rw [g_put_eq _ e, g_put_eq _ e]
  · rw [g_put_ne _ e, g_put_ne _ e, g_put_ne _ e]
/-- what a token's function answers -/
def TokR (i : Nat) (r : (Int × List UInt8 × Int × Unit) × Int × Unit) (o : Option (Int × Bs × Nat)) : Prop := match o with
  | some (k, x, n) => r = ((k, x, (i : Int), ()), ((i + n : Nat) : Int), ())
  | none => r.2.1 = 0
theorem cells3 {H : Heap} {A : Nat} {k : Int} {x : Bs} {a : Int} (hA : H.own A (tkc k x a)) {β : Type} (K : (Int × List UInt8 × Int × Unit) → Option β) : bindV (.val (.agg [(.int .i64), .str, (.int .i64)])) (H.cells (A, 0) 3) K = K (k, x, a, ()) := by
  have : H.cells (A, 0) 3 = some (.agg (tkc k x a)) := hA.cells (j := 0) (m := 3) (Nat.le_refl _)
  rw [this]
  simp [tkc]
theorem fin3 {H : Heap} {A : Nat} {cs : List AV} (hA : H.own A cs) (hl : cs.length = 3) (k : Int) (x : Bs) (a : Int) {β : Type} (K : (Int × List UInt8 × Int × Unit) → Heap → Option β) :
    (need (H.store (A, 0) [.int .i64 k, .str x, .int .i64 a]) fun h7 => bindV (.val (.agg [(.int .i64), .str, (.int .i64)])) (h7.cells (A, 0) 3) fun x8 => K x8 h7) = K (k, x, a, ()) (H.put A (.row (tkc k x a) .own)) := by
  have : H.store (A, 0) [.int .i64 k, .str x, .int .i64 a] = some (H.put A (.row (tkc k x a) .own)) := hA.store (by rw [hl]; rfl)
  rw [this, need_some, cells3 (own_put hA _)]
section
variable {N : Nat} {s : Bs} (hs : s.length ≤ 3000000) (hN : s.length < N) {i : Nat}
include hs hN
theorem f142_eq (hi : i ≤ s.length) (h : Heap) : ∃ r h', f142 N s (i : Int) h = some (r, h') ∧ Chg [] h h' ∧ TokR i r (let n := runN (s.drop i); let x := (s.drop i).take n; if isWord x = true then some (2, x, n) else if n ≤ 32 then some (1, x, n) else none) := by
  unfold f142
  have hn := runN_le (s.drop i)
  rw [List.length_drop] at hn
  have hxl : ((s.drop i).take (runN (s.drop i))).length = runN (s.drop i) := by rw [List.length_take, List.length_drop]; omega
  have o1 := own_push h (tkc 0 [] 0)
  have c1 := chg_push h (.row (tkc 0 [] 0) .own)
  have e1 : h.push (.row [(.int .i64 0), (.str []), (.int .i64 0)] .own) = h.push (.row (tkc 0 [] 0) .own) := rfl
  rw [e1]
  generalize h.push (.row (tkc 0 [] 0) .own) = h1 at *
  dsimp only
  rw [f171_eq hs hN hi, bind2_some, slice_to (by omega) (by omega), sub_eq]
  simp only [bindV_some, cast_str, f172_eq, bind2_some]
  have cp : ∀ k x a, Chg [] h (h1.put h.next (.row (tkc k x a) .own)) := fun k x a => c1.put (.inr (Nat.le_refl _)) _
  cases hw : isWord ((s.drop i).take (runN (s.drop i))) with
  | true =>
    simp only [cond_true, if_true]
    rw [fin3 o1 rfl]
    exact ⟨_, _, rfl, cp _ _ _, rfl⟩
  | false =>
    simp only [cond_false, Bool.false_eq_true, if_false]
    rw [hxl]
    have e2 : leInt (Int.ofNat (runN (s.drop i))) 32 = decide (runN (s.drop i) ≤ 32) := by
      rw [leI]; by_cases q : runN (s.drop i) ≤ 32 <;> simp [q] <;> omega
    rw [e2]
    by_cases q : runN (s.drop i) ≤ 32
    · simp only [q, decide_true, cond_true, if_true]
      rw [fin3 o1 rfl]
      exact ⟨_, _, rfl, cp _ _ _, rfl⟩
    · simp only [q, decide_false, cond_false, if_false]
      rw [fin3 o1 rfl]
      exact ⟨_, _, rfl, cp _ _ _, rfl⟩
theorem f143_eq (hi : i < s.length) (hd0 : digitB s[i] = true) (h : Heap) : ∃ r h', f143 N s (i : Int) h = some (r, h') ∧ Chg [] h h' ∧ TokR i r (let n := runN (s.drop i); let x := (s.drop i).take n; if okNum x = true then some (4, x, n) else none) := by
  unfold f143
  have hn := runN_le (s.drop i)
  rw [List.length_drop] at hn
  have o1 := own_push h (tkc 0 [] 0)
  have c1 := chg_push h (.row (tkc 0 [] 0) .own)
  have e1 : h.push (.row [(.int .i64 0), (.str []), (.int .i64 0)] .own) = h.push (.row (tkc 0 [] 0) .own) := rfl
  rw [e1]
  generalize h.push (.row (tkc 0 [] 0) .own) = h1 at *
  dsimp only
  have hn1 : 1 ≤ runN (s.drop i) := by
    rw [drop_cons hi]; simp only [runN]
    have : goesB s[i] = true := by simp [goesB, hd0]
    simp [this]
  rw [f171_eq hs hN (by omega), bind2_some]
  have lp := num_loop (N := N) hs (i := i) (j := i + runN (s.drop i)) (by omega) o1 N i 0 (by omega) (by omega) (by omega)
  rw [show ((0 : Nat) : Int) = 0 from rfl] at lp
  rw [lp, sub_eq]
  have hxl : ((s.drop i).take (runN (s.drop i))).length = runN (s.drop i) := by rw [List.length_take, List.length_drop]; omega
  have hhd : headB (fun c => decide (c.toNat = 48)) ((s.drop i).take (runN (s.drop i))) = decide ((s[i]).toNat = 48) := by
    obtain ⟨m, hm⟩ : ∃ m, runN (s.drop i) = m + 1 := ⟨runN (s.drop i) - 1, by omega⟩
    rw [hm, drop_cons hi, List.take_succ_cons]; rfl
  have cp : ∀ k x a, Chg [] h (h1.put h.next (.row (tkc k x a) .own)) := fun k x a => c1.put (.inr (Nat.le_refl _)) _
  unfold okNum
  rw [hhd, hxl]
  cases hok : (((s.drop i).take (runN (s.drop i))).all digitB && Nat.ble (valN ((s.drop i).take (runN (s.drop i))) 0) 2147483647) with
  | false =>
    simp only [Bool.false_eq_true, if_false, bind3_some, Bool.false_and, cond_false]
    simp only [eqOut_ret, cond_false, need_some]
    rw [cells3 (own_put o1 _)]
    exact ⟨_, _, rfl, cp _ _ _, rfl⟩
  | true =>
    simp only [bind3_some, Bool.true_and, cond_true]
    simp only [eqOut_exit, decide_true, cond_true]
    rw [strK_at hi]
    have b48 := byte_eq s[i] 48
    rw [show ((48 : Nat) : Int) = 48 from rfl] at b48
    have w1 : wrapA .i64 (((i + runN (s.drop i) : Nat) : Int) - (i : Int)) = ((runN (s.drop i) : Nat) : Int) := by
      rw [show ((i + runN (s.drop i) : Nat) : Int) - (i : Int) = ((runN (s.drop i) : Nat) : Int) by omega, wrap_nat (by omega)]
    have w2 : ltInt 1 ((runN (s.drop i) : Nat) : Int) = decide (1 < runN (s.drop i)) := by
      rw [ltI]; by_cases q : 1 < runN (s.drop i) <;> simp [q] <;> omega
    rw [b48, w1, w2]
    by_cases z : (s[i]).toNat = 48
    · simp only [z, decide_true, cond_true, Bool.and_true]
      by_cases z2 : 1 < runN (s.drop i)
      · simp only [z2, decide_true, cond_true, need_some, Bool.not_true, Bool.false_eq_true, if_false]
        rw [fin3 o1 rfl]
        exact ⟨_, _, rfl, cp _ _ _, rfl⟩
      · simp only [z2, decide_false, cond_false, need_some, Bool.not_false, if_true]
        rw [slice_to (by omega) (by omega), sub_eq]
        simp only [bindV_some, cast_str]
        rw [fin3 o1 rfl]
        exact ⟨_, _, rfl, cp _ _ _, rfl⟩
    · simp only [z, decide_false, cond_false, Bool.and_false, Bool.not_false, if_true, need_some]
      rw [slice_to (by omega) (by omega), sub_eq]
      simp only [bindV_some, cast_str]
      rw [fin3 o1 rfl]
      exact ⟨_, _, rfl, cp _ _ _, rfl⟩
theorem f144_eq (hi : i < s.length) (h : Heap) : ∃ r h', f144 N s (i : Int) h = some (r, h') ∧ Chg [] h h' ∧ TokR i r (let t := s.drop (i + 1); let n := runN t; if headB letterB t = true then (if n ≤ 32 then some (3, t.take n, n + 1) else none) else none) := by
  unfold f144
  have o1 := own_push h (tkc 0 [] 0)
  have c1 := chg_push h (.row (tkc 0 [] 0) .own)
  have e1 : h.push (.row [(.int .i64 0), (.str []), (.int .i64 0)] .own) = h.push (.row (tkc 0 [] 0) .own) := rfl
  rw [e1]
  generalize h.push (.row (tkc 0 [] 0) .own) = h1 at *
  dsimp only
  have cp : ∀ k x a, Chg [] h (h1.put h.next (.row (tkc k x a) .own)) := fun k x a => c1.put (.inr (Nat.le_refl _)) _
  rw [wrap_succ (by omega)]
  have e2 : eqInt ((i + 1 : Nat) : Int) (Int.ofNat s.length) = decide (i + 1 = s.length) := by
    rw [eqI]; by_cases q : i + 1 = s.length
    · simp only [q, decide_true]; simp
    · simp only [q, decide_false, decide_eq_false_iff_not]; intro e; exact q (Int.ofNat.inj e)
  rw [e2]
  by_cases q : i + 1 = s.length
  · simp only [q, decide_true, cond_true]
    rw [List.drop_of_length_le (Nat.le_refl _)]
    rw [fin3 o1 rfl]
    exact ⟨_, _, rfl, cp _ _ _, rfl⟩
  · simp only [q, decide_false, cond_false]
    have hi1 : i + 1 < s.length := by omega
    rw [strK_at hi1, f170_eq, bind2_some]
    have hh : headB letterB (s.drop (i + 1)) = letterB s[i + 1] := by rw [drop_cons hi1]; rfl
    rw [hh]
    cases hl : letterB s[i + 1] with
    | false =>
      simp only [Bool.not_false, cond_true, Bool.false_eq_true, if_false]
      rw [fin3 o1 rfl]
      exact ⟨_, _, rfl, cp _ _ _, rfl⟩
    | true =>
      simp only [Bool.not_true, cond_false, if_true]
      have hn := runN_le (s.drop (i + 1))
      rw [List.length_drop] at hn
      rw [f171_eq hs hN (by omega), bind2_some]
      have w1 : wrapA .i64 (((i + 1 + runN (s.drop (i + 1)) : Nat) : Int) - (i : Int)) = ((1 + runN (s.drop (i + 1)) : Nat) : Int) := by
        rw [show ((i + 1 + runN (s.drop (i + 1)) : Nat) : Int) - (i : Int) = ((1 + runN (s.drop (i + 1)) : Nat) : Int) by omega, wrap_nat (by omega)]
      have w3 : wrapA .i64 (((1 + runN (s.drop (i + 1)) : Nat) : Int) - 1) = ((runN (s.drop (i + 1)) : Nat) : Int) := by
        rw [show ((1 + runN (s.drop (i + 1)) : Nat) : Int) - 1 = ((runN (s.drop (i + 1)) : Nat) : Int) by omega, wrap_nat (by omega)]
      have w2 : ltInt 32 ((runN (s.drop (i + 1)) : Nat) : Int) = decide (32 < runN (s.drop (i + 1))) := by
        rw [ltI]; by_cases q : 32 < runN (s.drop (i + 1)) <;> simp [q] <;> omega
      rw [w1, w3, w2]
      by_cases z : 32 < runN (s.drop (i + 1))
      · simp only [z, decide_true, cond_true]
        rw [if_neg (by omega)]
        rw [fin3 o1 rfl]
        exact ⟨_, _, rfl, cp _ _ _, rfl⟩
      · simp only [z, decide_false, cond_false]
        rw [if_pos (by omega)]
        rw [slice_to (by omega) (by omega), sub_eq]
        simp only [bindV_some, cast_str]
        rw [fin3 o1 rfl]
        refine ⟨_, _, rfl, cp _ _ _, ?_⟩
        show _ = _
        rw [show i + (runN (s.drop (i + 1)) + 1) = i + 1 + runN (s.drop (i + 1)) by omega]
end
end Go.Proofs.YtkcjphhjmlienaaGreatDoor.Qp

set_option linter.unusedVariables false
set_option linter.unusedSimpArgs false
open Go Go.Proofs.YtkcjphhjmlienaaGreatDoor.Ai Go.Proofs
namespace Go.Proofs.YtkcjphhjmlienaaGreatDoor.Qp
/-! signs -/
def two : List Bs := [[58, 58], [45, 62], [61, 61]]
def oneL : Bs := [40, 41, 123, 125, 60, 62, 44, 59, 58, 46, 42, 38, 43, 45, 61, 33]
def memB (c : UInt8) : Bs → Bool
  | [] => false
  | x :: r => bif Nat.beq x.toNat c.toNat then true else memB c r
def findP (t : Bs) : List Bs → Option Bs
  | [] => none
  | p :: r => bif hasP p t then some p else findP t r
def signTok (t : Bs) : Option (Int × Bs × Nat) := match findP t two with
  | some p => some (5, p, 2)
  | none => match t with
    | [] => none
    | c :: _ => if memB c oneL = true then some (5, [c], 1) else none
theorem findP_some {t : Bs} : ∀ {l : List Bs} {p : Bs}, findP t l = some p → p ∈ l ∧ hasP p t = true
  | [], p, h => by cases h
  | q :: r, p, h => by
    simp only [findP] at h
    cases hq : hasP q t with
    | true => rw [hq] at h; simp only [cond_true, Option.some.injEq] at h; subst h; exact ⟨List.mem_cons_self, hq⟩
    | false =>
      rw [hq] at h; simp only [cond_false] at h
      obtain ⟨h1, h2⟩ := findP_some h
      exact ⟨List.mem_cons_of_mem _ h1, h2⟩
theorem two_len : ∀ p ∈ two, p.length = 2 := by decide
theorem findP_two {t p : Bs} (h : findP t two = some p) : p = t.take 2 ∧ 2 ≤ t.length := by
  obtain ⟨h1, h2⟩ := findP_some h
  obtain ⟨h3, h4⟩ := hasP_take h2
  rw [two_len p h1] at h3 h4
  exact ⟨h3.symm, h4⟩
theorem idx_neg (c : UInt8) : ∀ (l : Bs) (k : Nat), ltInt (Qa.idxL c l k) 0 = !memB c l
  | [], k => rfl
  | x :: r, k => by
    simp only [Qa.idxL, memB]
    cases Nat.beq x.toNat c.toNat with
    | true => simp only [cond_true, Bool.not_true]; rw [ltI]; simp
    | false => simp only [cond_false]; exact idx_neg c r (k + 1)
section
variable {N : Nat} {s : Bs}
theorem sign_loop (hs : s.length ≤ 3000000) {i A B : Nat} (hi : i ≤ s.length) {H : Heap} {l : List Bs} (hB : H.is B (l.map AV.str)) (hl : l.length ≤ 1000) (hA : H.own A (tkc 0 [] 0)) : ∀ (M j : Nat), j ≤ l.length → l.length - j < M →
    f145_l1 N M s (i : Int) (some (A, 0)) 0 ⟨some (B, 0), l.length, l.length, 1⟩ (Int.ofNat l.length) (j : Int) H = match findP (s.drop i) (l.drop j) with
      | some p => some (.ret, (s, (i : Int), some (A, 0), ((i + 2 : Nat) : Int), ()), H.put A (.row (tkc 5 p (i : Int)) .own))
      | none => some (.exit 0, (s, (i : Int), some (A, 0), 0, ()), H) := by
  intro M
  induction M with
  | zero => intro j _ h; omega
  | succ M ih =>
    intro j hj hM
    rw [f145_l1_succ]
    unfold f145_l1_b
    simp only [lt_nat]
    by_cases q : j < l.length
    · simp only [q, decide_true, cond_true]
      rw [show ((j : Nat) : Int) = Int.ofNat j from rfl, ixK_of _ _ _ _ _ q]
      simp only [Nat.zero_add, Nat.mul_one]
      have hc := hB.cell j
      rw [List.drop_eq_getElem_cons (by simpa using q)] at hc
      simp only [List.head?_cons, List.getElem_map] at hc
      rw [hc]
      simp only [bindV_some, cast_str]
      rw [slice_from hi]
      simp only [bindV_some, cast_str, f140_eq, bind2_some]
      rw [List.drop_eq_getElem_cons q]
      simp only [findP]
      cases hq : hasP l[j] (s.drop i) with
      | true =>
        simp only [cond_true, need_some]
        have w3 : wrapA .i64 ((i : Int) + 2) = ((i + 2 : Nat) : Int) := by rw [wrapA_small (by omega) (by omega)]; rfl
        rw [w3, show H.store (A, 0) [.int .i64 5, .str l[j], .int .i64 (i : Int)] = some (H.put A (.row (tkc 5 l[j] (i : Int)) .own)) from hA.store rfl]
        rfl
      | false =>
        simp only [cond_false]
        rw [show Int.ofNat j = (j : Int) from rfl, wrap_succ (by omega)]
        exact ih (j + 1) q (by omega)
    · simp only [q, decide_false, cond_false]
      rw [show l.drop j = [] from List.drop_of_length_le (by omega)]; rfl
theorem f145_eq (hs : s.length ≤ 3000000) (hN : s.length < N) (hN2 : 20 ≤ N) {i : Nat} (hi : i < s.length) (h : Heap) : ∃ r h', f145 N s (i : Int) h = some (r, h') ∧ Chg [] h h' ∧ TokR i r (signTok (s.drop i)) := by
  unfold f145
  have o1 := own_push h (tkc 0 [] 0)
  have c1 := chg_push h (.row (tkc 0 [] 0) .own)
  have e1 : h.push (.row [(.int .i64 0), (.str []), (.int .i64 0)] .own) = h.push (.row (tkc 0 [] 0) .own) := rfl
  rw [e1]
  generalize h.push (.row (tkc 0 [] 0) .own) = h1 at *
  have o2 := Heap.is_push h1 (two.map AV.str)
  have c2 := chg_push h1 (.row (two.map AV.str) .own)
  have o3 := o1.chg c2 (by simp)
  have e2 : h1.push (.row [(.str [58, 58]), (.str [45, 62]), (.str [61, 61])] .own) = h1.push (.row (two.map AV.str) .own) := rfl
  dsimp only
  rw [e2]
  have n1 : (h1.push (.row (two.map AV.str) .own)).next = h1.next + 1 := rfl
  generalize h1.push (.row (two.map AV.str) .own) = h2 at *
  have lp := sign_loop (N := N) hs (Nat.le_of_lt hi) o2 (by decide) o3 N 0 (Nat.zero_le _) (by show 3 - 0 < N; omega)
  rw [show ((0 : Nat) : Int) = 0 from rfl, show (⟨some (h1.next, 0), two.length, two.length, 1⟩ : SL) = ⟨some (h1.next, 0), 3, 3, 1⟩ from rfl, show Int.ofNat two.length = Int.ofNat 3 from rfl, List.drop_zero] at lp
  rw [lp]
  have c3 := c1.trans c2
  have cp : ∀ k x a, Chg [] h (h2.put h.next (.row (tkc k x a) .own)) := fun k x a => c3.put (.inr (Nat.le_refl _)) _
  unfold signTok
  cases hf : findP (s.drop i) two with
  | some p =>
    simp only [bind3_some, eqOut_ret, cond_false, need_some]
    rw [cells3 (own_put o3 _)]
    exact ⟨_, _, rfl, cp _ _ _, rfl⟩
  | none =>
    simp only [bind3_some, eqOut_exit, decide_true, cond_true]
    rw [strK_at hi, f141_eq, bind2_some]
    have eb : ((s[i]).toNat : Int).toNat.toUInt8 = s[i] := by simp
    rw [eb]
    rw [drop_cons hi]
    have en := idx_neg s[i] oneL 0
    unfold oneL at en
    rw [en]
    dsimp only
    cases hm : memB s[i] [40, 41, 123, 125, 60, 62, 44, 59, 58, 46, 42, 38, 43, 45, 61, 33] with
    | false =>
      simp only [Bool.not_false, cond_true, need_some]
      rw [fin3 o3 rfl]
      refine ⟨_, _, rfl, cp _ _ _, ?_⟩
      simp only [oneL, hm, Bool.false_eq_true, if_false]
      rfl
    | true =>
      simp only [Bool.not_true, cond_false, need_some]
      rw [wrap_succ (by omega), slice_to (by omega) (by omega), sub_eq]
      simp only [bindV_some, cast_str]
      rw [fin3 o3 rfl]
      refine ⟨_, _, rfl, cp _ _ _, ?_⟩
      simp only [oneL, hm, if_true]
      show _ = _
      rw [drop_cons hi]; rfl
/-! the document's signs -/
def signN (t : Bs) : Nat := match signTok t with
  | some (_, _, n) => n
  | none => 0
theorem rsign_loop (hs : s.length ≤ 3000000) {i B : Nat} (hi : i ≤ s.length) {H : Heap} {l : List Bs} (hB : H.is B (l.map AV.str)) (hl : l.length ≤ 1000) (h2 : ∀ p ∈ l, p.length = 2) : ∀ (M j : Nat), j ≤ l.length → l.length - j < M →
    f71_l1 N M s (i : Int) 0 ⟨some (B, 0), l.length, l.length, 1⟩ (j : Int) H = match findP (s.drop i) (l.drop j) with
      | some p => some (.ret, (s, (i : Int), 2, ()), H)
      | none => some (.exit 0, (s, (i : Int), 0, ()), H) := by
  intro M
  induction M with
  | zero => intro j _ h; omega
  | succ M ih =>
    intro j hj hM
    rw [f71_l1_succ]
    unfold f71_l1_b
    simp only [lt_nat]
    by_cases q : j < l.length
    · simp only [q, decide_true, cond_true]
      have w1 : wrapA .i64 ((Int.ofNat s.length) - (i : Int)) = ((s.length - i : Nat) : Int) := by
        rw [wrapA_small (by show _ ≤ (s.length : Int) - i; omega) (by show (s.length : Int) - i ≤ _; omega)]
        show (s.length : Int) - i = _; omega
      have w2 : leInt 2 ((s.length - i : Nat) : Int) = decide (2 ≤ s.length - i) := by
        rw [leI]; by_cases z : 2 ≤ s.length - i <;> simp [z] <;> omega
      rw [w1, w2]
      have hlen : (s.drop i).length = s.length - i := List.length_drop
      have hp2 := h2 l[j] (List.getElem_mem q)
      have nx : hasP l[j] (s.drop i) = false → f71_l1 N M s (i : Int) 0 ⟨some (B, 0), l.length, l.length, 1⟩ (wrapA .i64 ((j : Int) + 1)) H = match findP (s.drop i) (l.drop j) with
          | some p => some (.ret, (s, (i : Int), 2, ()), H)
          | none => some (.exit 0, (s, (i : Int), 0, ()), H) := fun hq => by
        rw [wrap_succ (by omega), ih (j + 1) q (by omega), List.drop_eq_getElem_cons q]
        simp only [findP, hq, cond_false]
      by_cases z : 2 ≤ s.length - i
      · simp only [z, decide_true, cond_true]
        have w3 : wrapA .i64 ((i : Int) + 2) = ((i + 2 : Nat) : Int) := by rw [wrapA_small (by omega) (by omega)]; rfl
        rw [w3, slice_to (by omega) (by omega), sub_eq]
        simp only [bindV_some, cast_str]
        rw [show ((j : Nat) : Int) = Int.ofNat j from rfl, ixK_of _ _ _ _ _ q]
        simp only [Nat.zero_add, Nat.mul_one]
        have hc := hB.cell j
        rw [List.drop_eq_getElem_cons (by simpa using q)] at hc
        simp only [List.head?_cons, List.getElem_map] at hc
        rw [hc]
        simp only [bindV_some, cast_str]
        have ep : eqBytes ((s.drop i).take 2) l[j] = hasP l[j] (s.drop i) := by
          simp only [hasP, hlen, hp2]
          rw [decide_eq_true (by omega)]; rfl
        rw [ep]
        cases hq : hasP l[j] (s.drop i) with
        | true =>
          simp only [cond_true]
          rw [List.drop_eq_getElem_cons q]
          simp only [findP, hq, cond_true]
        | false =>
          simp only [cond_false]
          exact nx hq
      · simp only [z, decide_false, cond_false]
        have hq : hasP l[j] (s.drop i) = false := by
          simp only [hasP, hlen, hp2]
          rw [decide_eq_false (by omega)]; rfl
        exact nx hq
    · simp only [q, decide_false, cond_false]
      rw [show l.drop j = [] from List.drop_of_length_le (by omega)]; rfl
theorem rone_loop {i : Nat} (hi : i < s.length) (h : Heap) {l : Bs} (hl : l.length ≤ 1000) : ∀ (M j : Nat), j ≤ l.length → l.length - j < M →
    f71_l2 N M s (i : Int) 0 l (j : Int) h = bif memB s[i] (l.drop j) then some (.ret, (1, ()), h) else some (.exit 2, (0, ()), h) := by
  intro M
  induction M with
  | zero => intro j _ h; omega
  | succ M ih =>
    intro j hj hM
    rw [f71_l2_succ]
    unfold f71_l2_b
    simp only [lt_nat]
    by_cases q : j < l.length
    · simp only [q, decide_true, cond_true]
      rw [strK_at q, strK_at hi, List.drop_eq_getElem_cons q]
      simp only [memB]
      have e : eqInt ((l[j]).toNat : Int) ((s[i]).toNat : Int) = Nat.beq (l[j]).toNat (s[i]).toNat := by
        rw [eqI]
        by_cases z : (l[j]).toNat = (s[i]).toNat
        · rw [z, Nat.beq_refl]; simp
        · have : Nat.beq (l[j]).toNat (s[i]).toNat = false := by
            cases hb : Nat.beq (l[j]).toNat (s[i]).toNat with
            | false => rfl
            | true => exact absurd (Nat.eq_of_beq_eq_true hb) z
          rw [this, decide_eq_false_iff_not]; omega
      rw [e]
      cases Nat.beq (l[j]).toNat (s[i]).toNat with
      | true => rfl
      | false =>
        simp only [cond_false]
        rw [wrap_succ (by omega)]
        exact ih (j + 1) q (by omega)
    · simp only [q, decide_false, cond_false]
      rw [List.drop_of_length_le (by omega)]; rfl
theorem f71_eq (hs : s.length ≤ 3000000) (hN2 : 20 ≤ N) {i : Nat} (hi : i < s.length) (h : Heap) : f71 N s (i : Int) h = some ((signN (s.drop i) : Int), h.push (.row (two.map AV.str) .own)) := by
  unfold f71
  have o2 := Heap.is_push h (two.map AV.str)
  have e2 : h.push (.row [(.str [58, 58]), (.str [45, 62]), (.str [61, 61])] .own) = h.push (.row (two.map AV.str) .own) := rfl
  dsimp only
  rw [e2]
  have lp := rsign_loop (N := N) hs (Nat.le_of_lt hi) o2 (by decide) two_len N 0 (Nat.zero_le _) (by show 3 - 0 < N; omega)
  rw [show ((0 : Nat) : Int) = 0 from rfl, show (⟨some (h.next, 0), two.length, two.length, 1⟩ : SL) = ⟨some (h.next, 0), 3, 3, 1⟩ from rfl, List.drop_zero] at lp
  rw [lp]
  unfold signN signTok
  cases hf : findP (s.drop i) two with
  | some p => rfl
  | none =>
    simp only [bind3_some, eqOut_exit, decide_true, cond_true]
    have l2 := rone_loop (N := N) hi (h.push (.row (two.map AV.str) .own)) (l := oneL) (by decide) N 0 (Nat.zero_le _) (by show 16 - 0 < N; omega)
    unfold oneL at l2
    rw [show ((0 : Nat) : Int) = 0 from rfl, List.drop_zero] at l2
    rw [l2, drop_cons hi]
    cases hm : memB s[i] [40, 41, 123, 125, 60, 62, 44, 59, 58, 46, 42, 38, 43, 45, 61, 33] with
    | false =>
      simp only [oneL, hm, Bool.false_eq_true, if_false]
      rfl
    | true =>
      simp only [oneL, hm, if_true]
      rfl
theorem signTok_some {t : Bs} {k : Int} {x : Bs} {n : Nat} (h : signTok t = some (k, x, n)) : k = 5 ∧ x = t.take n ∧ 1 ≤ n ∧ n ≤ t.length := by
  unfold signTok at h
  cases hf : findP t two with
  | some p =>
    rw [hf] at h
    simp only [Option.some.injEq, Prod.mk.injEq] at h
    obtain ⟨rfl, rfl, rfl⟩ := h
    obtain ⟨h1, h2⟩ := findP_two hf
    exact ⟨rfl, h1, by omega, h2⟩
  | none =>
    rw [hf] at h
    cases t with
    | nil => cases h
    | cons c r =>
      simp only at h
      split at h
      · simp only [Option.some.injEq, Prod.mk.injEq] at h
        obtain ⟨rfl, rfl, rfl⟩ := h
        exact ⟨rfl, rfl, Nat.le_refl _, by simp⟩
      · cases h
end
end Go.Proofs.YtkcjphhjmlienaaGreatDoor.Qp

set_option linter.unusedVariables false
set_option linter.unusedSimpArgs false
open Go Go.Proofs.YtkcjphhjmlienaaGreatDoor.Ai Go.Proofs
namespace Go.Proofs.YtkcjphhjmlienaaGreatDoor.Qp
theorem le_nat (a b : Nat) : leInt (a : Int) (b : Int) = decide (a ≤ b) := by
  rw [leI]; by_cases q : a ≤ b <;> simp [q] <;> omega
def wordTok (t : Bs) : Option (Int × Bs × Nat) := let n := runN t; let x := t.take n; if isWord x = true then some (2, x, n) else if n ≤ 32 then some (1, x, n) else none
def numTok (t : Bs) : Option (Int × Bs × Nat) := let n := runN t; let x := t.take n; if okNum x = true then some (4, x, n) else none
def lifeTok (t : Bs) : Option (Int × Bs × Nat) := let n := runN t; if headB letterB t = true then (if n ≤ 32 then some (3, t.take n, n + 1) else none) else none
def nextTok : Bs → Option (Int × Bs × Nat)
  | [] => none
  | c :: r => if letterB c = true then wordTok (c :: r) else if digitB c = true then numTok (c :: r) else if c.toNat = 39 then lifeTok r else signTok (c :: r)
section
variable {N : Nat} {s : Bs}
theorem f91_eq (hs : s.length ≤ 3000000) (hN : s.length < N) (hN2 : 20 ≤ N) {i : Nat} (hi : i < s.length) (h : Heap) : ∃ r h', f91 N s (i : Int) h = some (r, h') ∧ Chg [] h h' ∧ TokR i r (nextTok (s.drop i)) := by
  unfold f91
  have o1 := own_push h (tkc 0 [] 0)
  have c1 := chg_push h (.row (tkc 0 [] 0) .own)
  have e1 : h.push (.row [(.int .i64 0), (.str []), (.int .i64 0)] .own) = h.push (.row (tkc 0 [] 0) .own) := rfl
  rw [e1]
  generalize h.push (.row (tkc 0 [] 0) .own) = h1 at *
  dsimp only
  rw [strK_at hi]
  have l97 : leInt 97 ((s[i]).toNat : Int) = decide (97 ≤ (s[i]).toNat) := le_nat 97 _
  have l122 : leInt ((s[i]).toNat : Int) 122 = decide ((s[i]).toNat ≤ 122) := le_nat _ 122
  have l65 : leInt 65 ((s[i]).toNat : Int) = decide (65 ≤ (s[i]).toNat) := le_nat 65 _
  have l90 : leInt ((s[i]).toNat : Int) 90 = decide ((s[i]).toNat ≤ 90) := le_nat _ 90
  have l49 : leInt 49 ((s[i]).toNat : Int) = decide (49 ≤ (s[i]).toNat) := le_nat 49 _
  have l57 : leInt ((s[i]).toNat : Int) 57 = decide ((s[i]).toNat ≤ 57) := le_nat _ 57
  have e95 : eqInt ((s[i]).toNat : Int) 95 = decide ((s[i]).toNat = 95) := byte_eq _ 95
  have e48 : eqInt ((s[i]).toNat : Int) 48 = decide ((s[i]).toNat = 48) := byte_eq _ 48
  have e39 : eqInt ((s[i]).toNat : Int) 39 = decide ((s[i]).toNat = 39) := byte_eq _ 39
  have nL : letterB s[i] = true → nextTok (s.drop i) = wordTok (s.drop i) := fun q => by rw [drop_cons hi]; simp only [nextTok, q, if_true]
  have nD : letterB s[i] = false → digitB s[i] = true → nextTok (s.drop i) = numTok (s.drop i) := fun q q2 => by rw [drop_cons hi]; simp [nextTok, q, q2]
  have nF : letterB s[i] = false → digitB s[i] = false → (s[i]).toNat = 39 → nextTok (s.drop i) = lifeTok (s.drop (i + 1)) := fun q q2 q3 => by rw [drop_cons hi]; simp [nextTok, q, q2, q3]
  have nS : letterB s[i] = false → digitB s[i] = false → (s[i]).toNat ≠ 39 → nextTok (s.drop i) = signTok (s.drop i) := fun q q2 q3 => by rw [drop_cons hi]; simp [nextTok, q, q2, q3]
  unfold wordTok at nL
  unfold numTok at nD
  unfold lifeTok at nF
  by_cases q1 : 97 ≤ (s[i]).toNat
  · by_cases q2 : (s[i]).toNat ≤ 122
    · simp only [eq_self, l97, l122, l65, l90, e95, e48, l49, l57, e39, decide_true, decide_false, cond_true, cond_false, need_some, jcase_inl, jcase_inr, bind2_some, q1, q2]
      obtain ⟨r, h2, e, c2, t⟩ := f142_eq hs hN (Nat.le_of_lt hi) h1
      have o2 := o1.chg c2 (by simp)
      have hst : h2.store (h.next, 0) [(.int .i64 r.1.1), (.str r.1.2.1), (.int .i64 r.1.2.2.1)] = some (h2.put h.next (.row (tkc r.1.1 r.1.2.1 r.1.2.2.1) .own)) := o2.store rfl
      simp only [e, bind2_some, need_some, hst, jcase_inl, jcase_inr]
      rw [cells3 (own_put o2 _)]
      refine ⟨_, _, rfl, (c1.trans c2).put (.inr (Nat.le_refl _)) _, ?_⟩
      show TokR i r _
      rw [nL (by first | (unfold letterB; simp only [Bool.or_eq_true, decide_eq_true_eq]; omega))]; exact t
    · have z3 : 65 ≤ (s[i]).toNat := by omega
      have z4 : ¬ (s[i]).toNat ≤ 90 := by omega
      have z5 : ¬ (s[i]).toNat = 95 := by omega
      have z6 : ¬ (s[i]).toNat = 48 := by omega
      have z7 : 49 ≤ (s[i]).toNat := by omega
      have z8 : ¬ (s[i]).toNat ≤ 57 := by omega
      have z9 : ¬ (s[i]).toNat = 39 := by omega
      have q9 := z9
      have nl : letterB s[i] = false := by unfold letterB; simp only [Bool.or_eq_false_iff, decide_eq_false_iff_not]; omega
      have nd : digitB s[i] = false := by unfold digitB; simp only [decide_eq_false_iff_not]; omega
      simp only [eq_self, l97, l122, l65, l90, e95, e48, l49, l57, e39, decide_true, decide_false, cond_true, cond_false, need_some, jcase_inl, jcase_inr, bind2_some, q1, q2, z3, z4, z5, z6, z7, z8, z9]
      obtain ⟨r, h2, e, c2, t⟩ := f145_eq hs hN hN2 hi h1
      have o2 := o1.chg c2 (by simp)
      have hst : h2.store (h.next, 0) [(.int .i64 r.1.1), (.str r.1.2.1), (.int .i64 r.1.2.2.1)] = some (h2.put h.next (.row (tkc r.1.1 r.1.2.1 r.1.2.2.1) .own)) := o2.store rfl
      simp only [e, bind2_some, need_some, hst, jcase_inl, jcase_inr]
      rw [cells3 (own_put o2 _)]
      refine ⟨_, _, rfl, (c1.trans c2).put (.inr (Nat.le_refl _)) _, ?_⟩
      show TokR i r _
      rw [nS nl nd q9]; exact t
  · by_cases q3 : 65 ≤ (s[i]).toNat
    · by_cases q4 : (s[i]).toNat ≤ 90
      · simp only [eq_self, l97, l122, l65, l90, e95, e48, l49, l57, e39, decide_true, decide_false, cond_true, cond_false, need_some, jcase_inl, jcase_inr, bind2_some, q1, q3, q4]
        obtain ⟨r, h2, e, c2, t⟩ := f142_eq hs hN (Nat.le_of_lt hi) h1
        have o2 := o1.chg c2 (by simp)
        have hst : h2.store (h.next, 0) [(.int .i64 r.1.1), (.str r.1.2.1), (.int .i64 r.1.2.2.1)] = some (h2.put h.next (.row (tkc r.1.1 r.1.2.1 r.1.2.2.1) .own)) := o2.store rfl
        simp only [e, bind2_some, need_some, hst, jcase_inl, jcase_inr]
        rw [cells3 (own_put o2 _)]
        refine ⟨_, _, rfl, (c1.trans c2).put (.inr (Nat.le_refl _)) _, ?_⟩
        show TokR i r _
        rw [nL (by first | (unfold letterB; simp only [Bool.or_eq_true, decide_eq_true_eq]; omega))]; exact t
      · by_cases q5 : (s[i]).toNat = 95
        · have q5b : decide (95 = 95) = true := rfl
          simp only [eq_self, l97, l122, l65, l90, e95, e48, l49, l57, e39, decide_true, decide_false, cond_true, cond_false, need_some, jcase_inl, jcase_inr, bind2_some, q1, q3, q4, decide_eq_true q5]
          obtain ⟨r, h2, e, c2, t⟩ := f142_eq hs hN (Nat.le_of_lt hi) h1
          have o2 := o1.chg c2 (by simp)
          have hst : h2.store (h.next, 0) [(.int .i64 r.1.1), (.str r.1.2.1), (.int .i64 r.1.2.2.1)] = some (h2.put h.next (.row (tkc r.1.1 r.1.2.1 r.1.2.2.1) .own)) := o2.store rfl
          simp only [e, bind2_some, need_some, hst, jcase_inl, jcase_inr]
          rw [cells3 (own_put o2 _)]
          refine ⟨_, _, rfl, (c1.trans c2).put (.inr (Nat.le_refl _)) _, ?_⟩
          show TokR i r _
          rw [nL (by first | (unfold letterB; simp only [Bool.or_eq_true, decide_eq_true_eq]; omega))]; exact t
        · have z6 : ¬ (s[i]).toNat = 48 := by omega
          have z7 : 49 ≤ (s[i]).toNat := by omega
          have z8 : ¬ (s[i]).toNat ≤ 57 := by omega
          have z9 : ¬ (s[i]).toNat = 39 := by omega
          have q9 := z9
          have nl : letterB s[i] = false := by unfold letterB; simp only [Bool.or_eq_false_iff, decide_eq_false_iff_not]; omega
          have nd : digitB s[i] = false := by unfold digitB; simp only [decide_eq_false_iff_not]; omega
          simp only [eq_self, l97, l122, l65, l90, e95, e48, l49, l57, e39, decide_true, decide_false, cond_true, cond_false, need_some, jcase_inl, jcase_inr, bind2_some, q1, q3, q4, q5, z6, z7, z8, z9]
          obtain ⟨r, h2, e, c2, t⟩ := f145_eq hs hN hN2 hi h1
          have o2 := o1.chg c2 (by simp)
          have hst : h2.store (h.next, 0) [(.int .i64 r.1.1), (.str r.1.2.1), (.int .i64 r.1.2.2.1)] = some (h2.put h.next (.row (tkc r.1.1 r.1.2.1 r.1.2.2.1) .own)) := o2.store rfl
          simp only [e, bind2_some, need_some, hst, jcase_inl, jcase_inr]
          rw [cells3 (own_put o2 _)]
          refine ⟨_, _, rfl, (c1.trans c2).put (.inr (Nat.le_refl _)) _, ?_⟩
          show TokR i r _
          rw [nS nl nd q9]; exact t
    · have z5 : ¬ (s[i]).toNat = 95 := by omega
      have nl : letterB s[i] = false := by unfold letterB; simp only [Bool.or_eq_false_iff, decide_eq_false_iff_not]; omega
      by_cases q6 : (s[i]).toNat = 48
      · have dD : digitB s[i] = true := by unfold digitB; simp only [decide_eq_true_eq]; omega
        simp only [eq_self, l97, l122, l65, l90, e95, e48, l49, l57, e39, decide_true, decide_false, cond_true, cond_false, need_some, jcase_inl, jcase_inr, bind2_some, q1, q3, z5, decide_eq_true q6]
        obtain ⟨r, h2, e, c2, t⟩ := f143_eq hs hN hi dD h1
        have o2 := o1.chg c2 (by simp)
        have hst : h2.store (h.next, 0) [(.int .i64 r.1.1), (.str r.1.2.1), (.int .i64 r.1.2.2.1)] = some (h2.put h.next (.row (tkc r.1.1 r.1.2.1 r.1.2.2.1) .own)) := o2.store rfl
        simp only [e, bind2_some, need_some, hst, jcase_inl, jcase_inr]
        rw [cells3 (own_put o2 _)]
        refine ⟨_, _, rfl, (c1.trans c2).put (.inr (Nat.le_refl _)) _, ?_⟩
        show TokR i r _
        rw [nD nl dD]; exact t
      · by_cases q7 : 49 ≤ (s[i]).toNat
        · by_cases q8 : (s[i]).toNat ≤ 57
          · have dD : digitB s[i] = true := by unfold digitB; simp only [decide_eq_true_eq]; omega
            simp only [eq_self, l97, l122, l65, l90, e95, e48, l49, l57, e39, decide_true, decide_false, cond_true, cond_false, need_some, jcase_inl, jcase_inr, bind2_some, q1, q3, z5, q6, q7, q8]
            obtain ⟨r, h2, e, c2, t⟩ := f143_eq hs hN hi dD h1
            have o2 := o1.chg c2 (by simp)
            have hst : h2.store (h.next, 0) [(.int .i64 r.1.1), (.str r.1.2.1), (.int .i64 r.1.2.2.1)] = some (h2.put h.next (.row (tkc r.1.1 r.1.2.1 r.1.2.2.1) .own)) := o2.store rfl
            simp only [e, bind2_some, need_some, hst, jcase_inl, jcase_inr]
            rw [cells3 (own_put o2 _)]
            refine ⟨_, _, rfl, (c1.trans c2).put (.inr (Nat.le_refl _)) _, ?_⟩
            show TokR i r _
            rw [nD nl dD]; exact t
          · have z9 : ¬ (s[i]).toNat = 39 := by omega
            have q9 := z9
            have nd : digitB s[i] = false := by unfold digitB; simp only [decide_eq_false_iff_not]; omega
            simp only [eq_self, l97, l122, l65, l90, e95, e48, l49, l57, e39, decide_true, decide_false, cond_true, cond_false, need_some, jcase_inl, jcase_inr, bind2_some, q1, q3, z5, q6, q7, q8, z9]
            obtain ⟨r, h2, e, c2, t⟩ := f145_eq hs hN hN2 hi h1
            have o2 := o1.chg c2 (by simp)
            have hst : h2.store (h.next, 0) [(.int .i64 r.1.1), (.str r.1.2.1), (.int .i64 r.1.2.2.1)] = some (h2.put h.next (.row (tkc r.1.1 r.1.2.1 r.1.2.2.1) .own)) := o2.store rfl
            simp only [e, bind2_some, need_some, hst, jcase_inl, jcase_inr]
            rw [cells3 (own_put o2 _)]
            refine ⟨_, _, rfl, (c1.trans c2).put (.inr (Nat.le_refl _)) _, ?_⟩
            show TokR i r _
            rw [nS nl nd q9]; exact t
        · have nd : digitB s[i] = false := by unfold digitB; simp only [decide_eq_false_iff_not]; omega
          by_cases q9 : (s[i]).toNat = 39
          · simp only [eq_self, l97, l122, l65, l90, e95, e48, l49, l57, e39, decide_true, decide_false, cond_true, cond_false, need_some, jcase_inl, jcase_inr, bind2_some, q1, q3, z5, q6, q7, decide_eq_true q9]
            obtain ⟨r, h2, e, c2, t⟩ := f144_eq hs hN hi h1
            have o2 := o1.chg c2 (by simp)
            have hst : h2.store (h.next, 0) [(.int .i64 r.1.1), (.str r.1.2.1), (.int .i64 r.1.2.2.1)] = some (h2.put h.next (.row (tkc r.1.1 r.1.2.1 r.1.2.2.1) .own)) := o2.store rfl
            simp only [e, bind2_some, need_some, hst, jcase_inl, jcase_inr]
            rw [cells3 (own_put o2 _)]
            refine ⟨_, _, rfl, (c1.trans c2).put (.inr (Nat.le_refl _)) _, ?_⟩
            show TokR i r _
            rw [nF nl nd q9]; exact t
          · simp only [eq_self, l97, l122, l65, l90, e95, e48, l49, l57, e39, decide_true, decide_false, cond_true, cond_false, need_some, jcase_inl, jcase_inr, bind2_some, q1, q3, z5, q6, q7, q9]
            obtain ⟨r, h2, e, c2, t⟩ := f145_eq hs hN hN2 hi h1
            have o2 := o1.chg c2 (by simp)
            have hst : h2.store (h.next, 0) [(.int .i64 r.1.1), (.str r.1.2.1), (.int .i64 r.1.2.2.1)] = some (h2.put h.next (.row (tkc r.1.1 r.1.2.1 r.1.2.2.1) .own)) := o2.store rfl
            simp only [e, bind2_some, need_some, hst, jcase_inl, jcase_inr]
            rw [cells3 (own_put o2 _)]
            refine ⟨_, _, rfl, (c1.trans c2).put (.inr (Nat.le_refl _)) _, ?_⟩
            show TokR i r _
            rw [nS nl nd q9]; exact t
end
end Go.Proofs.YtkcjphhjmlienaaGreatDoor.Qp

set_option linter.unusedVariables false
set_option linter.unusedSimpArgs false
open Go Go.Proofs.YtkcjphhjmlienaaGreatDoor.Ai Go.Proofs
namespace Go.Proofs.YtkcjphhjmlienaaGreatDoor.Qp
/-! the program's Lex -/
abbrev Tok := Int × Bs × Nat
def tokD (q : Tok) : D := .t [.i q.1, .s q.2.1, .i (q.2.2 : Int)]
theorem dt_tok (h : Heap) (V : Nat → Prop) (q : Tok) : Dt h V (tokD q) (tkc q.1 q.2.1 (q.2.2 : Int)) := by
  simp only [tokD, tkc, Dt, Dp]
  exact ⟨[_], [_, _], rfl, rfl, [_], [_], rfl, rfl, [_], [], rfl, rfl, rfl⟩
theorem dt_tok' {h : Heap} {V : Nat → Prop} {q : Tok} {cs : List AV} (x : Dt h V (tokD q) cs) : cs = tkc q.1 q.2.1 (q.2.2 : Int) := by
  simp only [tokD, Dt, Dp] at x
  obtain ⟨a, b, rfl, rfl, a2, b2, rfl, rfl, a3, b3, rfl, rfl, rfl⟩ := x
  rfl
theorem app57 : AppN E 57 61 3 100 := AppN.of (by kernel_rfl)
theorem append_tok {h0 H : Heap} {v : SL} {xs : List Tok} (c : Chg [] h0 H) (x : Ow h0.next H v 3 (xs.map tokD)) (hl : xs.length ≤ 2000000) (k : Int) (t : Bs) (a : Nat) :
    ∃ v' H', (∀ {β : Type} (K : SL → Heap → Option β), bindT (.val (.one .slice)) (appendA E 57 57 (.slice v.a v.len v.cap v.sz) (.slice (some (H.next, 0)) 1 1 3) (H.push (.row [(.int .i64 k), (.str t), (.int .i64 (a : Int))] .own))) K = K v' H') ∧ Ow h0.next H' v' 3 ((xs ++ [(k, t, a)]).map tokD) ∧ Chg [] h0 H' := by
  obtain ⟨s', h', e, o, c', _⟩ := append_ow (cs := tkc k t (a : Int)) app57 (by decide) x (dt_tok H _ (k, t, a)) rfl c.next (by rw [List.length_map]; omega)
  refine ⟨s', h', fun K => ?_, ?_, c.step c' fun A hA hl => ?_⟩
  · have e' : appendA E 57 57 (.slice v.a v.len v.cap v.sz) (.slice (some (H.next, 0)) 1 1 3) (H.push (.row [(.int .i64 k), (.str t), (.int .i64 (a : Int))] .own)) = some (.slice s'.a s'.len s'.cap s'.sz, h') := e
    rw [e']; simp only [bindT_some, cast_slice]
  · rw [List.map_append]; exact o
  · have := x.ge A (by simpa using hA); omega
/-- a fault that lies there -/
def FaultAt (h : Heap) (v : AV) (c a : Int) : Prop := ∃ A, v = AV.iface 127 (.ptr (some (A, 0))) ∧ h.own A [.int .i64 c, .int .i64 a, AV.iface 78 (.int .i64 c)]
theorem FaultAt.chg {h h' : Heap} {v : AV} {c a : Int} (x : FaultAt h v c a) (y : Chg [] h h') : FaultAt h' v c a := by
  obtain ⟨A, h1, h2⟩ := x
  exact ⟨A, h1, h2.chg y (by simp)⟩
theorem f37_new (N : Nat) {c : Int} (hc : c ≠ 0) (a : Int) (h : Heap) : ∃ v h', f37 N c a h = some (v, h') ∧ Chg [] h h' ∧ FaultAt h' v c a := by
  unfold f37
  have : eqInt c 0 = false := by rw [eqI]; simpa using hc
  simp only [this, cond_false]
  exact ⟨_, _, rfl, chg_push _ _, h.next, rfl, own_push h _⟩
theorem nextTok_some {t : Bs} {k : Int} {x : Bs} {n : Nat} (h : nextTok t = some (k, x, n)) : 1 ≤ n ∧ n ≤ t.length := by
  cases t with
  | nil => cases h
  | cons c r =>
    have run1 : letterB c = true ∨ digitB c = true → 1 ≤ runN (c :: r) ∧ runN (c :: r) ≤ (c :: r).length := fun q => by
      refine ⟨?_, runN_le _⟩
      have : goesB c = true := by unfold goesB; rcases q with q | q <;> simp [q]
      simp only [runN, this, if_true]; omega
    simp only [nextTok] at h
    split at h
    · rename_i q
      have := run1 (.inl q)
      simp only [wordTok] at h
      split at h
      · simp only [Option.some.injEq, Prod.mk.injEq] at h; obtain ⟨_, _, rfl⟩ := h; exact this
      · split at h
        · simp only [Option.some.injEq, Prod.mk.injEq] at h; obtain ⟨_, _, rfl⟩ := h; exact this
        · cases h
    · split at h
      · rename_i _ q
        have := run1 (.inr q)
        simp only [numTok] at h
        split at h
        · simp only [Option.some.injEq, Prod.mk.injEq] at h; obtain ⟨_, _, rfl⟩ := h; exact this
        · cases h
      · split at h
        · have := runN_le r
          simp only [lifeTok] at h
          split at h
          · split at h
            · simp only [Option.some.injEq, Prod.mk.injEq] at h; obtain ⟨_, _, rfl⟩ := h; simp only [List.length_cons]; omega
            · cases h
          · cases h
        · have := signTok_some h; exact ⟨this.2.2.1, this.2.2.2⟩
def lexG : Nat → Bs → Nat → List Tok ⊕ Nat
  | 0, _, a => .inr a
  | M + 1, t, a => match t with
    | [] => .inl []
    | c :: r => match nextTok (c :: r) with
      | none => .inr a
      | some (k, x, n) => match lexG M ((c :: r).drop (n + blankN false ((c :: r).drop n))) (a + (n + blankN false ((c :: r).drop n))) with
        | .inl l => .inl ((k, x, a) :: l)
        | .inr e => .inr e
theorem lexG_succ (M : Nat) (s : Bs) (i : Nat) (hi : i < s.length) : lexG (M + 1) (s.drop i) i = match nextTok (s.drop i) with
    | none => .inr i
    | some (k, x, n) => match lexG M (s.drop (i + (n + blankN false (s.drop (i + n))))) (i + (n + blankN false (s.drop (i + n)))) with
      | .inl l => .inl ((k, x, i) :: l)
      | .inr e => .inr e := by
  have e : ∀ n, s.drop (i + n) = (s.drop i).drop n := fun n => by rw [List.drop_drop]
  simp only [e]
  rw [drop_cons hi]
  rfl
theorem lexG_end (M : Nat) (s : Bs) (i : Nat) (hi : s.length ≤ i) : lexG (M + 1) (s.drop i) i = .inl [] := by
  rw [List.drop_of_length_le hi]; rfl
section
variable {N : Nat} {s : Bs}
theorem lex_loop (hs : s.length ≤ 1048576) (hN : s.length < N) (hN2 : 20 ≤ N) {h0 : Heap} : ∀ (M i : Nat) (v : SL) (xs : List Tok) (H : Heap), i ≤ s.length → s.length - i < M → xs.length ≤ i → Chg [] h0 H → Ow h0.next H v 3 (xs.map tokD) →
    match lexG M (s.drop i) i with
    | .inl l => ∃ v' H', f54_l1 N M s ⟨none, 0, 0, 0⟩ AV.nilIface v (i : Int) H = some (.exit 0, (s, ⟨none, 0, 0, 0⟩, AV.nilIface, v', ()), H') ∧ Chg [] h0 H' ∧ Ow h0.next H' v' 3 ((xs ++ l).map tokD) ∧ (xs ++ l).length ≤ s.length
    | .inr a => ∃ v' v3 H', f54_l1 N M s ⟨none, 0, 0, 0⟩ AV.nilIface v (i : Int) H = some (.ret, (s, ⟨none, 0, 0, 0⟩, v3, v', ()), H') ∧ Chg [] h0 H' ∧ FaultAt H' v3 20 (a : Int) := by
  intro M
  induction M with
  | zero => intro i _ _ _ _ h; omega
  | succ M ih =>
    intro i v xs H hi hM hx c o
    rw [f54_l1_succ]
    unfold f54_l1_b
    simp only [lt_nat]
    by_cases q : i < s.length
    · rw [lexG_succ M s i q]
      simp only [q, decide_true, cond_true]
      obtain ⟨r, h2, e, c2, t⟩ := f91_eq (by omega) hN hN2 q H
      rw [e, bind2_some]
      have c3 := c.trans c2
      have o3 := own_push h2 (tkc 0 [] 0)
      have e3 : h2.push (.row [(.int .i64 0), (.str []), (.int .i64 0)] .own) = h2.push (.row (tkc 0 [] 0) .own) := rfl
      have c4 := c3.push (.row (tkc 0 [] 0) .own)
      have hge : h0.next ≤ h2.next := c3.next
      have hst : (h2.push (.row (tkc 0 [] 0) .own)).store (h2.next, 0) [(.int .i64 r.1.1), (.str r.1.2.1), (.int .i64 r.1.2.2.1)] = some ((h2.push (.row (tkc 0 [] 0) .own)).put h2.next (.row (tkc r.1.1 r.1.2.1 r.1.2.2.1) .own)) := o3.store rfl
      rw [e3, hst, need_some]
      have o5 := own_put o3 (tkc r.1.1 r.1.2.1 r.1.2.2.1)
      have c5 : Chg [] h0 ((h2.push (.row (tkc 0 [] 0) .own)).put h2.next (.row (tkc r.1.1 r.1.2.1 r.1.2.2.1) .own)) := c4.put (.inr hge) _
      have c25 : Chg [] h2 ((h2.push (.row (tkc 0 [] 0) .own)).put h2.next (.row (tkc r.1.1 r.1.2.1 r.1.2.2.1) .own)) := ((Chg.refl [] h2).push _).put (.inr (Nat.le_refl _)) _
      have c05 := c2.trans c25
      generalize (h2.push (.row (tkc 0 [] 0) .own)).put h2.next (.row (tkc r.1.1 r.1.2.1 r.1.2.2.1) .own) = h5 at *
      cases ht : nextTok (s.drop i) with
      | none =>
        rw [ht] at t
        have z : eqInt r.2.1 0 = true := by rw [show r.2.1 = 0 from t]; rfl
        simp only [z, cond_true]
        obtain ⟨vv, h6, e6, c6, f6⟩ := f37_new N (c := 20) (by decide) (i : Int) h5
        rw [e6, bind2_some]
        exact ⟨_, _, _, rfl, c5.trans c6, f6⟩
      | some p =>
        obtain ⟨k, x, n⟩ := p
        rw [ht] at t
        have hn := nextTok_some ht
        rw [List.length_drop] at hn
        have t' : r = ((k, x, (i : Int), ()), ((i + n : Nat) : Int), ()) := t
        have z : eqInt r.2.1 0 = false := by rw [t', eqI]; simp; omega
        simp only [z, cond_false]
        rw [cells3 o5, t']
        dsimp only
        have ox := o.chg c05 (by simp)
        obtain ⟨v', H', ea, oa, ca⟩ := append_tok c5 ox (by omega) k x i
        rw [ea, f90_eq (by omega) hN (by omega), bind2_some]
        have hb := blankN_le (s.drop (i + n)) false
        rw [List.length_drop] at hb
        have := ih (i + (n + blankN false (s.drop (i + n)))) v' (xs ++ [(k, x, i)]) H' (by omega) (by omega) (by simp; omega) ca oa
        rw [show i + n + blankN false (s.drop (i + n)) = i + (n + blankN false (s.drop (i + n))) by omega]
        cases hl : lexG M (s.drop (i + (n + blankN false (s.drop (i + n))))) (i + (n + blankN false (s.drop (i + n)))) with
        | inl l =>
          rw [hl] at this
          simp only [List.append_assoc, List.singleton_append] at this
          exact this
        | inr a => rw [hl] at this; exact this
    · rw [lexG_end M s i (by omega)]
      simp only [q, decide_false, cond_false]
      refine ⟨_, _, rfl, c, by rw [List.append_nil]; exact o, by rw [List.append_nil]; omega⟩
/-- the tokens of a text, or the place of what is none -/
def lexT (N : Nat) (s : Bs) : List Tok ⊕ Nat := match lexG N (s.drop (blankN false s)) (blankN false s) with
  | .inl l => .inl (l ++ [(0, [], s.length)])
  | .inr a => .inr a
theorem f54_eq (hs : s.length ≤ 1048576) (hN : s.length < N) (hN2 : 20 ≤ N) (h : Heap) : ∃ r h', f54 N s h = some (r, h') ∧ Chg [] h h' ∧ match lexT N s with
    | .inl l => r.2.1 = AV.nilIface ∧ Ow h.next h' r.1 3 (l.map tokD) ∧ l.length ≤ s.length + 1
    | .inr a => FaultAt h' r.2.1 20 (a : Int) := by
  unfold f54 lexT
  have z : ltInt 1048576 (Int.ofNat s.length) = false := by rw [ltI, decide_eq_false_iff_not]; show ¬ (1048576 : Int) < (s.length : Int); omega
  simp only [z, cond_false]
  have f9 := f90_eq (by omega) hN (Nat.zero_le _) h
  rw [List.drop_zero, Nat.zero_add] at f9
  rw [show ((0 : Nat) : Int) = 0 from rfl] at f9
  rw [f9, bind2_some]
  have hb := blankN_le s false
  have lp := lex_loop hs hN hN2 (h0 := h) N (blankN false s) ⟨none, 0, 0, 0⟩ [] h hb (by omega) (by simp) (Chg.refl _ _) (Ow.nil _ _ _ _)
  cases hl : lexG N (s.drop (blankN false s)) (blankN false s) with
  | inl l =>
    rw [hl] at lp
    obtain ⟨v', H', e, c, o, hll⟩ := lp
    rw [e]
    simp only [bind3_some, eqOut_exit, decide_true, cond_true]
    obtain ⟨v2, H2, ea, oa, ca⟩ := append_tok c o (by omega) 0 [] s.length
    rw [show Int.ofNat s.length = ((s.length : Nat) : Int) from rfl, ea]
    refine ⟨_, _, rfl, ca, rfl, oa, ?_⟩
    simpa using hll
  | inr a =>
    rw [hl] at lp
    obtain ⟨v', v3, H', e, c, f⟩ := lp
    rw [e]
    simp only [bind3_some, eqOut_ret, cond_false]
    exact ⟨_, _, rfl, c, f⟩
end
end Go.Proofs.YtkcjphhjmlienaaGreatDoor.Qp
