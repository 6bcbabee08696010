import Derived.Test.YtkcjphhjmlienaaGreatDoorAi1
import Derived.WideKeyRuns
import Derived.MapKept
import Derived.LoopN
import Derived.Scope
/- A verified evaluator for the model of the program: what it evaluates is what the program computes, whatever else the memory holds; part 2. Conditions: no package variables. -/
set_option linter.unusedVariables false
set_option linter.unusedSimpArgs false
namespace Go.Proofs.YtkcjphhjmlienaaGreatDoor.Ai
section
variable {E : Env} {P : Program} {μ : Mu} {h : Heap} {w : World} {nt : Nat} {fr : Fr} {a : Act}
theorem minmax_sound {f : AV → AV → Option AV} {g : Value → Value → Sem Value} (hfg : ∀ x y z u v, f x y = some z → VR μ x u → VR μ y v → PV P (g u v) w μ z) :
    ∀ {r : List AV} {r' : List Value} {x z : AV} {u : Value}, VR μ x u → VRs μ r r' → foldA f x r = some z → PV P (r'.foldlM g u) w μ z
  | [], r', x, z, u, hx, hr, h => by
    simp only [VRs] at hr; subst hr
    simp [foldA] at h; subst h
    exact ⟨u, rfl, hx⟩
  | y :: r, r', x, z, u, hx, hr, h => by
    simp only [VRs] at hr
    obtain ⟨v, rs, rfl, hy, hrs⟩ := hr
    simp only [foldA] at h
    cases hf : f x y with
    | none => simp [hf] at h
    | some m =>
      simp only [hf] at h
      obtain ⟨um, h1, h2⟩ := hfg x y m u v hf hx hy
      obtain ⟨uz, h3, h4⟩ := minmax_sound hfg h2 hrs h
      exact ⟨uz, by rw [List.foldlM_cons]; exact (run_bind_ok (P := P) h1).trans h3, h4⟩
theorem min_sound (x y z : AV) (u v : Value) (h : minA x y = some z) (hx : VR μ x u) (hy : VR μ y v) : PV P (Builtin.min2 u v) w μ z := by
  unfold minA at h
  split at h
  · simp at h; subst h
    simp only [VR] at hx hy; subst hx hy
    refine ⟨_, rfl, ?_⟩
    simp only [VR, ltInt_eq]
    split <;> rename_i h1 <;> simp [h1]
  · simp at h
theorem max_sound (x y z : AV) (u v : Value) (h : maxA x y = some z) (hx : VR μ x u) (hy : VR μ y v) : PV P (Builtin.max2 u v) w μ z := by
  unfold maxA at h
  split at h
  · simp at h; subst h
    simp only [VR] at hx hy; subst hx hy
    refine ⟨_, rfl, ?_⟩
    simp only [VR, ltInt_eq]
    split <;> rename_i h1
    · have h1' : _ < _ := h1; simp [h1']
    · have h1' : ¬ (_ < _) := h1; simp [h1']
  · simp at h
theorem len_sound (ok : EnvOK E P) {t ty : TypeId} {x z : AV} {u : Value} {ts : Array TypeId} (hts : ts[0]? = some t) (hx : VR μ x u) (hl : lenA E t x = some z) : PV P (Builtin.len_ ts ty #[u]) w μ z := by
  have hhead : ∀ (k : Sem Value), True := fun _ => trivial
  unfold lenA at hl
  split at hl
  · rename_i s hu
    simp at hl; subst hl
    simp only [VR] at hx; subst hx
    refine ⟨.int .i64 s.length, ?_, by simp only [VR]⟩
    unfold Builtin.len_; rw [hts]
    exact (run_bind_ok (P := P) (run_und (und_sound ok hu))).trans rfl
  · rename_i n e hu
    simp at hl; subst hl
    refine ⟨.int .i64 n, ?_, by simp only [VR]⟩
    unfold Builtin.len_; rw [hts]
    exact (run_bind_ok (P := P) (run_und (und_sound ok hu))).trans (by cases u <;> rfl)
  · rename_i e p n cap sz hu
    simp at hl; subst hl
    obtain ⟨p', c, rfl⟩ := hx.slice_form
    refine ⟨.int .i64 n, ?_, by simp only [VR]⟩
    unfold Builtin.len_; rw [hts]
    exact (run_bind_ok (P := P) (run_und (und_sound ok hu))).trans rfl
  · simp at hl
theorem lenMap_sound (ok : EnvOK E P) (hr : HR μ h w) {t ty : TypeId} {m : Option Nat} {z : AV} {u : Value} {ts : Array TypeId} (hts : ts[0]? = some t) (hx : VR μ (.map m) u) (hl : lenMapA E t (.map m) h = some z) : PV P (Builtin.len_ ts ty #[u]) w μ z := by
  unfold lenMapA at hl
  split at hl
  · rename_i kt et hu
    cases m with
    | none =>
      simp only [mapOf, Option.some.injEq] at hl; subst hl
      simp only [VR] at hx; subst hx
      refine ⟨.int .i64 0, ?_, by simp only [VR]; rfl⟩
      unfold Builtin.len_; rw [hts]
      exact (run_bind_ok (P := P) (run_und (und_sound ok hu))).trans rfl
    | some A =>
      simp only [VR] at hx
      obtain ⟨l, hA, rfl⟩ := hx
      simp only [mapOf] at hl
      split at hl
      · rename_i es hes
        split at hes
        · rename_i es2 c hg
          cases hes
          simp only [Option.some.injEq] at hl; subst hl
          obtain ⟨es', h1, h2⟩ := hr.blk A l _ hA hg
          have hlen : es'.size = es.length := by
            have : ∀ {a : List (AV × AV × Nat)} {b : List MapEntry}, ER μ a b → b.length = a.length := by
              intro a b he; induction he with
              | nil => rfl
              | cons _ _ _ ih => simp [ih]
            simpa using this h2
          refine ⟨.int .i64 es.length, ?_, by simp only [VR]⟩
          unfold Builtin.len_; rw [hts]
          refine (run_bind_ok (P := P) (run_und (und_sound ok hu))).trans ?_
          simp [getObj, Sem.run_bind, Sem.run, h1, hlen, goInt]
        · simp at hes
      · simp at hl
  · simp at hl
theorem cap_sound (ok : EnvOK E P) (hr : HR μ h w) {t ty : TypeId} {x z : AV} {u : Value} {ts : Array TypeId} (hts : ts[0]? = some t) (hx : VR μ x u) (hl : capA E t x h = some z) : PV P (Builtin.cap_ ts ty #[u]) w μ z := by
  unfold capA at hl
  split at hl
  · rename_i e len c sz hu
    simp at hl; subst hl
    simp only [VR] at hx; obtain ⟨rfl, _, rfl⟩ := hx
    refine ⟨.int .i64 0, ?_, by simp only [VR]; rfl⟩
    unfold Builtin.cap_; rw [hts]
    exact (run_bind_ok (P := P) (run_und (und_sound ok hu))).trans rfl
  · rename_i e A off len c sz hu
    split at hl
    · rename_i cs hg
      simp at hl; subst hl
      simp only [VR] at hx
      obtain ⟨l, a', c', hA, rfl, hlc, hd⟩ := hx
      have hB := hr.blk A l _ hA hg
      have hc : c' = c := by
        rcases hd with ⟨h1, h2⟩ | ⟨_, _, _, h1⟩
        · omega
        · exact h1 hB.2.1
      subst hc
      refine ⟨.int .i64 c', ?_, by simp only [VR]⟩
      unfold Builtin.cap_; rw [hts]
      exact (run_bind_ok (P := P) (run_und (und_sound ok hu))).trans rfl
    · simp at hl
  · simp at hl
theorem fails_sound (ok : EnvOK E P) {t : TypeId} {b : Bool} {x : AV} (hx : failsA E t b = some x) : b = true ∧ ∃ z zv, x = .tuple [z, .bool false] ∧ (∀ w, (zeroValue t).run P w = .ok zv w) ∧ ∀ μ, VR μ x (.tuple #[zv, .bool false]) := by
  unfold failsA at hx
  cases b with
  | false => simp at hx
  | true =>
    simp only [cond_true] at hx
    cases hz : E.zero t with
    | none => simp [hz] at hx
    | some z =>
      simp [hz] at hx; subst hx
      obtain ⟨zv, h1, h2⟩ := zero_sound ok hz
      exact ⟨rfl, z, zv, rfl, h1, fun μ => by simp only [VR]; exact ⟨_, rfl, VRs.cons (h2 μ) (VRs.cons (by simp only [VR]) VRs.nil)⟩⟩
theorem holds_rel {b : Bool} {v : AV} {u : Value} (hv : VR μ v u) : VR μ (holdsA b v) (if b then .tuple #[u, .bool true] else u) := by
  cases b with
  | false => exact hv
  | true => simp only [holdsA, cond_true, if_true, VR]; exact ⟨_, rfl, VRs.cons hv (VRs.cons (by simp only [VR]) VRs.nil)⟩
theorem assert_sound (ok : EnvOK E P) {x y : AV} {u : Value} {xt t : TypeId} {b : Bool} (hv : VR μ x u) (hx : assertA E x t b = some y) : PV P (Instr.typeAssert u xt t b) w μ y := by
  unfold assertA at hx
  cases hu : E.und t with
  | none => simp [hu] at hx
  | some d =>
    simp only [hu] at hx
    have hund := und_sound ok hu
    cases hd : isIfaceD d with
    | some want =>
      simp only [hd] at hx
      have hd' : d = .interface want := by cases d <;> simp [isIfaceD] at hd; rw [hd]
      subst hd'
      split at hx
      · simp only [VR] at hv; subst hv
        obtain ⟨rfl, z, zv, rfl, h1, h2⟩ := fails_sound ok hx
        refine ⟨_, ?_, h2 μ⟩
        unfold Instr.typeAssert
        refine (run_bind_ok (P := P) (run_und hund)).trans ?_
        exact (run_bind_ok (P := P) (h1 w)).trans rfl
      · rename_i t' v
        have hv' := hv
        simp only [VR] at hv; obtain ⟨u', rfl, hv⟩ := hv
        cases hi : E.info t' with
        | none => simp [hi] at hx
        | some i =>
          simp only [hi] at hx
          cases hm : Instr.missingMethod want i.methods with
          | none =>
            simp [hm] at hx; subst hx
            refine ⟨_, ?_, holds_rel hv'⟩
            unfold Instr.typeAssert
            refine (run_bind_ok (P := P) (run_und hund)).trans ?_
            refine (run_bind_ok (P := P) (run_info (ok.info _ _ hi))).trans ?_
            rw [hm]; rfl
          | some m =>
            simp only [hm] at hx
            obtain ⟨rfl, z, zv, rfl, h1, h2⟩ := fails_sound ok hx
            refine ⟨_, ?_, h2 μ⟩
            unfold Instr.typeAssert
            refine (run_bind_ok (P := P) (run_und hund)).trans ?_
            refine (run_bind_ok (P := P) (run_info (ok.info _ _ hi))).trans ?_
            rw [hm]
            exact (run_bind_ok (P := P) (h1 w)).trans rfl
      · simp at hx
    | none =>
      simp only [hd] at hx
      split at hx
      · simp only [VR] at hv; subst hv
        obtain ⟨rfl, z, zv, rfl, h1, h2⟩ := fails_sound ok hx
        refine ⟨_, ?_, h2 μ⟩
        unfold Instr.typeAssert
        refine (run_bind_ok (P := P) (run_und hund)).trans ?_
        cases d <;> first | (simp [isIfaceD] at hd; done) | exact (run_bind_ok (P := P) (h1 w)).trans rfl
      · rename_i t' v
        simp only [VR] at hv; obtain ⟨u', rfl, hv⟩ := hv
        cases ht : Nat.beq t' t with
        | true =>
          simp [ht] at hx; subst hx
          have : t' = t := Nat.eq_of_beq_eq_true ht
          subst this
          refine ⟨_, ?_, holds_rel hv⟩
          unfold Instr.typeAssert
          refine (run_bind_ok (P := P) (run_und hund)).trans ?_
          cases d <;> first | (simp [isIfaceD] at hd; done) | (show Sem.run P (if t' = t' then _ else _) w = _; rw [if_pos rfl]; rfl)
        | false =>
          simp only [ht, cond_false] at hx
          obtain ⟨rfl, z, zv, rfl, h1, h2⟩ := fails_sound ok hx
          have hne : ¬ (t' = t) := fun e => by rw [bt e] at ht; cases ht
          refine ⟨_, ?_, h2 μ⟩
          unfold Instr.typeAssert
          refine (run_bind_ok (P := P) (run_und hund)).trans ?_
          cases d <;> first | (simp [isIfaceD] at hd; done) | (show Sem.run P (if t' = t then _ else _) w = _; rw [if_neg hne]; exact (run_bind_ok (P := P) (h1 w)).trans rfl)
      · simp at hx

theorem sameA_spec {v : Option AV} {x : AV} {h' : Heap} (hx : sameA h v = some (x, h')) : v = some x ∧ h' = h := by
  cases v with
  | none => simp [sameA] at hx
  | some y => simp only [sameA, Option.some.injEq, Prod.mk.injEq] at hx; exact ⟨by rw [hx.1], hx.2.symm⟩

theorem builtin_sound (ok : EnvOK E P) (hr : HR μ h w) {b : Builtin} {ts : Array TypeId} {ty : TypeId} {cst : Array Bool} {args : List AV} {args' : Array Value} {x : AV} {h' : Heap} (ha : VRs μ args args'.toList)
    (hx : builtinA E b ts.toList args h = some (x, h')) : ∃ s : Sem Value, (builtin b ts ty cst args') = (do pure (.value (← s))) ∧ DV P s μ h w x h' := by
  unfold builtinA at hx
  split at hx
  · rename_i st xt s x' hts
    obtain ⟨ts⟩ := ts; simp only at hts; subst hts
    obtain ⟨args'⟩ := args'
    simp only [VRs] at ha
    obtain ⟨u, r, rfl, h1, v, r2, rfl, h2, rfl⟩ := ha
    exact ⟨_, rfl, append_sound ok hr h1 h2 hx⟩
  · rename_i t x' hts
    obtain ⟨ts⟩ := ts; simp only at hts; subst hts
    obtain ⟨args'⟩ := args'
    simp only [VRs] at ha
    obtain ⟨u, r, rfl, h1, rfl⟩ := ha
    obtain ⟨h2, rfl⟩ := sameA_spec hx
    exact ⟨_, rfl, (lenMap_sound ok hr rfl h1 h2).dv hr⟩
  · rename_i t x' _ hts
    obtain ⟨ts⟩ := ts; simp only at hts; subst hts
    obtain ⟨args'⟩ := args'
    simp only [VRs] at ha
    obtain ⟨u, r, rfl, h1, rfl⟩ := ha
    obtain ⟨h2, rfl⟩ := sameA_spec hx
    exact ⟨_, rfl, (len_sound ok rfl h1 h2).dv hr⟩
  · rename_i t x' hts
    obtain ⟨ts⟩ := ts; simp only at hts; subst hts
    obtain ⟨args'⟩ := args'
    simp only [VRs] at ha
    obtain ⟨u, r, rfl, h1, rfl⟩ := ha
    obtain ⟨h2, rfl⟩ := sameA_spec hx
    exact ⟨_, rfl, (cap_sound ok hr rfl h1 h2).dv hr⟩
  · rename_i dt t2 d s hts
    obtain ⟨ts⟩ := ts; simp only at hts; subst hts
    obtain ⟨args'⟩ := args'
    simp only [VRs] at ha
    obtain ⟨u, r, rfl, h1, v, r2, rfl, h2, rfl⟩ := ha
    exact ⟨_, rfl, copy_sound ok hr h1 h2 rfl hx⟩
  · obtain ⟨args'⟩ := args'
    simp only [VRs] at ha
    obtain ⟨u, r, rfl, h1, h2⟩ := ha
    obtain ⟨h3, rfl⟩ := sameA_spec hx
    exact ⟨_, rfl, (minmax_sound (P := P) (w := w) min_sound h1 h2 h3).dv hr⟩
  · obtain ⟨args'⟩ := args'
    simp only [VRs] at ha
    obtain ⟨u, r, rfl, h1, h2⟩ := ha
    obtain ⟨h3, rfl⟩ := sameA_spec hx
    exact ⟨_, rfl, (minmax_sound (P := P) (w := w) max_sound h1 h2 h3).dv hr⟩
  · rename_i t A off len cap sz hts
    obtain ⟨ts⟩ := ts; simp only at hts; subst hts
    obtain ⟨args'⟩ := args'
    simp only [VRs, VR] at ha
    obtain ⟨u, r, rfl, ⟨l, a', c', hA, rfl, hlc, hd⟩, rfl⟩ := ha
    simp only [Option.some.injEq, Prod.mk.injEq] at hx
    obtain ⟨rfl, rfl⟩ := hx
    rcases hd with ⟨h0, _⟩ | ⟨rfl, h2, _⟩
    · omega
    · exact ⟨_, rfl, PV.dv ⟨_, Lib.run_unsafeSliceData_row w _ _ _ _ _ (by omega), by simp only [VR]; exact ⟨l, hA, rfl⟩⟩ hr⟩
  · rename_i pt t2 A n hts
    obtain ⟨ts⟩ := ts; simp only at hts; subst hts
    obtain ⟨args'⟩ := args'
    simp only [VRs] at ha
    obtain ⟨u, r, rfl, h1, v, r2, rfl, h2, rfl⟩ := ha
    simp only [VR] at h2; subst h2
    exact ⟨_, rfl, unsafeStr_sound ok hr h1 hx⟩
  · simp at hx
end
end Go.Proofs.YtkcjphhjmlienaaGreatDoor.Ai

namespace Go.Proofs.YtkcjphhjmlienaaGreatDoor.Ai
section
variable {E : Env} {P : Program} {μ : Mu} {h : Heap} {w : World}

theorem makeMap_sound (hr : HR μ h w) {t : TypeId} : DV P (Instr.makeMap t none) μ h w (.map (some h.next)) (h.push (.map [] 0)) := by
  have hp := hr.push (.map #[] 0) (.map [] 0) ⟨w.heap.size, 0, 0, true⟩ rfl ⟨#[], by show (w.heap.push _)[_]? = _; simp, .nil⟩
  refine ⟨_, .map (some w.heap.size), w.alloc (.map #[] 0), ?_, ?_, hp.1, hp.2⟩
  · simp [Instr.makeMap, Result.andThen]
  · simp only [VR]
    exact ⟨⟨w.heap.size, 0, 0, true⟩, by simp [Mu.add], rfl⟩

/-! ### keys -/
theorem litInts_det : ∀ {cs : List AV}, (cs.all fun | .int _ _ => true | _ => false) = true → ∀ {l l' : List Value}, VRs μ cs l → VRs μ cs l' → l = l' ∧ (l.zip l').all (fun (x, y) => Instr.sameBits 9999 x y) = true
  | [], _, l, l', h1, h2 => by simp only [VRs] at h1 h2; subst h1 h2; simp
  | x :: r, hc, l, l', h1, h2 => by
    simp only [VRs] at h1 h2
    obtain ⟨y, ys, rfl, hy, hys⟩ := h1
    obtain ⟨z, zs, rfl, hz, hzs⟩ := h2
    simp only [List.all_cons, Bool.and_eq_true] at hc
    obtain ⟨e, e'⟩ := litInts_det hc.2 hys hzs
    cases x <;> simp at hc
    simp only [VR] at hy hz
    subst hy hz e
    refine ⟨rfl, ?_⟩
    simp only [List.zip_cons_cons, List.all_cons, Bool.and_eq_true]
    exact ⟨by simp [Instr.sameBits], e'⟩

theorem lit_det {k : AV} (hl : litA k = true) {v v' : Value} (h1 : VR μ k v) (h2 : VR μ k v') : v = v' ∧ Instr.sameBits 10000 v v' = true := by
  cases k <;> simp only [litA, Bool.false_eq_true] at hl
  case int => simp only [VR] at h1 h2; subst h1 h2; exact ⟨rfl, by simp [Instr.sameBits]⟩
  case str s => simp only [VR] at h1 h2; subst h1 h2; exact ⟨rfl, MapKept.sameBits_self (d := .string) (by simp [MapKept.IsKey]) _⟩
  case agg cs =>
    simp only [VR] at h1 h2
    obtain ⟨a, rfl, h1⟩ := h1
    obtain ⟨b, rfl, h2⟩ := h2
    obtain ⟨e, e'⟩ := litInts_det hl h1 h2
    have : a = b := Array.toList_inj.1 e
    subst this
    exact ⟨rfl, by simp only [Instr.sameBits, beq_self_eq_true, Bool.true_and]; exact e'⟩

theorem checkKey_sound (ok : EnvOK E P) {kt : TypeId} {k : AV} {v : Value} (hk : keyA E kt k = true) (hv : VR μ k v) (em : Bool) : (Instr.checkKey em 10000 kt v).run P w = .ok () w := by
  unfold keyA at hk
  split at hk
  · rename_i hu
    simp only [VR] at hv; subst hv
    show (Instr.checkKey em (9999 + 1) kt _).run P w = _
    rw [Instr.checkKey]
    simp only [Sem.run_bind, run_und (und_sound ok hu), Result.andThen_ok]
    rfl
  · rename_i hu
    simp only [VR] at hv; subst hv
    exact MapKept.run_checkKey (d := .string) (und_sound ok hu) (by simp [MapKept.IsKey]) em 9999
  · rename_i len e xs hu
    simp only [VR] at hv
    obtain ⟨xs', rfl, hxs⟩ := hv
    split at hk
    · rename_i kk he hs
      have hlen : xs.length = len := Nat.eq_of_beq_eq_true hk
      obtain ⟨i, hi, _, hc⟩ := info_size ok hs
      have hagg : E.isAgg e = some false := by simp [Env.isAgg, he, isAggD]
      have ck : ∀ y : Value, (Instr.checkKey em 9999 e y).run P w = .ok () w := by
        intro y
        show (Instr.checkKey em (9998 + 1) e y).run P w = _
        rw [Instr.checkKey]
        simp only [Sem.run_bind, run_und (und_sound ok he), Result.andThen_ok]
        cases y <;> rfl
      show (Instr.checkKey em (9999 + 1) kt (.agg xs')).run P w = _
      rw [Instr.checkKey]
      simp only [Sem.run_bind, run_und (und_sound ok hu), Result.andThen_ok]
      simp only [Std.Legacy.Range.forIn_eq_forIn_range', Std.Legacy.Range.size, Nat.sub_zero, Nat.add_one_sub_one, Nat.div_one]
      have each : ∀ j ∈ List.range' 0 len, j < xs.length := fun j hj => by simp at hj; omega
      generalize List.range' 0 len = is at each
      induction is with
      | nil => simp
      | cons j is ih =>
        have hj : j < xs.length := each j (by simp)
        have hp : partA E e xs (j * 1) = some xs[j] := by
          simp only [partA, hagg, Nat.mul_one]
          rw [List.drop_eq_getElem_cons hj]
        obtain ⟨y, h1, _⟩ := part_sound (w := w) ok hxs hp
        simp only [List.forIn_cons, Sem.run_bind, run_sizeOf w hi, hc, Result.andThen_ok, h1, ck, Sem.run_pure]
        exact ih (fun y hy => each y (by simp [hy]))
    · simp at hk
  · simp at hk

theorem findA_spec {kt : TypeId} {k : AV} : ∀ {es : List (AV × AV × Nat)} {i j : Nat} {x : AV}, findA E kt k es i = some (some (j, x)) → i ≤ j ∧ ∃ b, es[j - i]? = some (k, x, b)
  | [], i, j, x, h => by simp [findA] at h
  | (k', v, b) :: r, i, j, x, h => by
    simp only [findA] at h
    split at h
    · cases he : eqV k k' with
      | false => simp [he] at h
      | true =>
        simp [he] at h
        obtain ⟨rfl, rfl⟩ := h
        have := eqV_eq _ _ he
        subst this
        exact ⟨Nat.le_refl _, b, by simp⟩
    · obtain ⟨h1, b', h2⟩ := findA_spec h
      exact ⟨by omega, b', by rw [show j - i = (j - (i + 1)) + 1 from by omega]; simpa using h2⟩
    · simp at h

def FR (μ : Mu) : Option (Nat × AV) → Option (Nat × Value) → Prop
  | none, none => True
  | some (i, x), some (j, y) => i = j ∧ VR μ x y
  | _, _ => False

theorem findAsking_sound (ok : EnvOK E P) {kt : TypeId} {k : AV} {v : Value} (hv : VR μ k v) : ∀ {es : List (AV × AV × Nat)} {es' : List MapEntry} (_ : ER μ es es') {i : Nat} {r : Option (Nat × AV)}, findA E kt k es i = some r →
    ∃ r', (Instr.findAsking kt v es' i).run P w = .ok r' w ∧ FR μ r r' := by
  intro es es' he
  induction he with
  | nil => intro i r h; simp [findA] at h; subst h; exact ⟨none, by simp [Instr.findAsking], trivial⟩
  | @cons k2 v2 b2 r2 k2' v2' r2' hk hx he ih =>
    intro i r h
    simp only [findA] at h
    split at h
    · rename_i hq
      have := eqA_sound (w := w) ok 9 _ _ _ _ _ _ hq hv hk Op.maxDepth (by decide)
      cases hb : eqV k k2 with
      | false => simp [hb] at h
      | true =>
        simp [hb] at h; subst h
        refine ⟨some (i, v2'), ?_, rfl, hx⟩
        simp only [Instr.findAsking, Op.equal, Sem.run_bind, this, Result.andThen_ok, if_true, Sem.run_pure]
    · rename_i hq
      have := eqA_sound (w := w) ok 9 _ _ _ _ _ _ hq hv hk Op.maxDepth (by decide)
      obtain ⟨r', h1, h2⟩ := ih h
      refine ⟨r', ?_, h2⟩
      simp only [Instr.findAsking, Op.equal, Sem.run_bind, this, Result.andThen_ok, Bool.false_eq_true, if_false]
      exact h1
    · simp at h

theorem findNow_sound {kt : TypeId} {d : TypeDesc} (hu : E.und kt = some d) (hd : (∃ k, d = .int k) ∨ d = .string) {k : AV} {v : Value} (hv : VR μ k v) : ∀ {es : List (AV × AV × Nat)} {es' : List MapEntry} (_ : ER μ es es') {i : Nat} {r : Option (Nat × AV)}, findA E kt k es i = some r →
    ∃ r', Instr.findNow d v es' i = some r' ∧ FR μ r r' := by
  intro es es' he
  have now : ∀ {k' : AV} {v' : Value} {b : Bool}, eqA E 9 kt k k' = some b → VR μ k' v' → Instr.sameNow d v v' = some b := by
    intro k' v' b hq hv'
    rcases hd with ⟨kk, rfl⟩ | rfl
    · simp only [eqA, hu] at hq
      cases k <;> (try (simp at hq; done))
      cases k' <;> (try (simp at hq; done))
      simp only [VR] at hv hv'; subst hv hv'
      rename_i k1 n1 k2 n2
      simp only at hq
      by_cases hkk : k1 = k2
      · subst hkk
        simp [eqKind, eqInt_eq] at hq
        simp [Instr.sameNow, hq]
      · simp [eqKind, hkk] at hq
    · simp only [eqA, hu] at hq
      cases k <;> (try (simp at hq; done))
      cases k' <;> (try (simp at hq; done))
      simp only [VR] at hv hv'; subst hv hv'
      simp only [Option.some.injEq] at hq
      subst hq
      simp only [Instr.sameNow, Option.some.injEq]
      rw [eqBytes_eq]
      simp [beq_toListBytes]
  induction he with
  | nil => intro i r h; simp [findA] at h; subst h; exact ⟨none, by simp [Instr.findNow], trivial⟩
  | @cons k2 v2 b2 r2 k2' v2' r2' hk hx he ih =>
    intro i r h
    simp only [findA] at h
    split at h
    · rename_i hq
      have := now hq hk
      cases hb : eqV k k2 with
      | false => simp [hb] at h
      | true =>
        simp [hb] at h; subst h
        refine ⟨some (i, v2'), ?_, rfl, hx⟩
        simp only [Instr.findNow, this]
    · rename_i hq
      have := now hq hk
      obtain ⟨r', h1, h2⟩ := ih h
      refine ⟨r', ?_, h2⟩
      simp only [Instr.findNow, this]
      exact h1
    · simp at h

theorem findKey_sound (ok : EnvOK E P) {kt : TypeId} {k : AV} {v : Value} (hk : keyA E kt k = true) (hv : VR μ k v) {es : List (AV × AV × Nat)} {es' : List MapEntry} (he : ER μ es es') {r : Option (Nat × AV)} (hf : findA E kt k es 0 = some r) :
    ∃ r', (Instr.findKey kt v es').run P w = .ok r' w ∧ FR μ r r' := by
  unfold keyA at hk
  split at hk
  · rename_i hu
    obtain ⟨r', h1, h2⟩ := findNow_sound hu (.inl ⟨_, rfl⟩) hv he hf
    exact ⟨r', MapKept.run_findKey (und_sound ok hu) h1, h2⟩
  · rename_i hu
    obtain ⟨r', h1, h2⟩ := findNow_sound hu (.inr rfl) hv he hf
    exact ⟨r', MapKept.run_findKey (und_sound ok hu) h1, h2⟩
  · rename_i len e xs hu
    rw [run_findKey_eq w (by simp [und_sound ok hu])]
    exact findAsking_sound ok hv he hf
  · simp at hk
end
end Go.Proofs.YtkcjphhjmlienaaGreatDoor.Ai

namespace Go.Proofs.YtkcjphhjmlienaaGreatDoor.Ai
section
variable {E : Env} {P : Program} {μ : Mu} {h : Heap} {w : World}

theorem mapOf_sound (hr : HR μ h w) {m : AV} {mv : Value} {es : List (AV × AV × Nat)} (hm : VR μ m mv) (he : mapOf h m = some es) :
    ∃ es' : Array MapEntry, ER μ es es'.toList ∧ ((mv = .map none ∧ es' = #[]) ∨ ∃ r c, mv = .map (some r) ∧ w.heap[r]? = some (.map es' c)) := by
  unfold mapOf at he
  split at he
  · cases he; simp only [VR] at hm; subst hm; exact ⟨#[], .nil, .inl ⟨rfl, rfl⟩⟩
  · rename_i A
    simp only [VR] at hm
    obtain ⟨l, hA, rfl⟩ := hm
    split at he
    · rename_i es2 c hg
      cases he
      obtain ⟨es', h1, h2⟩ := hr.blk A l _ hA hg
      exact ⟨es', h2, .inr ⟨_, c, rfl, h1⟩⟩
    · simp at he
  · simp at he

theorem lookup_sound (ok : EnvOK E P) (hr : HR μ h w) {t : TypeId} {m k x : AV} {b : Bool} {mv kv : Value} (hm : VR μ m mv) (hk : VR μ k kv) (hx : lookupA E t m k b h = some x) : PV P (Instr.lookup t mv kv b) w μ x := by
  unfold lookupA at hx
  split at hx
  · rename_i kt et hu
    split at hx
    · rename_i es hes
      cases hkey : keyA E kt k with
      | false => simp [hkey] at hx
      | true =>
        simp only [hkey, cond_true] at hx
        obtain ⟨es', he, hmv⟩ := mapOf_sound hr hm hes
        unfold Instr.lookup
        have step : PV P (do
            Instr.checkKey es'.isEmpty 10000 kt kv
            let (v, ok) ← match ← Instr.findKey kt kv es'.toList with
              | some (_, v) => pure (v, true)
              | none => pure (← zeroValue et, false)
            pure (if b then Value.tuple #[v, .bool ok] else v)) w μ x := by
          have ck := checkKey_sound (w := w) ok hkey hk es'.isEmpty
          split at hx
          · rename_i i v hf
            obtain ⟨r', h1, h2⟩ := findKey_sound (w := w) ok hkey hk he hf
            cases r' with
            | none => exact absurd h2 (by simp [FR])
            | some p =>
              obtain ⟨j, v'⟩ := p
              obtain ⟨_, h3⟩ := h2
              simp only [Option.some.injEq] at hx
              refine ⟨if b then .tuple #[v', .bool true] else v', ?_, ?_⟩
              · simp only [Sem.run_bind, ck, h1, Result.andThen_ok, Sem.run_pure]
              · subst hx
                cases b
                · simpa using h3
                · simp only [cond_true, if_true, VR]
                  exact ⟨_, rfl, VRs.cons h3 (VRs.cons (by simp only [VR]) VRs.nil)⟩
          · rename_i hf
            obtain ⟨r', h1, h2⟩ := findKey_sound (w := w) ok hkey hk he hf
            cases r' with
            | some p => exact absurd h2 (by obtain ⟨_, _⟩ := p; simp [FR])
            | none =>
              split at hx
              · rename_i z hz
                obtain ⟨zv, hz1, hz2⟩ := zero_sound ok hz
                simp only [Option.some.injEq] at hx
                refine ⟨if b then .tuple #[zv, .bool false] else zv, ?_, ?_⟩
                · simp only [Sem.run_bind, ck, h1, hz1, Result.andThen_ok, Sem.run_pure]
                · subst hx
                  cases b
                  · simpa using hz2 μ
                  · simp only [cond_true, if_true, VR]
                    exact ⟨_, rfl, VRs.cons (hz2 μ) (VRs.cons (by simp only [VR]) VRs.nil)⟩
              · simp at hx
          · simp at hx
        obtain ⟨u, h1, h2⟩ := step
        refine ⟨u, ?_, h2⟩
        rw [← h1]
        simp only [Sem.run_bind, run_und (und_sound ok hu), Result.andThen_ok]
        rcases hmv with ⟨rfl, rfl⟩ | ⟨r, c, rfl, h3⟩
        · simp only [Sem.run_bind, Sem.run_pure, Result.andThen_ok]; rfl
        · simp only [Sem.run_bind, Sem.run_pure, Result.andThen_ok, MapKept.run_getObj_map h3]; rfl
    · simp at hx
  · simp at hx

theorem ER.get {es : List (AV × AV × Nat)} {es' : List MapEntry} (h : ER μ es es') : ∀ {i : Nat} {k x : AV} {b : Nat}, es[i]? = some (k, x, b) → ∃ e, es'[i]? = some e ∧ VR μ k e.key := by
  induction h with
  | nil => intro i k x b h; simp at h
  | cons hk hv h ih =>
    intro i k x b hi
    cases i with
    | zero => simp at hi; obtain ⟨rfl, rfl, rfl⟩ := hi; exact ⟨_, rfl, hk⟩
    | succ i => simp at hi; obtain ⟨e, h1, h2⟩ := ih hi; exact ⟨e, by simpa using h1, h2⟩
theorem ER.setVal {es : List (AV × AV × Nat)} {es' : List MapEntry} (h : ER μ es es') {v : AV} {kv xv : Value} (hv : VR μ v xv) : ∀ {i : Nat}, (∀ e, es'[i]? = some e → e.key = kv) → ER μ (setVal i v es) (es'.modify i fun e => { e with key := kv, val := xv }) := by
  induction h with
  | nil => intro i _; cases i <;> exact .nil
  | cons hk hx h ih =>
    intro i hi
    cases i with
    | zero =>
      have := hi _ rfl
      simp only at this
      simp only [Go.Proofs.YtkcjphhjmlienaaGreatDoor.Ai.setVal, List.modify_zero_cons]
      exact .cons (this ▸ hk) hv h
    | succ i =>
      simp only [Go.Proofs.YtkcjphhjmlienaaGreatDoor.Ai.setVal, List.modify_succ_cons]
      exact .cons hk hx (ih fun e he => hi e (by simpa using he))
theorem ER.snoc {es : List (AV × AV × Nat)} {es' : List MapEntry} (h : ER μ es es') {k v : AV} {kv xv : Value} {b : Nat} (hk : VR μ k kv) (hv : VR μ v xv) : ER μ (es ++ [(k, v, b)]) (es' ++ [⟨kv, xv, b⟩]) := by
  induction h with
  | nil => exact .cons hk hv .nil
  | cons h1 h2 _ ih => exact .cons h1 h2 ih

theorem HR.putMap (hr : HR μ h w) {A : Nat} {l : Loc} {es es2 : List (AV × AV × Nat)} {c c2 : Nat} {es' : Array MapEntry} (hA : μ A = some l) (hg : h.t.get A = some (.map es c)) (he : ER μ es2 es'.toList) :
    HR μ (h.put A (.map es2 c2)) { w with heap := w.heap.setIfInBounds l.b (.map es' c2) } ∧ Ext μ h w μ (h.put A (.map es2 c2)) { w with heap := w.heap.setIfInBounds l.b (.map es' c2) } := by
  obtain ⟨e0, hb, _⟩ := hr.blk A l _ hA hg
  have hs := MapKept.heap_set (o' := .map es' c2) hb
  have hgo : ∀ {B : Nat} {b : Blk}, (h.put A (.map es2 c2)).t.get B = some b → (B = A ∧ b = .map es2 c2) ∨ (B ≠ A ∧ h.t.get B = some b) := fun hb => Tr.get_set hb
  have hlive : ∀ {B : Nat} {b : Blk}, (h.put A (.map es2 c2)).t.get B = some b → ∃ b₀, h.t.get B = some b₀ ∧ b₀.live = b.live ∧ b₀.isRo = b.isRo := by
    intro B b hb
    rcases hgo hb with ⟨rfl, rfl⟩ | ⟨_, h1⟩
    · exact ⟨_, hg, rfl, rfl⟩
    · exact ⟨b, h1, rfl, rfl⟩
  refine ⟨⟨?_, ?_, ?_, hr.pin⟩, ⟨Mu.le_refl μ, Nat.le_refl _, fun _ _ h => .inl h, ?_, ?_, ?_, rfl, rfl, rfl⟩⟩
  · intro B k hB'; have := hr.dom B k hB'; exact ⟨this.1, by simpa using this.2⟩
  · intro B C lb lc bb bc hb hc gb gc vb vc hne heq
    obtain ⟨b₀, g0, v0, r0⟩ := hlive gb
    obtain ⟨c₀, g1, v1, r1⟩ := hlive gc
    have := hr.inj B C lb lc b₀ c₀ hb hc g0 g1 (v0.trans vb) (v1.trans vc) hne heq
    exact ⟨r0 ▸ this.1, r1 ▸ this.2⟩
  · intro B k b hB' hb
    rcases hgo hb with ⟨rfl, rfl⟩ | ⟨hne, h1⟩
    · have : k = l := by rw [hA] at hB'; cases hB'; rfl
      subst this
      exact ⟨es', hs.1, he⟩
    · by_cases hd : b.live = true
      · have hkb : k.b ≠ l.b := by
          intro e
          have := (hr.inj B A k l b _ hB' hA h1 hg hd rfl hne e).2
          simp [Blk.isRo] at this
        exact BR.heap (hs.2 _ hkb) (hr.blk B k b hB' h1)
      · cases b with
        | row cs'' st'' => cases st'' <;> simp [Blk.live] at hd; trivial
        | map => simp [Blk.live] at hd
        | siter => simp [Blk.live] at hd
  · rintro B hlt ⟨b, hb, hro⟩
    obtain ⟨b₀, g0, _, r0⟩ := hlive hb
    exact ⟨b₀, g0, r0.trans hro⟩
  · intro k hk hm
    refine hs.2 _ ?_
    intro e
    exact hm A l hA e.symm ⟨_, hg, rfl⟩
  · simp

theorem update_sound (ok : EnvOK E P) (hr : HR μ h w) {t : TypeId} {m k x : AV} {mv kv xv : Value} {h' : Heap} (hm : VR μ m mv) (hk : VR μ k kv) (hx : VR μ x xv) (hu : updateA E t m k x h = some h') :
    ∃ w', (Instr.mapUpdate t mv kv xv).run P w = .ok () w' ∧ HR μ h' w' ∧ Ext μ h w μ h' w' := by
  unfold updateA at hu
  split at hu
  · rename_i kt et A hd
    simp only [VR] at hm
    obtain ⟨l, hA, rfl⟩ := hm
    split at hu
    · rename_i es c hg
      cases hc : keyA E kt k && litA k with
      | false => simp [hc] at hu
      | true =>
        simp only [hc, cond_true] at hu
        simp only [Bool.and_eq_true] at hc
        obtain ⟨es', hb, he⟩ := hr.blk A l _ hA hg
        have ck := checkKey_sound (w := w) ok hc.1 hk false
        split at hu
        · rename_i i v hf
          obtain ⟨r', h1, h2⟩ := findKey_sound (w := w) ok hc.1 hk he hf
          cases r' with
          | none => exact absurd h2 (by simp [FR])
          | some p =>
            obtain ⟨j, v'⟩ := p
            obtain ⟨rfl, h3⟩ := h2
            simp only [Option.some.injEq] at hu
            obtain ⟨_, b, h4⟩ := findA_spec hf
            obtain ⟨e, h5, h6⟩ := he.get (by simpa using h4)
            obtain ⟨h7, h8⟩ := lit_det hc.2 h6 hk
            have h5' : es'[i]? = some e := by simpa using h5
            have hput := hr.putMap (c2 := c) (es' := es'.modify i fun e => { e with key := kv, val := xv }) hA hg (he.setVal (i := i) hx (kv := kv) (fun e' h9 => by
              have : e' = e := by rw [h5] at h9; cases h9; rfl
              rw [this, h7]) |> fun h => by simpa [Array.toList_modify] using h)
            rw [hu] at hput
            refine ⟨_, ?_, hput.1, hput.2⟩
            unfold Instr.mapUpdate
            simp only [Sem.run_bind, run_und (und_sound ok hd), Result.andThen_ok, MapKept.run_getObj_map hb, ck, h1]
            simp only [h5', Option.map_some, Option.getD_some, h7, Instr.keyThatStays, h7 ▸ h8, if_true, Sem.run_pure, Result.andThen_ok, MapKept.run_setObj_map _ hb]
        · rename_i hf
          obtain ⟨r', h1, h2⟩ := findKey_sound (w := w) ok hc.1 hk he hf
          cases r' with
          | some p => exact absurd h2 (by obtain ⟨_, _⟩ := p; simp [FR])
          | none =>
            simp only [Option.some.injEq] at hu
            have hput := hr.putMap (c2 := c + 1) (es' := es'.push ⟨kv, xv, c⟩) hA hg (by simpa using he.snoc (b := c) hk hx)
            rw [hu] at hput
            refine ⟨_, ?_, hput.1, hput.2⟩
            unfold Instr.mapUpdate
            simp only [Sem.run_bind, run_und (und_sound ok hd), Result.andThen_ok, MapKept.run_getObj_map hb, ck, h1, MapKept.run_setObj_map _ hb]
        · simp at hu
    · simp at hu
  · simp at hu
end
end Go.Proofs.YtkcjphhjmlienaaGreatDoor.Ai

namespace Go.Proofs.YtkcjphhjmlienaaGreatDoor.Ai
section
variable {E : Env} {P : Program} {μ : Mu} {h : Heap} {w : World} {nt : Nat} {fr : Fr} {a : Act}
/-- what an operation comes to, at the machine -/
def DN (P : Program) (s : Sem Next) (μ : Mu) (h : Heap) (w : World) (x : AV) (h' : Heap) : Prop :=
  ∃ μ' n u w', s.run P w = .ok n w' ∧ (n = .value u ∨ (n = .skip ∧ u = undef)) ∧ VR μ' x u ∧ HR μ' h' w' ∧ Ext μ h w μ' h' w'
theorem DV.dn {s : Sem Value} {x : AV} {h' : Heap} (hd : DV P s μ h w x h') : DN P (do pure (.value (← s))) μ h w x h' := by
  obtain ⟨μ', u, w', h1, h2⟩ := hd
  exact ⟨μ', .value u, u, w', run_bind_ok h1, .inl rfl, h2⟩
theorem PV.dn {s : Sem Value} {x : AV} (hp : PV P s w μ x) (hr : HR μ h w) : DN P (do pure (.value (← s))) μ h w x h := (hp.dv hr).dn
theorem parts_sound (ha : AR μ nt fr a) : ∀ {ps : List (Nat × Operand)} {l : List (Nat × AV)}, partsA fr ps = some l → PR μ l (ps.map fun (i, x) => (i, a.eval x))
  | [], l, h => by simp [partsA] at h; subst h; simp [PR]
  | (i, x) :: r, l, h => by
    simp only [partsA] at h
    cases ho : opnd fr x with
    | none => simp [ho] at h
    | some v =>
      simp only [ho] at h
      cases hp : partsA fr r with
      | none => simp [hp] at h
      | some l' =>
        simp [hp] at h; subst h
        simp only [PR]
        exact ⟨a.eval x, _, rfl, opnd_sound ha ho, parts_sound ha hp⟩
theorem op1_spec {x : Operand} {f : AV → Option (AV × Heap)} {r : AV × Heap} (hx : op1 fr x f = some r) : ∃ v, opnd fr x = some v ∧ f v = some r := by
  unfold op1 at hx
  cases ho : opnd fr x with
  | none => simp [ho] at hx
  | some v => simp [ho] at hx; exact ⟨v, rfl, hx⟩
theorem op2_spec {x y : Operand} {f : AV → AV → Option (AV × Heap)} {r : AV × Heap} (hx : op2 fr x y f = some r) : ∃ v u, opnd fr x = some v ∧ opnd fr y = some u ∧ f v u = some r := by
  unfold op2 at hx
  cases ho : opnd fr x with
  | none => simp [ho] at hx
  | some v =>
    simp only [ho] at hx
    cases hq : opnd fr y with
    | none => simp [hq] at hx
    | some u => simp [hq] at hx; exact ⟨v, u, rfl, rfl, hx⟩
theorem op3_spec {x y z : Operand} {f : AV → AV → AV → Option (AV × Heap)} {r : AV × Heap} (hx : op3 fr x y z f = some r) : ∃ v u q, opnd fr x = some v ∧ opnd fr y = some u ∧ opnd fr z = some q ∧ f v u q = some r := by
  unfold op3 at hx
  cases ho : opnd fr x with
  | none => simp [ho] at hx
  | some v =>
    simp only [ho] at hx
    cases hq : opnd fr y with
    | none => simp [hq] at hx
    | some u =>
      simp only [hq] at hx
      cases hz : opnd fr z with
      | none => simp [hz] at hx
      | some q => simp [hz] at hx; exact ⟨v, u, q, rfl, rfl, rfl, hx⟩
theorem opt_sound (ha : AR μ nt fr a) {x : Option Operand} {v : Option AV} (hx : optA fr x = some v) : OR μ v (x.map a.eval) := by
  cases x with
  | none => simp [optA] at hx; subst hx; trivial
  | some y =>
    simp only [optA] at hx
    cases ho : opnd fr y with
    | none => simp [ho] at hx
    | some u => simp [ho] at hx; subst hx; exact opnd_sound ha ho

theorem op_sound (ok : EnvOK E P) (hr : HR μ h w) (ha : AR μ nt fr a) {o : Oper} {x : AV} {h' : Heap} (hx : opA E fr o.op h = some (x, h')) : DN P (execOp a.eval o) μ h w x h' := by
  obtain ⟨dst, op, type, pos, after, guard⟩ := o
  simp only at hx
  cases op <;> simp only [opA, reduceCtorEq] at hx
  case move y =>
    obtain ⟨h1, rfl⟩ := sameA_spec hx
    exact ⟨μ, _, _, w, rfl, .inl rfl, opnd_sound ha h1, hr, Ext.refl μ _ w⟩
  case assign y =>
    obtain ⟨h1, rfl⟩ := sameA_spec hx
    exact ⟨μ, _, _, w, rfl, .inl rfl, opnd_sound ha h1, hr, Ext.refl μ _ w⟩
  case pick c y z =>
    obtain ⟨v, h1, h2⟩ := op1_spec hx
    have hv := opnd_sound ha h1
    split at h2
    · obtain ⟨h3, rfl⟩ := sameA_spec h2
      simp only [VR] at hv
      exact ⟨μ, .value (a.eval y), _, w, by simp [execOp, hv, asBool], .inl rfl, opnd_sound ha h3, hr, Ext.refl μ _ w⟩
    · obtain ⟨h3, rfl⟩ := sameA_spec h2
      simp only [VR] at hv
      exact ⟨μ, .value (a.eval z), _, w, by simp [execOp, hv, asBool], .inl rfl, opnd_sound ha h3, hr, Ext.refl μ _ w⟩
    · simp at h2
  case alloc e =>
    cases hz : E.zero e with
    | none => simp [hz] at hx
    | some z =>
      simp only [hz, Option.some.injEq] at hx
      simp only [Prod.mk.injEq] at hx
      obtain ⟨rfl, rfl⟩ := hx
      cases ht : E.trk e with
      | false => exact (alloc_sound (P := P) ok hr hz).dn
      | true => exact (allocT_sound (P := P) ok hr hz).dn
  case box e y =>
    obtain ⟨v, h1, h2⟩ := op1_spec hx
    simp only [Option.some.injEq, Prod.mk.injEq] at h2
    obtain ⟨rfl, rfl⟩ := h2
    cases ht : E.trk e with
    | false => exact (box_sound (P := P) (e := e) hr (opnd_sound ha h1)).dn
    | true => exact (boxT_sound (P := P) (e := e) hr (opnd_sound ha h1)).dn
  case build t ps =>
    cases hp : partsA fr ps.toList with
    | none => simp [hp] at hx
    | some l =>
      simp only [hp] at hx
      obtain ⟨h1, rfl⟩ := sameA_spec hx
      exact (build_sound (P := P) (w := w) (parts' := ps.map fun (i, x) => (i, a.eval x)) ok (by simpa using parts_sound ha hp) h1).dn hr
  case buildSlice t len ps =>
    cases hp : partsA fr ps.toList with
    | none => simp [hp] at hx
    | some l =>
      simp only [hp] at hx
      have hps : PR μ l (ps.map fun (i, x) => (i, a.eval x)).toList := by simpa using parts_sound ha hp
      have hb := (buildSlice_sound (P := P) ok hr hps hx).dn
      clear hx
      simp only [execOp]
      exact hb
  case load t y =>
    obtain ⟨v, h1, h2⟩ := op1_spec hx
    obtain ⟨h3, rfl⟩ := sameA_spec h2
    obtain ⟨u, h4, h5⟩ := loadAt_sound (P := P) ok hr (opnd_sound ha h1) h3
    exact PV.dn ⟨u, h4, h5⟩ hr
  case store t y z =>
    obtain ⟨v, u, h1, h2, h3⟩ := op2_spec hx
    cases hs : storeA E h t v u with
    | none => simp [hs, unit] at h3
    | some h2' =>
      simp only [hs, unit, Option.some.injEq, Prod.mk.injEq] at h3
      obtain ⟨rfl, rfl⟩ := h3
      obtain ⟨w', h4, h5, h6⟩ := storeAt_sound (P := P) ok hr (opnd_sound ha h1) (opnd_sound ha h2) hs
      exact ⟨μ, .skip, undef, w', run_bind_ok h4, .inr ⟨rfl, rfl⟩, by simp only [undefA, VR]; exact ⟨#[], rfl, VRs.nil⟩, h5, h6⟩
  case nilCheck y =>
    obtain ⟨v, h1, h2⟩ := op1_spec hx
    obtain ⟨h3, rfl⟩ := sameA_spec h2
    obtain ⟨h4, h5⟩ := nilCheck_sound (P := P) (w := w) h3 (opnd_sound ha h1) a.eval ⟨dst, .nilCheck y, type, pos, after, guard⟩ y rfl rfl
    exact ⟨μ, _, _, w, h4, .inl rfl, h5, hr, Ext.refl μ _ w⟩
  case binOp op t y z yt =>
    obtain ⟨v, u, h1, h2, h3⟩ := op2_spec hx
    obtain ⟨h4, rfl⟩ := sameA_spec h3
    have hb := bin_sound (P := P) (w := w) (xo := y) (yo := z) ok h4 (opnd_sound ha h1) (opnd_sound ha h2)
    have hb' := hb.dn hr
    clear hb h4
    simp only [execOp]
    exact hb'
  case unOp op t y =>
    obtain ⟨v, h1, h2⟩ := op1_spec hx
    obtain ⟨h3, rfl⟩ := sameA_spec h2
    exact (un_sound (P := P) (w := w) h3 (opnd_sound ha h1)).dn hr
  case convert s d y =>
    obtain ⟨v, h1, h2⟩ := op1_spec hx
    exact (conv_sound (P := P) ok hr (opnd_sound ha h1) h2).dn
  case makeInterface t y =>
    split at hx
    · simp at hx
    · rename_i d n1 hu
      obtain ⟨v, h1, h2⟩ := op1_spec hx
      simp only [Option.some.injEq, Prod.mk.injEq] at h2
      obtain ⟨rfl, rfl⟩ := h2
      refine PV.dn ⟨.iface t (a.eval y), ?_, by simp only [VR]; exact ⟨_, rfl, opnd_sound ha h1⟩⟩ hr
      unfold Instr.makeInterface
      refine (run_bind_ok (P := P) (run_und (und_sound ok hu))).trans ?_
      cases d <;> first | rfl | exact absurd rfl (n1 _)
    · simp at hx
  case makeFunc fn first captured =>
    cases h1 : opnds fr first.toList with
    | none => simp [h1] at hx
    | some l =>
      cases h2 : opnds fr captured.toList with
      | none => simp [h1, h2] at hx
      | some m =>
        simp only [h1, h2, Option.some.injEq, Prod.mk.injEq] at hx
        obtain ⟨rfl, rfl⟩ := hx
        refine PV.dn ⟨.func fn (first.map a.eval) (captured.map a.eval), rfl, ?_⟩ hr
        simp only [VR]
        exact ⟨_, _, rfl, by simpa using opnds_sound ha h1, by simpa using opnds_sound ha h2⟩
  case makeMap t rs =>
    cases rs with
    | some r => simp at hx
    | none =>
      simp only [Option.some.injEq, Prod.mk.injEq] at hx
      obtain ⟨rfl, rfl⟩ := hx
      exact (makeMap_sound (P := P) (t := t) hr).dn
  case lookup t m k b =>
    obtain ⟨v, u, h1, h2, h3⟩ := op2_spec hx
    obtain ⟨h4, rfl⟩ := sameA_spec h3
    exact (lookup_sound (P := P) ok hr (opnd_sound ha h1) (opnd_sound ha h2) h4).dn hr
  case mapUpdate t m k y =>
    obtain ⟨v, u, q, h1, h2, h3, h4⟩ := op3_spec hx
    cases hs : updateA E t v u q h with
    | none => simp [hs, unit] at h4
    | some h2' =>
      simp only [hs, unit, Option.some.injEq, Prod.mk.injEq] at h4
      obtain ⟨rfl, rfl⟩ := h4
      obtain ⟨w', h4, h5, h6⟩ := update_sound (P := P) ok hr (opnd_sound ha h1) (opnd_sound ha h2) (opnd_sound ha h3) hs
      exact ⟨μ, .skip, undef, w', run_bind_ok h4, .inr ⟨rfl, rfl⟩, by simp only [undefA, VR]; exact ⟨#[], rfl, VRs.nil⟩, h5, h6⟩
  case insert t m k y =>
    obtain ⟨v, u, q, h1, h2, h3, h4⟩ := op3_spec hx
    cases hs : updateA E t v u q h with
    | none => simp [hs, unit] at h4
    | some h2' =>
      simp only [hs, unit, Option.some.injEq, Prod.mk.injEq] at h4
      obtain ⟨rfl, rfl⟩ := h4
      obtain ⟨w', h4, h5, h6⟩ := update_sound (P := P) ok hr (opnd_sound ha h1) (opnd_sound ha h2) (opnd_sound ha h3) hs
      exact ⟨μ, .skip, undef, w', run_bind_ok h4, .inr ⟨rfl, rfl⟩, by simp only [undefA, VR]; exact ⟨#[], rfl, VRs.nil⟩, h5, h6⟩
  case makeSlice t l c =>
    obtain ⟨v, u, h1, h2, h3⟩ := op2_spec hx
    exact (makeSlice_sound (P := P) ok hr (opnd_sound ha h1) (opnd_sound ha h2) h3).dn
  case slice t y lo hi mx =>
    cases mx with
    | some m => simp at hx
    | none =>
      simp only at hx
      cases h1 : optA fr lo with
      | none => simp [h1] at hx
      | some lo' =>
        cases h2 : optA fr hi with
        | none => simp [h1, h2] at hx
        | some hi' =>
          simp only [h1, h2] at hx
          obtain ⟨v, h3, h4⟩ := op1_spec hx
          obtain ⟨h5, rfl⟩ := sameA_spec h4
          exact (slice_sound (P := P) ok hr (opt_sound ha h1) (opt_sound ha h2) (opnd_sound ha h3) h5).dn hr
  case fieldAddr s y f =>
    obtain ⟨v, h1, h2⟩ := op1_spec hx
    obtain ⟨h3, rfl⟩ := sameA_spec h2
    exact (fieldAddr_sound (P := P) (w := w) ok (opnd_sound ha h1) h3).dn hr
  case field t y f =>
    obtain ⟨v, h1, h2⟩ := op1_spec hx
    obtain ⟨h3, rfl⟩ := sameA_spec h2
    exact (field_sound (P := P) (w := w) ok (opnd_sound ha h1) h3).dn hr
  case indexAddr t y z =>
    obtain ⟨v, u, h1, h2, h3⟩ := op2_spec hx
    obtain ⟨h4, rfl⟩ := sameA_spec h3
    exact (indexAddr_sound (P := P) (w := w) ok (opnd_sound ha h1) (opnd_sound ha h2) h4).dn hr
  case index t y z =>
    obtain ⟨v, u, h1, h2, h3⟩ := op2_spec hx
    obtain ⟨h4, rfl⟩ := sameA_spec h3
    exact (index_sound (P := P) (w := w) ok (opnd_sound ha h1) (opnd_sound ha h2) h4).dn hr
  case typeAssert y xt t b =>
    obtain ⟨v, h1, h2⟩ := op1_spec hx
    obtain ⟨h3, rfl⟩ := sameA_spec h2
    exact (assert_sound (P := P) (w := w) ok (opnd_sound ha h1) h3).dn hr
  case extract t i =>
    obtain ⟨v, h1, h2⟩ := op1_spec hx
    have hv := opnd_sound ha h1
    split at h2
    · obtain ⟨h3, rfl⟩ := sameA_spec h2
      simp only [VR] at hv
      obtain ⟨vs', hv1, hv2⟩ := hv
      obtain ⟨y, h4, h5⟩ := hv2.get h3
      refine PV.dn ⟨y, ?_, h5⟩ hr
      have : vs'[i]? = some y := by simpa using h4
      simp [Instr.extract, hv1, this]
    · simp at h2
end
end Go.Proofs.YtkcjphhjmlienaaGreatDoor.Ai

namespace Go.Proofs.YtkcjphhjmlienaaGreatDoor.Ai
section
variable {E : Env} {P : Program} {μ : Mu} {h : Heap} {w : World} {nt : Nat} {fr : Fr} {a : Act}

theorem cons_get0 (x : Value) (l : Array Value) : (#[x] ++ l)[0]? = some x := by
  rw [Array.getElem?_append_left (by simp)]; rfl
theorem cons_rest (x : Value) (l : Array Value) : (#[x] ++ l).extract 1 (#[x] ++ l).size = l := by
  apply Array.ext'
  rw [Array.toList_extract]
  simp
  exact List.take_of_length_le (by simp)
/-- what a call's answer leaves -/
def Post (μ : Mu) (h : Heap) (w : World) (v : AV) (h' : Heap) (u : Value) (w' : World) : Prop := ∃ μ', VR μ' v u ∧ HR μ' h' w' ∧ Ext μ h w μ' h' w'
/-- a call that the evaluator answers is so answered at the machine -/
def CallOK (P : Program) (call : CallF) : Prop := ∀ f args h v h', call f args h = some (v, h') → ∀ μ w (args' : Array Value), HR μ h w → VRs μ args args'.toList →
  (∃ u w', (callFunc f args').run P w = .ok (.value u) w' ∧ Post μ h w v h' u w') ∨
  ((callFunc f args').run P w = .ok (.enter f args') w ∧ Calls P f args' w fun e w' => ∃ u, e = .returned u ∧ Post μ h w v h' u w')

theorem method_sound (ok : EnvOK E P) (hr : HR μ h w) {t : TypeId} {v : AV} {vu : Value} {name : String} {args : List AV} {args' : Array Value} {tg : Tgt} (hv : VR μ v vu) (ha : VRs μ args args'.toList)
    (hx : methodA E h t v name args = some tg) : ∃ f args2 args2', tg = .fn f args2 ∧ VRs μ args2 args2'.toList ∧ (callMethod (.iface t vu) name args').run P w = (callFunc f args2').run P w := by
  unfold methodA at hx
  cases hi : E.info t with
  | none => simp [hi] at hx
  | some i =>
    simp only [hi] at hx
    cases hm : i.methods.find? (·.name == name) with
    | none => simp [hm] at hx
    | some m =>
      simp only [hm] at hx
      have hinfo := ok.info t i hi
      split at hx
      · rename_i f ptr hpath hfunc
        have hempty : m.path = #[] := by
          apply Array.ext'; simpa using hpath
        have hfol : (follow m.path.toList t (.val vu)).run P w = .ok (t, .val vu) w := by rw [hempty]; rfl
        have hdep : 0 < Made.depth := by decide
        obtain ⟨k, hk⟩ : ∃ k, P.types.size + Made.depth = k + 1 := ⟨P.types.size + Made.depth - 1, by omega⟩
        have hcall : ∀ (r : Value), (receiverAt t (.val vu) ptr (if m.path.isEmpty then some ((name.splitOn ".").getLastD name) else none)).run P w = .ok r w →
            (callMethod (.iface t vu) name args').run P w = (callFunc f (#[r] ++ args')).run P w := by
          intro r hrr
          unfold callMethod
          refine (run_bind_ok (P := P) (a := P) (w' := w) rfl).trans ?_
          rw [hk]
          refine (run_bind_ok (P := P) (a := (f, r)) (w' := w) ?_).trans rfl
          unfold method
          refine (run_bind_ok (P := P) (run_info hinfo)).trans ?_
          rw [hm]
          refine (run_bind_ok (P := P) hfol).trans ?_
          simp only [hfunc]
          exact (run_bind_ok (P := P) hrr).trans rfl
        split at hx
        · rename_i e hu
          simp only [Option.some.injEq] at hx
          subst hx
          refine ⟨f, v :: args, #[vu] ++ args', rfl, by simpa using VRs.cons hv ha, hcall vu ?_⟩
          unfold receiverAt
          exact (run_bind_ok (P := P) (run_und (und_sound ok hu))).trans rfl
        · rename_i e hu
          cases hl : loadA E h e v with
          | none => simp [hl] at hx
          | some x =>
            simp only [hl, Option.some.injEq] at hx
            subst hx
            obtain ⟨ad, y, rfl, h1, h2⟩ := loadVar_sound (P := P) ok hr hv hl
            refine ⟨f, x :: args, #[y] ++ args', rfl, by simpa using VRs.cons h2 ha, hcall y ?_⟩
            unfold receiverAt
            refine (run_bind_ok (P := P) (run_und (und_sound ok hu))).trans ?_
            refine (run_bind_ok (P := P) (a := .pointer (some ad)) (w' := w) rfl).trans ?_
            rw [hempty]
            refine (run_bind_ok (P := P) (a := .pointer (some ad)) (w' := w) ?_).trans ?_
            · rfl
            · exact (run_bind_ok (P := P) (a := ad) (w' := w) rfl).trans h1
        · rename_i d n1 hu
          simp only [Option.some.injEq] at hx
          subst hx
          refine ⟨f, v :: args, #[vu] ++ args', rfl, by simpa using VRs.cons hv ha, hcall vu ?_⟩
          unfold receiverAt
          refine (run_bind_ok (P := P) (run_und (und_sound ok hu))).trans ?_
          cases d <;> first | rfl | exact absurd rfl (n1 _)
        · simp at hx
      · simp at hx

/-- an operation, at the machine -/
theorem one_wp (ok : EnvOK E P) {call : CallF} (hcall : CallOK P call) (hr : HR μ h w) (ha : AR μ nt fr a) {o : Oper} {x : AV} {h' : Heap} (hx : oneA E call fr o.op h = some (x, h'))
    {next : Act → World → Prop} {Q : Exit → Act → World → Prop} (hn : ∀ μ' u w', VR μ' x u → HR μ' h' w' → Ext μ h w μ' h' w' → next (a.put o.dst u) w') : o.wp P a w next Q := by
  have plain : ∀ {s : Sem Next}, execOp a.eval o = s → DN P s μ h w x h' → o.wp P a w next Q := by
    intro s hs hd
    obtain ⟨μ', n, u, w', h1, h2, h3, h4, h5⟩ := hd
    unfold Oper.wp
    rw [hs, h1]
    rcases h2 with rfl | ⟨rfl, rfl⟩
    · rw [Oper.upon_value]; exact hn μ' u w' h3 h4 h5
    · rw [Oper.upon_skip]; exact hn μ' undef w' h3 h4 h5
  unfold oneA at hx
  split at hx
  · rename_i c hop
    -- a call's end
    have fin : ∀ {f : FuncId} {args : List AV} {args' : Array Value}, call f args h = some (x, h') → VRs μ args args'.toList → (execOp a.eval o).run P w = (callFunc f args').run P w → o.wp P a w next Q := by
      intro f args args' hc hv he
      unfold Oper.wp
      rw [he]
      rcases hcall f args h x h' hc μ w args' hr hv with ⟨u, w', h1, μ', h2, h3, h4⟩ | ⟨h1, h2⟩
      · rw [h1, Oper.upon_value]; exact hn μ' u w' h2 h3 h4
      · rw [h1, Oper.upon_enter]
        refine Calls.mono h2 ?_
        rintro e w' ⟨u, rfl, μ', h3, h4, h5⟩
        exact hn μ' u w' h3 h4 h5
    have hexec : execOp a.eval o = (do let d ← resolve a.eval c o.type; invoke d.target d.args) := by
      simp only [execOp, hop]
    unfold tgtA at hx
    cases hargs : opnds fr c.args.toList with
    | none => simp [hargs] at hx
    | some args =>
      have hva : VRs μ args (c.args.map a.eval).toList := by simpa using opnds_sound ha hargs
      simp only [hargs] at hx
      cases hcal : c.callee with
      | builtin b =>
        simp only [hcal] at hx
        cases hb : builtinA E b c.argTypes.toList args h with
        | none => simp [hb] at hx
        | some p =>
          obtain ⟨v, h2⟩ := p
          simp only [hb, Option.some.injEq, Prod.mk.injEq] at hx
          obtain ⟨rfl, rfl⟩ := hx
          obtain ⟨s, h3, h4⟩ := builtin_sound (P := P) (ty := o.type) (cst := c.args.map fun | .const _ => true | _ => false) ok hr hva hb
          refine plain (s := do pure (.value (← s))) ?_ h4.dn
          rw [hexec]
          simp only [resolve, hcal]
          rw [pure_bind]
          exact h3
      | invoke recv name =>
        simp only [hcal] at hx
        cases hrc : opnd fr recv with
        | none => simp [hrc] at hx
        | some rv =>
          have hrv := opnd_sound ha hrc
          cases rv <;> simp only [hrc, reduceCtorEq] at hx
          rename_i t v
          simp only [VR] at hrv
          obtain ⟨vu, hev, hrv⟩ := hrv
          cases hm : methodA E h t v name args with
          | none => simp [hm] at hx
          | some tg =>
            obtain ⟨f, args2, args2', rfl, h1, h2⟩ := method_sound (P := P) ok hr hrv hva hm
            simp only [hm] at hx
            refine fin hx h1 ?_
            rw [hexec, ← h2]
            simp only [resolve, hcal, hev]
            rw [pure_bind]
            simp only [invoke]
            rw [cons_get0, cons_rest]
      | value f =>
        simp only [hcal] at hx
        cases hfc : opnd fr f with
        | none => simp [hfc] at hx
        | some fv =>
          have hfv := opnd_sound ha hfc
          cases fv <;> simp only [hfc, reduceCtorEq] at hx
          rename_i fn first captured
          simp only [VR] at hfv
          obtain ⟨first', captured', hev, hf1, hf2⟩ := hfv
          cases fn <;> simp only [reduceCtorEq] at hx
          case func g =>
            refine fin (args' := first' ++ Array.map a.eval c.args ++ captured') hx ?_ ?_
            · simpa using VRs.append (VRs.append hf1 (by simpa using hva)) hf2
            · rw [hexec]
              simp only [resolve, hcal, hev, Deferred.ofValue]
              rfl
          case method name =>
            cases hl : first ++ args with
            | nil => simp [hl] at hx
            | cons r0 r =>
              cases r0 <;> simp only [hl, reduceCtorEq] at hx
              rename_i t v
              have hall : VRs μ (first ++ args) (first' ++ Array.map a.eval c.args).toList := by simpa using VRs.append hf1 (by simpa using hva)
              rw [hl] at hall
              simp only [VRs] at hall
              obtain ⟨y, ys, hy, hy1, hy2⟩ := hall
              simp only [VR] at hy1
              obtain ⟨vu, rfl, hrv⟩ := hy1
              cases hm : methodA E h t v name r with
              | none => simp [hm] at hx
              | some tg =>
                obtain ⟨g, args2, args2', rfl, h1, h2⟩ := method_sound (P := P) (args' := ys.toArray) ok hr hrv (by simpa using hy2) hm
                simp only [hm] at hx
                refine fin hx h1 ?_
                rw [hexec, ← h2]
                simp only [resolve, hcal, hev, Deferred.ofValue]
                rw [pure_bind]
                have hA : first' ++ Array.map a.eval c.args = #[Value.iface t vu] ++ ys.toArray := by
                  apply Array.ext'; rw [hy]; simp
                simp only [hA, invoke]
                rw [cons_get0, cons_rest]
  · exact plain rfl (op_sound (P := P) ok hr ha hx)

theorem wanted_sound {ops : Array Oper} (ha : AR μ nt fr a) {o : Oper} {b : Bool} (hw : wantedA ops.toList fr o = some b) : Region.wanted o (yielded ops a.tmps) = b := by
  unfold wantedA at hw
  unfold Region.wanted
  cases hg : o.guard with
  | none => simp [hg] at hw; subst hw; rfl
  | some p =>
    obtain ⟨j, want⟩ := p
    simp only [hg] at hw ⊢
    cases hy : yieldedA ops.toList fr j with
    | none =>
      simp only [hy] at hw
      cases hu : unrunA ops.toList fr j with
      | false => simp [hu] at hw
      | true =>
        simp only [hu, cond_true, Option.some.injEq] at hw
        subst hw
        unfold unrunA at hu
        split at hu
        · rename_i oj ho
          split at hu
          · rename_i d hd
            split at hu
            · rename_i hf
              have hs := ha.slot d _ hf
              simp only [VR] at hs
              obtain ⟨us, hs, hu2⟩ := hs
              have ho' : ops[j]? = some oj := by simpa using ho
              have hyy : yielded ops a.tmps j = none := by
                unfold yielded
                simp only [ho', hd, Option.bind_some]
                split
                · rename_i b hb
                  rcases Nat.lt_or_ge d a.tmps.size with h1 | h1
                  · rw [Array.getElem?_eq_getElem h1] at hb
                    simp [Array.getD, h1] at hs
                    rw [hs] at hb; simp at hb
                  · rw [Array.getElem?_eq_none h1] at hb; cases hb
                · rfl
              rw [hyy]; rfl
            · cases hu
          · cases hu
        · cases hu
    | some c =>
      simp only [hy, Option.some.injEq] at hw
      unfold yieldedA at hy
      cases ho : ops.toList[j]? with
      | none => simp [ho] at hy
      | some oj =>
        simp only [ho] at hy
        cases hd : oj.dst with
        | none => simp [hd] at hy
        | some d =>
          simp only [hd] at hy
          cases hf : fr.get d with
          | none => simp [hf] at hy
          | some v =>
            cases v <;> simp only [hf, Option.some.injEq, reduceCtorEq] at hy
            subst hy
            rename_i c
            have hs := ha.slot d _ hf
            simp only [VR] at hs
            have ho' : ops[j]? = some oj := by simpa using ho
            have ht : a.tmps[d]? = some (.bool c) := by
              rcases Nat.lt_or_ge d a.tmps.size with h1 | h1
              · rw [Array.getElem?_eq_getElem h1]
                simp [Array.getD, h1] at hs
                rw [hs]
              · simp [Array.getD, Nat.not_lt.2 h1, undef] at hs
            have hyy : yielded ops a.tmps j = some c := by
              unfold yielded; simp [ho', hd, ht]
            rw [hyy, ← hw]
            cases c <;> cases want <;> rfl

theorem step_wp (ok : EnvOK E P) {call : CallF} (hcall : CallOK P call) (hr : HR μ h w) (ha : AR μ nt fr a) {ops : Array Oper} {o : Oper} {x : AV} {h' : Heap} (hx : stepA E call ops.toList fr o h = some (x, h'))
    {next : Act → World → Prop} {Q : Exit → Act → World → Prop} (hn : ∀ μ' u w', VR μ' x u → HR μ' h' w' → Ext μ h w μ' h' w' → next (a.put o.dst u) w') :
    (if Region.wanted o (yielded ops a.tmps) then o.wp P a w next Q ∨ (o.asks P a w ∧ LetsOut Q) else next (a.put o.dst undef) w) := by
  unfold stepA at hx
  split at hx
  · rename_i hw
    rw [wanted_sound ha hw]
    simp only [if_true]
    exact .inl (one_wp ok hcall hr ha hx hn)
  · rename_i hw
    rw [wanted_sound ha hw]
    simp only [Option.some.injEq, Prod.mk.injEq] at hx
    obtain ⟨rfl, rfl⟩ := hx
    simp only [Bool.false_eq_true, if_false]
    exact hn μ undef w (by simp only [undefA, VR]; exact ⟨#[], rfl, VRs.nil⟩) hr (Ext.refl μ h w)
  · simp at hx

theorem evOps_wp (ok : EnvOK E P) {call : CallF} (hcall : CallOK P call) {ops : Array Oper} {Q : Exit → Act → World → Prop} : ∀ (m k : Nat) (μ : Mu) (h : Heap) (w : World) (fr : Fr) (a : Act) (fr' : Fr) (h' : Heap), k + m = ops.size →
    evOps E call nt ops.toList (ops.toList.drop k) fr h = some (fr', h') → HR μ h w → AR μ nt fr a →
    (∀ μ' a' w', AR μ' nt fr' a' → HR μ' h' w' → Ext μ h w μ' h' w' → Q .normal a' w') → wpOps P ops Q (List.range' k m) a w := by
  intro m
  induction m with
  | zero =>
    intro k μ h w fr a fr' h' hk hx hr ha hq
    have : ops.toList.drop k = [] := List.drop_eq_nil_of_le (by simp; omega)
    rw [this] at hx
    simp only [evOps, Option.some.injEq, Prod.mk.injEq] at hx
    obtain ⟨rfl, rfl⟩ := hx
    simp only [List.range'_zero, wpOps]
    exact hq μ a w ha hr (Ext.refl μ h w)
  | succ m ih =>
    intro k μ h w fr a fr' h' hk hx hr ha hq
    have hlt : k < ops.size := by omega
    have hlt' : k < ops.toList.length := by simpa using hlt
    rw [List.drop_eq_getElem_cons hlt'] at hx
    simp only [evOps, Array.getElem_toList] at hx
    cases hs : stepA E call ops.toList fr ops[k] h with
    | none => rw [hs] at hx; simp at hx
    | some p =>
      obtain ⟨v, h1⟩ := p
      rw [hs] at hx
      have ho : ops[k]? = some ops[k] := by simp [hlt]
      simp only [List.range'_succ, wpOps, ho]
      refine step_wp ok hcall hr ha hs ?_
      intro μ' u w' hv hr' hext
      refine ih (k + 1) μ' h1 w' _ _ fr' h' (by omega) hx hr' ((ha.mono hext.mono).put _ hv) ?_
      intro μ2 a2 w2 ha2 hr2 hext2
      exact hq μ2 a2 w2 ha2 hr2 (Ext.trans hr hext hext2)
end
end Go.Proofs.YtkcjphhjmlienaaGreatDoor.Ai

namespace Go.Proofs.YtkcjphhjmlienaaGreatDoor.Ai
/-! ### equal values -/

/-! ### a frame of which some slots alone are kept -/
namespace Tr
variable {α : Type}
def restrict (keep : Nat → Bool) : Tr α → Tr α
  | nil => nil
  | node l v r => node (restrictL (fun m => keep (2 * m + 1)) l) (bif keep 0 then v else none) (restrictL (fun m => keep (2 * m + 2)) r)
where restrictL (keep : Nat → Bool) : Tr α → Tr α
  | nil => nil
  | node l v r => node (restrictL (fun m => keep (2 * m + 1)) l) (bif keep 0 then v else none) (restrictL (fun m => keep (2 * m + 2)) r)
theorem get_restrict : ∀ (t : Tr α) (keep : Nat → Bool) (n : Nat), (restrict.restrictL keep t).get n = bif keep n then t.get n else none := by
  intro t
  induction t with
  | nil => intro keep n; simp [restrict.restrictL, get]
  | node l v r ihl ihr =>
    intro keep n
    simp only [restrict.restrictL, get]
    by_cases hn : n = 0
    · subst hn; simp only [show Nat.beq 0 0 = true from rfl, cond_true]
    · rw [bf hn]; simp only [cond_false]
      by_cases hp : n % 2 = 1
      · rw [bt hp]; simp only [cond_true]; rw [ihl]
        rw [show 2 * (n / 2) + 1 = n from by omega]
      · rw [bf hp]; simp only [cond_false]; rw [ihr]
        rw [show 2 * (n / 2 - 1) + 2 = n from by omega]
end Tr

section
variable {E : Env} {P : Program} {call : CallF} {fr fr2 : Fr}
theorem memL_iff {n : Nat} : ∀ {l : List Nat}, memL n l = true ↔ n ∈ l
  | [] => by simp [memL]
  | x :: r => by
    simp only [memL]
    by_cases h : x = n
    · subst h; rw [bt rfl]; simp
    · rw [bf h]; simp only [cond_false, List.mem_cons]; rw [memL_iff]
      exact ⟨.inr, fun h' => h'.resolve_left (fun e => h e.symm)⟩
theorem flatL_mem : ∀ {l : List Operand} {t : Nat}, Operand.tmp t ∈ l → t ∈ flatL l
  | [], t, h => by simp at h
  | x :: r, t, h => by
    simp only [flatL, List.mem_append]
    rcases List.mem_cons.1 h with rfl | h
    · exact .inl (by simp [optTmp])
    · exact .inr (flatL_mem h)
theorem opnds_congr {l : List Operand} (h : ∀ x ∈ l, opnd fr x = opnd fr2 x) : opnds fr l = opnds fr2 l := by
  induction l with
  | nil => rfl
  | cons x r ih => simp only [opnds]; rw [h x (by simp), ih fun y hy => h y (by simp [hy])]
theorem parts_congr {l : List (Nat × Operand)} (h : ∀ x ∈ l.map (·.2), opnd fr x = opnd fr2 x) : partsA fr l = partsA fr2 l := by
  induction l with
  | nil => rfl
  | cons x r ih => obtain ⟨i, x⟩ := x; simp only [partsA]; rw [h x (by simp), ih fun y hy => h y (by simp at hy ⊢; exact .inr hy)]
theorem opt_congr {x : Option Operand} (h : ∀ y ∈ x.toList, opnd fr y = opnd fr2 y) : optA fr x = optA fr2 x := by
  cases x with
  | none => rfl
  | some y => simp only [optA]; rw [h y (by simp)]
theorem one_congr {o : Op} {h : Heap} (hc : ∀ x ∈ o.operands.toList, opnd fr x = opnd fr2 x) : oneA E call fr o h = oneA E call fr2 o h := by
  cases o
  case call c =>
    simp only [oneA, tgtA]
    simp only [Op.operands, Call.operands] at hc
    have h1 : opnds fr c.args.toList = opnds fr2 c.args.toList := opnds_congr fun x hx => hc x (by simp [hx])
    rw [h1]
    cases hcal : c.callee with
    | builtin b => rfl
    | invoke r m => have := hc r (by simp [hcal]); simp only [this]
    | value f => have := hc f (by simp [hcal]); simp only [this]
  case build t ps =>
    simp only [oneA, opA]
    rw [parts_congr (fr2 := fr2) fun x hx => hc x (by simpa [Op.operands] using hx)]
  case buildSlice t n ps =>
    simp only [oneA, opA]
    rw [parts_congr (fr2 := fr2) fun x hx => hc x (by simpa [Op.operands] using hx)]
  case makeFunc fn first captured =>
    simp only [oneA, opA]
    rw [opnds_congr (fr2 := fr2) (l := first.toList) fun x hx => hc x (by simp only [Op.operands, Array.toList_append, List.mem_append]; exact .inl hx)]
    rw [opnds_congr (fr2 := fr2) (l := captured.toList) fun x hx => hc x (by simp only [Op.operands, Array.toList_append, List.mem_append]; exact .inr hx)]
  case slice t x lo hi mx =>
    cases mx with
    | some m => rfl
    | none =>
      simp only [oneA, opA, op1]
      have h1 := hc x (by simp [Op.operands])
      have h2 : optA fr lo = optA fr2 lo := opt_congr fun y hy => hc y (by simp [Op.operands] at hy ⊢; simp [hy])
      have h3 : optA fr hi = optA fr2 hi := opt_congr fun y hy => hc y (by simp [Op.operands] at hy ⊢; simp [hy])
      rw [h1, h2, h3]
  case makeMap t r => cases r <;> rfl
  case lookup t m k b =>
    have h1 := hc m (by simp [Op.operands])
    have h2 := hc k (by simp [Op.operands])
    simp only [oneA, opA, op2, h1, h2]
  case mapUpdate t m k x =>
    have h1 := hc m (by simp [Op.operands])
    have h2 := hc k (by simp [Op.operands])
    have h3 := hc x (by simp [Op.operands])
    simp only [oneA, opA, op3, h1, h2, h3]
  case insert t m k x =>
    have h1 := hc m (by simp [Op.operands])
    have h2 := hc k (by simp [Op.operands])
    have h3 := hc x (by simp [Op.operands])
    simp only [oneA, opA, op3, h1, h2, h3]
  all_goals first
    | rfl
    | (simp only [oneA, opA, op1, op2]; simp [Op.operands] at hc; simp only [hc])

theorem step_congr {ops : List Oper} {o : Oper} {h : Heap} (hc : ∀ t, t ∈ looksL ops o → fr.get t = fr2.get t) : stepA E call ops fr o h = stepA E call ops fr2 o h := by
  have h1 : ∀ x ∈ o.op.operands.toList, opnd fr x = opnd fr2 x := by
    intro x hx
    cases x with
    | tmp t => exact hc t (by simp only [looksL, List.mem_append]; exact .inl (flatL_mem hx))
    | _ => rfl
  have h2 : wantedA ops fr o = wantedA ops fr2 o := by
    unfold wantedA
    cases hg : o.guard with
    | none => rfl
    | some p =>
      obtain ⟨j, want⟩ := p
      simp only
      have : yieldedA ops fr j = yieldedA ops fr2 j := by
        unfold yieldedA
        cases ho : ops[j]? with
        | none => rfl
        | some x =>
          simp only
          cases hd : x.dst with
          | none => rfl
          | some d =>
            simp only
            rw [hc d (by simp only [looksL, List.mem_append]; exact .inr (by simp [guardTmps, hg, ho, hd]))]
      have hun : unrunA ops fr j = unrunA ops fr2 j := by
        unfold unrunA
        cases ho : ops[j]? with
        | none => rfl
        | some x =>
          simp only
          cases hd : x.dst with
          | none => rfl
          | some d =>
            simp only
            rw [hc d (by simp only [looksL, List.mem_append]; exact .inr (by simp [guardTmps, hg, ho, hd]))]
      rw [this, hun]
  unfold stepA
  rw [h2, one_congr h1]

/-! ### kinds of operations -/
theorem sameA_heap {h h' : Heap} {v : Option AV} {x : AV} (hx : sameA h v = some (x, h')) : h' = h := (sameA_spec hx).2
theorem kind0 {o : Op} {h h' : Heap} {x : AV} (hk : kindA o = 0) (hx : oneA E call fr o h = some (x, h')) : h' = h ∧ ∀ h2, oneA E call fr o h2 = some (x, h2) := by
  have key : ∀ {v : Option AV}, sameA h v = some (x, h') → h' = h ∧ ∀ h2, sameA h2 v = some (x, h2) := by
    intro v hv
    obtain ⟨rfl, rfl⟩ := sameA_spec hv
    exact ⟨rfl, fun _ => rfl⟩
  have k1 : ∀ {y : Operand} {f : AV → Option AV}, op1 fr y (fun v => sameA h (f v)) = some (x, h') → h' = h ∧ ∀ h2, op1 fr y (fun v => sameA h2 (f v)) = some (x, h2) := by
    intro y f hv
    obtain ⟨v, h1, h2⟩ := op1_spec hv
    obtain ⟨h3, h4⟩ := key h2
    exact ⟨h3, fun h5 => by simp only [op1, h1]; exact h4 h5⟩
  have k2 : ∀ {y z : Operand} {f : AV → AV → Option AV}, op2 fr y z (fun v u => sameA h (f v u)) = some (x, h') → h' = h ∧ ∀ h2, op2 fr y z (fun v u => sameA h2 (f v u)) = some (x, h2) := by
    intro y z f hv
    obtain ⟨v, u, h1, h1', h2⟩ := op2_spec hv
    obtain ⟨h3, h4⟩ := key h2
    exact ⟨h3, fun h5 => by simp only [op2, h1, h1']; exact h4 h5⟩
  cases o <;> simp [kindA] at hk
  case move => exact key hx
  case assign => exact key hx
  case pick c a b =>
    simp only [oneA, opA] at hx ⊢
    obtain ⟨v, h1, h2⟩ := op1_spec hx
    cases v <;> (try (simp at h2; done))
    rename_i bb
    cases bb <;> (obtain ⟨h3, h4⟩ := key h2; exact ⟨h3, fun h5 => by simp only [op1, h1]; exact h4 h5⟩)
  case build t ps =>
    simp only [oneA, opA] at hx ⊢
    cases hp : partsA fr ps.toList with
    | none => simp [hp] at hx
    | some l => simp only [hp] at hx ⊢; exact key hx
  case nilCheck => exact k1 hx
  case binOp => exact k2 hx
  case unOp => exact k1 hx
  case makeInterface t y =>
    simp only [oneA, opA] at hx ⊢
    split at hx
    · simp at hx
    · rename_i d n1 hu
      obtain ⟨v, h1, h2⟩ := op1_spec hx
      simp only [Option.some.injEq, Prod.mk.injEq] at h2
      obtain ⟨rfl, rfl⟩ := h2
      refine ⟨rfl, fun h5 => ?_⟩
      simp only [op1, h1]
    · simp at hx
  case makeFunc fn first captured =>
    simp only [oneA, opA] at hx ⊢
    cases h1 : opnds fr first.toList with
    | none => simp [h1] at hx
    | some l =>
      cases h2 : opnds fr captured.toList with
      | none => simp [h1, h2] at hx
      | some m =>
        simp only [h1, h2, Option.some.injEq, Prod.mk.injEq] at hx ⊢
        obtain ⟨rfl, rfl⟩ := hx
        exact ⟨rfl, fun h5 => by simp⟩
  case fieldAddr => exact k1 hx
  case field => exact k1 hx
  case indexAddr => exact k2 hx
  case index => exact k2 hx
  case typeAssert => exact k1 hx
  case extract t i =>
    simp only [oneA, opA] at hx ⊢
    obtain ⟨v, h1, h2⟩ := op1_spec hx
    cases v <;> simp only [reduceCtorEq] at h2
    obtain ⟨h3, h4⟩ := key h2
    exact ⟨h3, fun h5 => by simp only [op1, h1]; exact h4 h5⟩
  case call c =>
    simp only [oneA, tgtA] at hx ⊢
    cases hargs : opnds fr c.args.toList with
    | none => simp [hargs] at hx
    | some args =>
      simp only [hargs] at hx ⊢
      cases hcal : c.callee with
      | value f => simp [hcal] at hk
      | invoke r m => simp [hcal] at hk
      | builtin b =>
        simp only [hcal] at hx hk ⊢
        have kb : b = .min ∨ b = .max := by cases b <;> simp_all
        have hb : ∀ (y : AV) (h1 : Heap), builtinA E b c.argTypes.toList args h = some (y, h1) → h1 = h ∧ ∀ h2, builtinA E b c.argTypes.toList args h2 = some (y, h2) := by
          intro y h1 hb
          rcases kb with rfl | rfl <;>
          · simp only [builtinA] at hb ⊢
            cases args with
            | nil => simp at hb
            | cons z r =>
              simp only at hb ⊢
              obtain ⟨h3, h4⟩ := sameA_spec hb
              exact ⟨h4, fun h2 => by rw [h3]; rfl⟩
        cases hbb : builtinA E b c.argTypes.toList args h with
        | none => simp [hbb] at hx
        | some p =>
          obtain ⟨y, h1⟩ := p
          simp only [hbb, Option.some.injEq, Prod.mk.injEq] at hx
          obtain ⟨rfl, rfl⟩ := hx
          obtain ⟨h3, h4⟩ := hb y h1 hbb
          exact ⟨h3, fun h2 => by rw [h4 h2]⟩
theorem kind1 {o : Op} {h h' : Heap} {x : AV} (hk : kindA o = 1) (hx : oneA E call fr o h = some (x, h')) : h' = h := by
  cases o <;> simp [kindA] at hk
  case load t y =>
    obtain ⟨v, h1, h2⟩ := op1_spec hx
    exact sameA_heap h2
  case lookup t m k b =>
    obtain ⟨v, u, h1, h2, h3⟩ := op2_spec hx
    exact sameA_heap h3
  case slice t y lo hi mx =>
    cases mx with
    | some m => simp [oneA, opA] at hx
    | none =>
      simp only [oneA, opA] at hx
      cases h1 : optA fr lo with
      | none => simp [h1] at hx
      | some l =>
        cases h2 : optA fr hi with
        | none => simp [h1, h2] at hx
        | some m =>
          simp only [h1, h2] at hx
          obtain ⟨v, h3, h4⟩ := op1_spec hx
          exact sameA_heap h4
  case call c =>
    simp only [oneA, tgtA] at hx
    cases hargs : opnds fr c.args.toList with
    | none => simp [hargs] at hx
    | some args =>
      simp only [hargs] at hx
      cases hcal : c.callee with
      | value f => simp [hcal] at hk
      | invoke r m => simp [hcal] at hk
      | builtin b =>
        simp only [hcal] at hx hk
        have kb : b = .len ∨ b = .cap := by cases b <;> simp_all
        cases hbb : builtinA E b c.argTypes.toList args h with
        | none => simp [hbb] at hx
        | some p =>
          obtain ⟨y, h1⟩ := p
          simp only [hbb, Option.some.injEq, Prod.mk.injEq] at hx
          obtain ⟨rfl, rfl⟩ := hx
          rcases kb with rfl | rfl <;>
          · simp only [builtinA] at hbb
            split at hbb <;> simp at *
            all_goals (first | exact sameA_heap hbb | skip)

theorem kindA_le (o : Op) : kindA o = 0 ∨ kindA o = 1 ∨ kindA o = 2 := by
  cases o <;> simp [kindA]
  rename_i c
  cases c.callee <;> (try simp)
  rename_i b
  cases b <;> simp
theorem step_heap {ops : List Oper} {o : Oper} {h h' : Heap} {x : AV} (hk : kindA o.op ≠ 2) (hx : stepA E call ops fr o h = some (x, h')) : h' = h := by
  unfold stepA at hx
  split at hx
  · rcases kindA_le o.op with h1 | h1 | h1
    · exact (kind0 h1 hx).1
    · exact kind1 h1 hx
    · exact absurd h1 hk
  · simp only [Option.some.injEq, Prod.mk.injEq] at hx; exact hx.2.symm
  · simp at hx
theorem step_free {ops : List Oper} {o : Oper} {h h' : Heap} {x : AV} (hk : kindA o.op = 0) (hx : stepA E call ops fr o h = some (x, h')) (h2 : Heap) : stepA E call ops fr o h2 = some (x, h2) := by
  unfold stepA at hx ⊢
  split at hx
  · exact (kind0 hk hx).2 h2
  · simp only [Option.some.injEq, Prod.mk.injEq] at hx ⊢; simp [hx.1]
  · simp at hx

theorem trace_spec {nt : Nat} {ops : List Oper} {hs : List Heap} : ∀ {l : List Oper} {fr : Fr} {h : Heap} {recs : List (Fr × Heap × AV)} {fr' : Fr} {h' : Heap}, traceA E call nt ops l fr h = some (recs, fr', h') →
    ∃ (F : Nat → Fr) (H : Nat → Heap) (V : Nat → AV), F 0 = fr ∧ H 0 = h ∧ F l.length = fr' ∧ H l.length = h' ∧
      (∀ i o, l[i]? = some o → stepA E call ops (F i) o (H i) = some (V i, H (i + 1)) ∧ F (i + 1) = putD nt (F i) o.dst (V i)) ∧
      (∀ m, m ≤ l.length → H m ∈ stagesL l recs h') ∧
      (stableB E call ops hs l recs = true → ∀ (i : Nat) (o : Oper), l[i]? = some o → kindA o.op = 1 → ∀ Hx ∈ hs, ∃ u h2, stepA E call ops (F i) o Hx = some (u, h2) ∧ u = V i)
  | [], fr, h, recs, fr', h', hx => by
    simp only [traceA, Option.some.injEq, Prod.mk.injEq] at hx
    obtain ⟨rfl, rfl, rfl⟩ := hx
    exact ⟨fun _ => fr, fun _ => h, fun _ => undefA, rfl, rfl, rfl, rfl, by simp, fun m _ => by simp [stagesL], by simp⟩
  | o :: r, fr, h, recs, fr', h', hx => by
    simp only [traceA] at hx
    cases hs1 : stepA E call ops fr o h with
    | none => simp [hs1] at hx
    | some p =>
      obtain ⟨v, h1⟩ := p
      simp only [hs1] at hx
      cases ht : traceA E call nt ops r (putD nt fr o.dst v) h1 with
      | none => simp [ht] at hx
      | some q =>
        obtain ⟨l', fr2, h2⟩ := q
        simp only [ht, Option.some.injEq, Prod.mk.injEq] at hx
        obtain ⟨rfl, rfl, rfl⟩ := hx
        obtain ⟨F, H, V, f0, g0, fn, gn, hstep, hst, hsb⟩ := trace_spec (hs := hs) ht
        refine ⟨fun i => match i with | 0 => fr | i + 1 => F i, fun i => match i with | 0 => h | i + 1 => H i, fun i => match i with | 0 => v | i + 1 => V i, rfl, rfl, ?_, ?_, ?_, ?_, ?_⟩
        · simpa using fn
        · simpa using gn
        · intro i o' ho
          cases i with
          | zero => simp at ho; subst ho; simp only [g0, f0]; exact ⟨hs1, trivial⟩
          | succ i => simp at ho; exact hstep i o' ho
        · intro m hm
          simp only [stagesL]
          cases hk : Nat.beq (kindA o.op) 2 with
          | true =>
            simp only [cond_true, List.mem_cons]
            cases m with
            | zero => exact .inl rfl
            | succ m => exact .inr (hst m (by simpa using hm))
          | false =>
            simp only [cond_false]
            cases m with
            | zero =>
              have hk' : kindA o.op ≠ 2 := fun e => by rw [e] at hk; cases hk
              have : h1 = h := step_heap hk' hs1
              have := hst 0 (Nat.zero_le _)
              simp only [g0] at this
              rename_i e1
              rw [e1] at this; exact this
            | succ m => exact hst m (by simpa using hm)
        · intro hb i o' ho hk Hx hHx
          simp only [stableB, Bool.and_eq_true] at hb
          cases i with
          | zero =>
            simp at ho; subst ho
            have hb1 := hb.1
            rw [hk] at hb1
            simp only [show Nat.beq 1 1 = true from rfl, cond_true, List.all_eq_true] at hb1
            have := hb1 Hx hHx
            split at this
            · rename_i u h3 he; exact ⟨u, h3, he, eqV_eq _ _ this⟩
            · simp at this
          | succ i => simp at ho; exact hsb hb.2 i o' ho hk Hx hHx

/-! ### order -/
theorem addL_mem {p x : Nat} {l : List Nat} (h : p ∈ addL x l) : p = x ∨ p ∈ l := by
  unfold addL at h
  cases hm : memL x l with
  | true => simp only [hm, cond_true] at h; exact .inr h
  | false => simpa [hm] using h
theorem addAll_mem {p : Nat} : ∀ {xs l : List Nat}, p ∈ addAll xs l → p ∈ xs ∨ p ∈ l
  | [], l, h => .inr h
  | x :: r, l, h => by
    simp only [addAll] at h
    rcases addL_mem h with rfl | h
    · exact .inl (by simp)
    · rcases addAll_mem h with h | h
      · exact .inl (by simp [h])
      · exact .inr h
theorem unionL_mem {acc : List (List Nat)} {p : Nat} : ∀ {l : List Nat}, p ∈ predsGo.unionL acc l → p ∈ l ∨ ∃ e ∈ l, ∃ ps, acc[e]? = some ps ∧ p ∈ ps
  | [], h => by simp [predsGo.unionL] at h
  | e :: r, h => by
    simp only [predsGo.unionL] at h
    rcases addL_mem h with rfl | h
    · exact .inl (by simp)
    rcases addAll_mem h with h | h
    · cases ha : acc[e]? with
      | none => simp [ha] at h
      | some ps => simp [ha] at h; exact .inr ⟨e, by simp, ps, ha, h⟩
    · rcases unionL_mem h with h | ⟨e', h1, h2⟩
      · exact .inl (by simp [h])
      · exact .inr ⟨e', by simp [h1], h2⟩
/-- what stands in the table of what must come ahead -/
theorem preds_spec : ∀ (r pre : List Oper) (acc : List (List Nat)), acc.length = pre.length →
    (∀ (i : Nat) (ps : List Nat), acc[i]? = some ps → ∃ o : Oper, pre[i]? = some o ∧ ∀ p ∈ ps, p ∈ edgesL o.after.toList ∨ ∃ e ∈ edgesL o.after.toList, ∃ qs, acc[e]? = some qs ∧ p ∈ qs) →
    ∀ (i : Nat) (ps : List Nat), (predsGo r acc)[i]? = some ps → ∃ o : Oper, (pre ++ r)[i]? = some o ∧ ∀ p ∈ ps, p ∈ edgesL o.after.toList ∨ ∃ e ∈ edgesL o.after.toList, ∃ qs, (predsGo r acc)[e]? = some qs ∧ p ∈ qs
  | [], pre, acc, hl, hinv, i, ps, h => by
    simp only [predsGo] at h ⊢
    simpa using hinv i ps h
  | o :: r, pre, acc, hl, hinv, i, ps, h => by
    simp only [predsGo] at h ⊢
    have := preds_spec r (pre ++ [o]) (acc ++ [predsGo.unionL acc (edgesL o.after.toList)]) (by simp [hl]) (by
      intro j qs hj
      by_cases hjl : j < acc.length
      · rw [List.getElem?_append_left hjl] at hj
        obtain ⟨o', h1, h2⟩ := hinv j qs hj
        refine ⟨o', by rw [List.getElem?_append_left (by omega)]; exact h1, fun p hp => ?_⟩
        rcases h2 p hp with h3 | ⟨e, h3, us, h4, h5⟩
        · exact .inl h3
        · exact .inr ⟨e, h3, us, by rw [List.getElem?_append_left (List.getElem?_eq_some_iff.1 h4).1]; exact h4, h5⟩
      · have hje : j = acc.length := by
          have := (List.getElem?_eq_some_iff.1 hj).1
          simp at this; omega
        subst hje
        rw [List.getElem?_append_right (Nat.le_refl _)] at hj
        simp at hj; subst hj
        refine ⟨o, by rw [hl]; simp, fun p hp => ?_⟩
        rcases unionL_mem hp with h3 | ⟨e, h3, us, h4, h5⟩
        · exact .inl h3
        · exact .inr ⟨e, h3, us, by rw [List.getElem?_append_left (List.getElem?_eq_some_iff.1 h4).1]; exact h4, h5⟩) i ps h
    simpa using this
theorem preds_length : ∀ (r : List Oper) (acc : List (List Nat)), (predsGo r acc).length = acc.length + r.length
  | [], acc => by simp [predsGo]
  | o :: r, acc => by simp [predsGo, preds_length r]; omega
theorem against_spec {ops : List Oper} {o : Oper} {ps : List Nat} : ∀ {l : List Oper} {j : Nat}, againstB ops o ps j l = true → ∀ k x, l[k]? = some x → j + k ∈ ps ∨ freeB ops x o = true
  | [], j, h, k, x, hk => by simp at hk
  | y :: r, j, h, k, x, hk => by
    simp only [againstB, Bool.and_eq_true, Bool.or_eq_true] at h
    cases k with
    | zero => simp at hk; subst hk; exact h.1.imp (fun e => by simpa using memL_iff.1 e) id
    | succ k =>
      simp at hk
      have := against_spec h.2 k x hk
      rw [show j + (k + 1) = j + 1 + k from by omega]; exact this
theorem order_spec {ops : List Oper} {preds : List (List Nat)} : ∀ {l : List Oper} {i : Nat}, orderGo ops preds i l = true → ∀ k o, l[k]? = some o →
    (∀ j x, (ops.take (i + k))[j]? = some x → j ∈ (preds[i + k]?).getD [] ∨ freeB ops x o = true) ∧ (∀ e ∈ edgesL o.after.toList, e < i + k)
  | [], i, h, k, o, hk => by simp at hk
  | y :: r, i, h, k, o, hk => by
    simp only [orderGo, Bool.and_eq_true] at h
    cases k with
    | zero =>
      simp at hk; subst hk
      refine ⟨fun j x hj => by simpa using against_spec h.1.1 j x (by simpa using hj), fun e he => ?_⟩
      have := List.all_eq_true.1 h.1.2 e he
      simpa [Nat.blt_eq] using this
    | succ k =>
      simp at hk
      have := order_spec h.2 k o hk
      rw [show i + (k + 1) = i + 1 + k from by omega]; exact this

theorem edgesL_mem {e : Nat} : ∀ {l : List Edge}, e ∈ edgesL l ↔ ∃ x ∈ l, Region.binds .any x = true ∧ x.on = e
  | [] => by simp [edgesL]
  | x :: r => by
    simp only [edgesL]
    cases hb : Region.binds .any x with
    | true => simp only [cond_true, List.mem_cons, edgesL_mem (l := r)]; constructor
              · rintro (rfl | ⟨y, h1, h2⟩)
                · exact ⟨x, .inl rfl, hb, rfl⟩
                · exact ⟨y, .inr h1, h2⟩
              · rintro ⟨y, rfl | h1, h2, h3⟩
                · exact .inl h3.symm
                · exact .inr ⟨y, h1, h2, h3⟩
    | false => simp only [cond_false, edgesL_mem (l := r), List.mem_cons]; constructor
               · rintro ⟨y, h1, h2⟩; exact ⟨y, .inr h1, h2⟩
               · rintro ⟨y, rfl | h1, h2, h3⟩
                 · rw [hb] at h2; cases h2
                 · exact ⟨y, h1, h2, h3⟩
theorem freeB_spec {ops : List Oper} {x y : Oper} (hf : freeB ops x y = true) : ¬ (kindA x.op = 2 ∧ kindA y.op = 2) ∧ (∀ t, x.dst = some t → t ∉ looksL ops y) ∧ (∀ t, y.dst = some t → t ∉ looksL ops x) ∧ (∀ t, x.dst = some t → y.dst ≠ some t) := by
  simp only [freeB, Bool.and_eq_true, Bool.not_eq_true'] at hf
  obtain ⟨⟨⟨h1, h2⟩, h3⟩, h4⟩ := hf
  refine ⟨?_, ?_, ?_, ?_⟩
  · rintro ⟨e1, e2⟩; rw [e1, e2] at h1; simp at h1
  · intro t ht hm; simp only [dstIn, ht] at h2; rw [memL_iff.2 hm] at h2; cases h2
  · intro t ht hm; simp only [dstIn, ht] at h3; rw [memL_iff.2 hm] at h3; cases h3
  · intro t ht hy; simp only [sameDst, ht, hy] at h4; rw [bt rfl] at h4; cases h4

theorem getD_set {l : Array Bool} {i k : Nat} (hi : i < l.size) : (l.setIfInBounds i true).getD k false = if k = i then true else l.getD k false := by
  by_cases h : k = i
  · subst h; simp [hi]
  · have h' : i ≠ k := fun e => h e.symm
    rw [if_neg h]
    simp only [Array.getD_eq_getD_getElem?, Array.getElem?_setIfInBounds_ne h']
theorem put_same {a : Act} {t : Nat} {u : Value} (ht : t < a.tmps.size) : (a.put (some t) u).tmps.getD t undef = u := by simp [Act.put, ht]
theorem put_other {a : Act} {d : Option Tmp} {t : Nat} {u : Value} (hd : d ≠ some t) : (a.put d u).tmps.getD t undef = a.tmps.getD t undef := by
  cases d with
  | none => rfl
  | some k =>
    have : k ≠ t := fun e => hd (by rw [e])
    simp [Act.put, Array.getElem?_setIfInBounds_ne this]
theorem draw_wp (ok : EnvOK E P) (hm : P.follows .mixedOrders = true) (hcall : CallOK P call) {nt id : Nat} {ops : Array Oper} {h : Heap} {fr' : Fr} {h' : Heap} (hd : drawA E call nt ops.toList fr h = some (fr', h'))
    {μ : Mu} {w : World} {a : Act} {Q : Exit → Act → World → Prop} (hr : HR μ h w) (ha : AR μ nt fr a) (hq : ∀ μ' a' w', AR μ' nt fr' a' → HR μ' h' w' → Ext μ h w μ' h' w' → Q .normal a' w') : (Code.region id ops true).wp P Q a w := by
  unfold drawA at hd
  cases ht : traceA E call nt ops.toList ops.toList fr h with
  | none => simp [ht] at hd
  | some q =>
    obtain ⟨recs, fr2, h2⟩ := q
    simp only [ht] at hd
    cases hb : (orderB ops.toList && stableB E call ops.toList (stagesL ops.toList recs h2) ops.toList recs) with
    | false => simp [hb] at hd
    | true =>
      simp only [hb, cond_true, Option.some.injEq, Prod.mk.injEq] at hd
      obtain ⟨rfl, rfl⟩ := hd
      simp only [Bool.and_eq_true] at hb
      obtain ⟨hord, hsta⟩ := hb
      obtain ⟨F, H, V, f0, g0, fn, gn, hstep, hst, hsb⟩ := trace_spec (hs := stagesL ops.toList recs h2) ht
      have hsb := hsb hsta
      have hlen : ops.toList.length = ops.size := by simp
      -- the order
      have ord : ∀ (i : Nat) (o : Oper), ops.toList[i]? = some o → (∀ (j : Nat) (x : Oper), j < i → ops.toList[j]? = some x → j ∈ ((predsGo ops.toList [])[i]?).getD [] ∨ freeB ops.toList x o = true) ∧ (∀ e ∈ edgesL o.after.toList, e < i) := by
        intro i o ho
        have := order_spec (i := 0) hord i o ho
        simp only [Nat.zero_add] at this
        exact ⟨fun j x hj hx => this.1 j x (by rw [List.getElem?_take_of_lt hj]; exact hx), this.2⟩
      have hpreds : ∀ (i : Nat) (ps : List Nat), (predsGo ops.toList [])[i]? = some ps → ∃ o : Oper, ops.toList[i]? = some o ∧ ∀ p ∈ ps, p ∈ edgesL o.after.toList ∨ ∃ e ∈ edgesL o.after.toList, ∃ qs, (predsGo ops.toList [])[e]? = some qs ∧ p ∈ qs := by
        intro i ps hi
        have := preds_spec ops.toList [] [] rfl (by simp) i ps hi
        simpa using this
      have predsIn : ∀ (S : Nat → Prop), (∀ (i : Nat) (o : Oper), ops.toList[i]? = some o → S i → ∀ e ∈ edgesL o.after.toList, S e) →
          ∀ (i : Nat) (o : Oper), ops.toList[i]? = some o → (∀ e ∈ edgesL o.after.toList, S e) → ∀ p ∈ ((predsGo ops.toList [])[i]?).getD [], S p := by
        intro S hcl i
        induction i using Nat.strongRecOn with
        | _ i ih =>
          intro o ho he p hp
          cases hps : (predsGo ops.toList [])[i]? with
          | none => simp [hps] at hp
          | some ps =>
            simp [hps] at hp
            obtain ⟨o', ho', hpp⟩ := hpreds i ps hps
            rw [ho] at ho'; cases ho'
            rcases hpp p hp with h3 | ⟨e, h3, qs, h4, h5⟩
            · exact he p h3
            · have hlt := (ord i o ho).2 e h3
              obtain ⟨oe, hoe, _⟩ := hpreds e qs h4
              exact ih e hlt oe hoe (hcl e oe hoe (he e h3)) p (by simp [h4]; exact h5)
      -- who wrote a slot, in the order of the text
      have wrote : ∀ (i : Nat), i ≤ ops.size → ∀ t v, (F i).get t = some v →
          (∃ k o, k < i ∧ ops.toList[k]? = some o ∧ o.dst = some t ∧ t < nt ∧ v = V k ∧ ∀ k' o', k' < i → ops.toList[k']? = some o' → o'.dst = some t → k' ≤ k) ∨
          ((∀ k o, k < i → ops.toList[k]? = some o → o.dst ≠ some t) ∧ fr.get t = some v) := by
        intro i
        induction i with
        | zero => intro _ t v hv; rw [f0] at hv; exact .inr ⟨fun k o hk => by omega, hv⟩
        | succ i ih =>
          intro hi t v hv
          obtain ⟨o, ho⟩ : ∃ o, ops.toList[i]? = some o := ⟨ops.toList[i]'(by simp; omega), by simp⟩
          rw [(hstep i o ho).2] at hv
          have old : (F i).get t = some v → o.dst ≠ some t → (∃ k o, k < i + 1 ∧ ops.toList[k]? = some o ∧ o.dst = some t ∧ t < nt ∧ v = V k ∧ ∀ k' o', k' < i + 1 → ops.toList[k']? = some o' → o'.dst = some t → k' ≤ k) ∨
              ((∀ k o, k < i + 1 → ops.toList[k]? = some o → o.dst ≠ some t) ∧ fr.get t = some v) := by
            intro hv' hne
            rcases ih (by omega) t v hv' with ⟨k, ok', h1, h2, h3, h4, h5, h6⟩ | ⟨h1, h2⟩
            · refine .inl ⟨k, ok', by omega, h2, h3, h4, h5, fun k' o' hk' ho' hd' => ?_⟩
              by_cases e : k' = i
              · subst e; rw [ho] at ho'; cases ho'; exact absurd hd' hne
              · exact h6 k' o' (by omega) ho' hd'
            · refine .inr ⟨fun k ok' hk ho' hd' => ?_, h2⟩
              by_cases e : k = i
              · subst e; rw [ho] at ho'; cases ho'; exact hne hd'
              · exact h1 k ok' (by omega) ho' hd'
          cases hdst : o.dst with
          | none =>
            rw [hdst] at hv
            exact old hv (by rw [hdst]; simp)
          | some d =>
            rw [hdst] at hv
            simp only [putD] at hv
            cases hlt : Nat.blt d nt with
            | false => simp [hlt, Tr.get_nil] at hv
            | true =>
              simp only [hlt, cond_true] at hv
              rcases Tr.get_set hv with ⟨rfl, rfl⟩ | ⟨hne, hv'⟩
              · exact .inl ⟨i, o, by omega, ho, hdst, by simpa [Nat.blt_eq] using hlt, rfl, fun k' _ hk' _ _ => by omega⟩
              · exact old hv' (by rw [hdst]; intro e; cases e; exact hne rfl)
      have Hsame : ∀ (i : Nat) (o : Oper), ops.toList[i]? = some o → kindA o.op ≠ 2 → H (i + 1) = H i := fun i o ho hk => step_heap hk (hstep i o ho).1
      have Heq : ∀ (d i j : Nat), j = i + d → j ≤ ops.size → (∀ (k : Nat) (o : Oper), i ≤ k → k < j → ops.toList[k]? = some o → kindA o.op ≠ 2) → H j = H i := by
        intro d
        induction d with
        | zero => intro i j hj _ _; rw [hj]; rfl
        | succ d ih =>
          intro i j hj hn hk
          obtain ⟨o, ho⟩ : ∃ o, ops.toList[i + d]? = some o := ⟨ops.toList[i + d]'(by simp; omega), by simp⟩
          rw [hj, show i + (d + 1) = (i + d) + 1 from rfl, Hsame (i + d) o ho (hk _ o (by omega) (by omega) ho)]
          exact ih i (i + d) rfl (by omega) fun k o h1 h2 => hk k o h1 (by omega)
      -- the end
      have done : ∀ (listed : Array Bool) (μ' : Mu) (a' : Act) (w' : World), (∀ i, i < ops.size → listed.getD i false = true) →
          (∃ m, m ≤ ops.size ∧ HR μ' (H m) w' ∧ Ext μ h w μ' (H m) w' ∧ ∀ (i : Nat) (o : Oper), ops.toList[i]? = some o → kindA o.op = 2 → (listed.getD i false = true ↔ i < m)) →
          a'.tmps.size = nt → a'.defers = [] →
          (∀ t k o, t < nt → ops.toList[k]? = some o → o.dst = some t → listed.getD k false = true → (∀ (k' : Nat) (o' : Oper), ops.toList[k']? = some o' → listed.getD k' false = true → o'.dst = some t → k' ≤ k) → VR μ' (V k) (a'.tmps.getD t undef)) →
          (∀ t v, (∀ (k : Nat) (o : Oper), ops.toList[k]? = some o → listed.getD k false = true → o.dst ≠ some t) → fr.get t = some v → VR μ' v (a'.tmps.getD t undef)) → Q .normal a' w' := by
        intro listed μ' a' w' hall hH hts htd hsl1 hsl2
        obtain ⟨m, hmn, hr', hext, hk2⟩ := hH
        have hHm : H ops.size = H m := Heq (ops.size - m) m ops.size (by omega) (Nat.le_refl _) fun k o h1 h2 ho hk => by
          have := (hk2 k o ho hk).1 (hall k h2); omega
        have gn' := gn
        rw [hlen] at gn'
        rw [← hHm, gn'] at hr' hext
        refine hq μ' a' w' ⟨fun t v hv => ?_, hts, htd⟩ hr' hext
        rw [← fn, hlen] at hv
        rcases wrote ops.size (Nat.le_refl _) t v hv with ⟨k, o, h1, h2, h3, h4, rfl, h6⟩ | ⟨h1, h2⟩
        · exact hsl1 t k o h4 h2 h3 (hall k h1) fun k' o' ho' _ hd' => h6 k' o' (by have := (List.getElem?_eq_some_iff.1 ho').1; omega) ho' hd'
        · exact hsl2 t v (fun k o ho _ => h1 k o (by have := (List.getElem?_eq_some_iff.1 ho).1; omega) ho) h2
      -- the walk over whatever order
      have main : ∀ (fuel : Nat) (listed : Array Bool) (μ' : Mu) (a' : Act) (w' : World) (us : List Nat), us.length ≤ fuel → (∀ i, i < ops.size → listed.getD i false = false → i ∈ us) → listed.size = ops.size →
          (∀ (i : Nat) (o : Oper), ops.toList[i]? = some o → listed.getD i false = true → ∀ e ∈ edgesL o.after.toList, listed.getD e false = true) →
          (∃ m, m ≤ ops.size ∧ HR μ' (H m) w' ∧ Ext μ h w μ' (H m) w' ∧ ∀ (i : Nat) (o : Oper), ops.toList[i]? = some o → kindA o.op = 2 → (listed.getD i false = true ↔ i < m)) →
          a'.tmps.size = nt → a'.defers = [] →
          (∀ t k o, t < nt → ops.toList[k]? = some o → o.dst = some t → listed.getD k false = true → (∀ (k' : Nat) (o' : Oper), ops.toList[k']? = some o' → listed.getD k' false = true → o'.dst = some t → k' ≤ k) → VR μ' (V k) (a'.tmps.getD t undef)) →
          (∀ t v, (∀ (k : Nat) (o : Oper), ops.toList[k]? = some o → listed.getD k false = true → o.dst ≠ some t) → fr.get t = some v → VR μ' v (a'.tmps.getD t undef)) →
          wpAny P .any ops Q fuel listed a' w' := by
        intro fuel
        induction fuel with
        | zero =>
          intro listed μ' a' w' us hu hus hsz hcl hH hts htd hsl1 hsl2
          have hall : ∀ i, i < ops.size → listed.getD i false = true := by
            intro i hi
            cases hl : listed.getD i false with
            | true => rfl
            | false =>
              have := hus i hi hl
              have : us = [] := List.eq_nil_of_length_eq_zero (by omega)
              subst this; simp at *
          refine ⟨?_, ?_⟩
          · simp only [Region.ready, List.filter_eq_nil_iff, List.mem_range]
            intro i hi hc
            have h1 := hall i hi
            have : listed.getD i true = true := by
              have hlt : i < listed.size := by omega
              simp [Array.getD, hlt] at h1 ⊢; exact h1
            simp [this] at hc
          · exact done listed μ' a' w' hall hH hts htd hsl1 hsl2
        | succ fuel ih =>
          intro listed μ' a' w' us hu hus hsz hcl hH hts htd hsl1 hsl2
          refine ⟨?_, ?_⟩
          · intro hready
            refine done listed μ' a' w' ?_ hH hts htd hsl1 hsl2
            intro i
            induction i using Nat.strongRecOn with
            | _ i ihi =>
              intro hin
              cases hl : listed.getD i false with
              | true => rfl
              | false =>
                exfalso
                have hlt : i < listed.size := by omega
                have hnt : listed.getD i true = false := by simp [Array.getD, hlt] at hl ⊢; exact hl
                have hmem : i ∈ Region.ready .any ops listed := by
                  simp only [Region.ready, List.mem_filter, List.mem_range, Bool.and_eq_true, Bool.not_eq_true']
                  refine ⟨hin, hnt, ?_⟩
                  have ho : ops[i]? = some ops[i] := by simp [hin]
                  rw [ho]
                  simp only [Option.map_some, Option.getD_some, Array.all_eq_true_iff_forall_mem]
                  intro x hx
                  cases hbx : Region.binds .any x with
                  | false => simp
                  | true =>
                    have he : x.on ∈ edgesL ops[i].after.toList := edgesL_mem.2 ⟨x, by simpa using hx, hbx, rfl⟩
                    have hlt' := (ord i ops[i] (by simp [hin])).2 _ he
                    simpa using ihi x.on hlt' (by omega)
                rw [hready] at hmem
                simp at hmem
          · intro i hi
            simp only [Region.ready, List.mem_filter, List.mem_range, Bool.and_eq_true, Bool.not_eq_true'] at hi
            obtain ⟨hin, hnl, hed⟩ := hi
            have hlt : i < listed.size := by omega
            have hnl' : listed.getD i false = false := by simp [Array.getD, hlt] at hnl ⊢; exact hnl
            have ho : ops[i]? = some ops[i] := by simp [hin]
            have hoL : ops.toList[i]? = some ops[i] := by simp [hin]
            have hedge : ∀ e ∈ edgesL ops[i].after.toList, listed.getD e false = true := by
              intro e he
              obtain ⟨x, h1, h2, h3⟩ := edgesL_mem.1 he
              rw [ho] at hed
              simp only [Option.map_some, Option.getD_some, Array.all_eq_true_iff_forall_mem] at hed
              have := hed x (by simpa using h1)
              simp [h2] at this
              rw [← h3]; simpa using this
            have hplist := predsIn (fun k => listed.getD k false = true) hcl i ops[i] hoL hedge
            -- what comes behind an operation that is not listed is not listed, or either may come first
            have behind : ∀ (k : Nat) (o : Oper), i < k → ops.toList[k]? = some o → listed.getD k false = true → freeB ops.toList ops[i] o = true := by
              intro k o hik hok hlk
              rcases (ord k o hok).1 i ops[i] hik hoL with h1 | h1
              · have h9 : listed.getD i false = true := predsIn (fun k => listed.getD k false = true) hcl k o hok (hcl k o hok hlk) i h1
                rw [hnl'] at h9; cases h9
              · exact h1
            have ahead : ∀ (k : Nat) (o : Oper), k < i → ops.toList[k]? = some o → listed.getD k false = true ∨ freeB ops.toList o ops[i] = true := by
              intro k o hki hok
              rcases (ord i ops[i] hoL).1 k o hki hok with h1 | h1
              · exact .inl (hplist k h1)
              · exact .inr h1
            obtain ⟨m, hmn, hrm, hext, hk2⟩ := hH
            -- the frame, as far as the operation looks
            have hget : ∀ t, (Tr.restrict.restrictL (fun t => memL t (looksL ops.toList ops[i])) (F i)).get t = bif memL t (looksL ops.toList ops[i]) then (F i).get t else none := fun t => Tr.get_restrict (F i) _ t
            have har : AR μ' nt (Tr.restrict.restrictL (fun t => memL t (looksL ops.toList ops[i])) (F i)) a' := by
              refine ⟨fun t v hv => ?_, hts, htd⟩
              rw [hget] at hv
              cases hmt : memL t (looksL ops.toList ops[i]) with
              | false => simp [hmt] at hv
              | true =>
                simp only [hmt, cond_true] at hv
                have hmt' := memL_iff.1 hmt
                rcases wrote i (by omega) t v hv with ⟨k, o, h1, h2, h3, h4, rfl, h6⟩ | ⟨h1, h2⟩
                · have hlk : listed.getD k false = true := by
                    rcases ahead k o h1 h2 with h7 | h7
                    · exact h7
                    · exact absurd hmt' ((freeB_spec h7).2.1 t h3)
                  refine hsl1 t k o h4 h2 h3 hlk fun k' o' ho' hl' hd' => ?_
                  rcases Nat.lt_trichotomy k' i with h7 | rfl | h7
                  · exact h6 k' o' h7 ho' hd'
                  · rw [hnl'] at hl'; cases hl'
                  · exact absurd hmt' ((freeB_spec (behind k' o' h7 ho' hl')).2.2.1 t hd')
                · refine hsl2 t v (fun k o hok hlk hd' => ?_) h2
                  rcases Nat.lt_trichotomy k i with h7 | rfl | h7
                  · exact h1 k o h7 hok hd'
                  · rw [hnl'] at hlk; cases hlk
                  · exact absurd hmt' ((freeB_spec (behind k o h7 hok hlk)).2.2.1 t hd')
            have hcong : ∀ Hx, stepA E call ops.toList (Tr.restrict.restrictL (fun t => memL t (looksL ops.toList ops[i])) (F i)) ops[i] Hx = stepA E call ops.toList (F i) ops[i] Hx := by
              intro Hx
              refine step_congr fun t ht => ?_
              rw [hget, memL_iff.2 ht]; rfl
            -- what it comes to, at the heap of this moment
            have hres : ∃ m', m' ≤ ops.size ∧ stepA E call ops.toList (F i) ops[i] (H m) = some (V i, H m') ∧
                ∀ (k : Nat) (o : Oper), ops.toList[k]? = some o → kindA o.op = 2 → ((listed.setIfInBounds i true).getD k false = true ↔ k < m') := by
              have keep : kindA ops[i].op ≠ 2 → ∀ (k : Nat) (o : Oper), ops.toList[k]? = some o → kindA o.op = 2 → ((listed.setIfInBounds i true).getD k false = true ↔ k < m) := by
                intro hne k o hok hk
                have hki : k ≠ i := by rintro rfl; rw [hoL] at hok; cases hok; exact hne hk
                rw [getD_set hlt, if_neg hki]; exact hk2 k o hok hk
              rcases kindA_le ops[i].op with h0 | h1 | h2
              · exact ⟨m, hmn, step_free h0 (hstep i ops[i] hoL).1 (H m), keep (by omega)⟩
              · obtain ⟨u, h3, h4, rfl⟩ := hsb i ops[i] hoL h1 (H m) (hst m (by omega))
                have := step_heap (by omega) h4
                subst this
                exact ⟨m, hmn, h4, keep (by omega)⟩
              · have hiff : ∀ (k : Nat) (o : Oper), ops.toList[k]? = some o → kindA o.op = 2 → (k < m ↔ k < i) := by
                  intro k o hok hk
                  rw [← hk2 k o hok hk]
                  constructor
                  · intro hlk
                    rcases Nat.lt_trichotomy k i with h7 | rfl | h7
                    · exact h7
                    · rw [hnl'] at hlk; cases hlk
                    · exact absurd ⟨h2, hk⟩ (freeB_spec (behind k o h7 hok hlk)).1
                  · intro hki
                    rcases ahead k o hki hok with h7 | h7
                    · exact h7
                    · exact absurd ⟨hk, h2⟩ (freeB_spec h7).1
                have hHi : H m = H i := by
                  rcases Nat.le_total m i with h7 | h7
                  · exact (Heq (i - m) m i (by omega) (by omega) fun k o h8 h9 hok hk => by have := (hiff k o hok hk).2 h9; omega).symm
                  · exact Heq (m - i) i m (by omega) hmn fun k o h8 h9 hok hk => by have := (hiff k o hok hk).1 h9; omega
                refine ⟨i + 1, hin, by rw [hHi]; exact (hstep i ops[i] hoL).1, fun k o hok hk => ?_⟩
                rw [getD_set hlt]
                by_cases hki : k = i
                · rw [if_pos hki]; simp; omega
                · rw [if_neg hki, hk2 k o hok hk, hiff k o hok hk]; omega
            obtain ⟨m', hmn', hstepm, hk2'⟩ := hres
            show wpOp P ops Q i _ a' w'
            unfold wpOp
            rw [ho]
            refine step_wp ok hcall hrm har (by rw [hcong]; exact hstepm) ?_
            intro μ2 u w2 hv hr2 hext2
            refine ih (listed.setIfInBounds i true) μ2 _ w2 (us.erase i) ?_ ?_ (by simpa using hsz) ?_ ⟨m', hmn', hr2, Ext.trans hr hext hext2, hk2'⟩ (by simpa [Act.put] using (by cases ops[i].dst <;> simp [hts])) (by cases ops[i].dst <;> simp [Act.put, htd]) ?_ ?_
            · have := hus i hin hnl'
              rw [List.length_erase_of_mem this]; omega
            · intro k hk hl
              rw [getD_set hlt] at hl
              by_cases hki : k = i
              · rw [if_pos hki] at hl; cases hl
              · rw [if_neg hki] at hl
                exact (List.mem_erase_of_ne hki).2 (hus k hk hl)
            · intro k o hok hl e he
              rw [getD_set hlt] at hl ⊢
              by_cases hei : e = i
              · rw [if_pos hei]
              · rw [if_neg hei]
                by_cases hki : k = i
                · subst hki; rw [hoL] at hok; cases hok; exact hedge e he
                · rw [if_neg hki] at hl; exact hcl k o hok hl e he
            · intro t k o htn hok hd' hl hmax
              rw [getD_set hlt] at hl
              by_cases hdi : ops[i].dst = some t
              · have hik : i ≤ k := hmax i ops[i] hoL (by rw [getD_set hlt, if_pos rfl]) hdi
                have hki : k = i := by
                  by_cases hki : k = i
                  · exact hki
                  · rw [if_neg hki] at hl
                    exact absurd hd' ((freeB_spec (behind k o (by omega) hok hl)).2.2.2 t hdi)
                subst hki
                rw [hdi, put_same (by omega)]; exact hv
              · have hki : k ≠ i := by rintro rfl; rw [hoL] at hok; cases hok; exact hdi hd'
                rw [if_neg hki] at hl
                rw [put_other hdi]
                refine VR.mono hext2.mono _ _ (hsl1 t k o htn hok hd' hl fun k' o' ho' hl' hd'' => hmax k' o' ho' ?_ hd'')
                rw [getD_set hlt]; split
                · rfl
                · exact hl'
            · intro t v hno hv'
              have hdi : ops[i].dst ≠ some t := hno i ops[i] hoL (by rw [getD_set hlt, if_pos rfl])
              rw [put_other hdi]
              refine VR.mono hext2.mono _ _ (hsl2 t v (fun k o hok hl => hno k o hok ?_) hv')
              rw [getD_set hlt]; split
              · rfl
              · exact hl
      refine wp_region_any hm ?_
      have hr0 : HR μ h { w with drawn := w.drawn + 1 } := hr.draws rfl
      have hfalse : ∀ k, (Array.replicate ops.size false).getD k false = false := by
        intro k; simp [Array.getD]
      refine main ops.size _ μ a _ (List.range ops.size) (by simp) (by intro i hi _; simpa using hi) (by simp) ?_ ⟨0, Nat.zero_le _, by rw [g0]; exact hr0, by rw [g0]; exact Ext.draws rfl rfl rfl rfl, ?_⟩ ha.size ha.defers ?_ ?_
      · intro i o _ hl; rw [hfalse] at hl; cases hl
      · intro i o _ _; rw [hfalse]; simp
      · intro t k o _ _ _ hl; rw [hfalse] at hl; cases hl
      · intro t v _ hv; exact ha.slot t v hv
end
end Go.Proofs.YtkcjphhjmlienaaGreatDoor.Ai

namespace Go.Proofs.YtkcjphhjmlienaaGreatDoor.Ai
/-! a region that draws its order, whose reads are the same wherever they may come -/
section
variable {α : Type}
variable {E : Env} {P : Program} {call : CallF} {fr fr2 : Fr}
/-- reads come to the same at each stage at which they may come -/
def StableW (E : Env) (call : CallF) (ops : List Oper) (recs : List (Fr × Heap × AV)) (h' : Heap) : Prop :=
  ∀ (i : Nat) (o : Oper) (f : Fr) (hh : Heap) (v : AV), ops[i]? = some o → recs[i]? = some (f, hh, v) → kindA o.op = 1 → ∀ (k : Nat) (Hk : Heap),
    ((∃ (o' : Oper) (f' : Fr) (v' : AV), ops[k]? = some o' ∧ kindA o'.op = 2 ∧ recs[k]? = some (f', Hk, v')) ∨ (k = ops.length ∧ Hk = h')) →
    (∀ (j : Nat) (o' : Oper), ops[j]? = some o' → kindA o'.op = 2 → (j ∈ ((predsGo ops [])[i]?).getD [] → j < k) ∧ (i ∈ ((predsGo ops [])[j]?).getD [] → k ≤ j)) →
    ∃ u h2, stepA E call ops f o Hk = some (u, h2) ∧ eqV u v = true
theorem trace_recs {nt : Nat} {ops : List Oper} : ∀ {l : List Oper} {fr : Fr} {h : Heap} {recs : List (Fr × Heap × AV)} {fr' : Fr} {h' : Heap}, traceA E call nt ops l fr h = some (recs, fr', h') →
    ∃ (F : Nat → Fr) (H : Nat → Heap) (V : Nat → AV), F 0 = fr ∧ H 0 = h ∧ F l.length = fr' ∧ H l.length = h' ∧
      (∀ i o, l[i]? = some o → stepA E call ops (F i) o (H i) = some (V i, H (i + 1)) ∧ F (i + 1) = putD nt (F i) o.dst (V i)) ∧
      (∀ i, i < l.length → recs[i]? = some (F i, H i, V i))
  | [], fr, h, recs, fr', h', hx => by
    simp only [traceA, Option.some.injEq, Prod.mk.injEq] at hx
    obtain ⟨rfl, rfl, rfl⟩ := hx
    exact ⟨fun _ => fr, fun _ => h, fun _ => undefA, rfl, rfl, rfl, rfl, by simp, by simp⟩
  | o :: r, fr, h, recs, fr', h', hx => by
    simp only [traceA] at hx
    cases hs1 : stepA E call ops fr o h with
    | none => simp [hs1] at hx
    | some p =>
      obtain ⟨v, h1⟩ := p
      simp only [hs1] at hx
      cases ht : traceA E call nt ops r (putD nt fr o.dst v) h1 with
      | none => simp [ht] at hx
      | some q =>
        obtain ⟨l', fr2, h2⟩ := q
        simp only [ht, Option.some.injEq, Prod.mk.injEq] at hx
        obtain ⟨rfl, rfl, rfl⟩ := hx
        obtain ⟨F, H, V, f0, g0, fn, gn, hstep, hrec⟩ := trace_recs ht
        refine ⟨fun i => match i with | 0 => fr | i + 1 => F i, fun i => match i with | 0 => h | i + 1 => H i, fun i => match i with | 0 => v | i + 1 => V i, rfl, rfl, ?_, ?_, ?_, ?_⟩
        · simpa using fn
        · simpa using gn
        · intro i o' ho
          cases i with
          | zero => simp at ho; subst ho; simp only [g0, f0]; exact ⟨hs1, trivial⟩
          | succ i => simp at ho; exact hstep i o' ho
        · intro i hi
          cases i with
          | zero => rfl
          | succ i => simpa using hrec i (by simpa using hi)
theorem drawW_wp (ok : EnvOK E P) (hm : P.follows .mixedOrders = true) (hcall : CallOK P call) {nt id : Nat} {ops : Array Oper} {h : Heap} {fr' : Fr} {h' : Heap} {recs : List (Fr × Heap × AV)} (ht : traceA E call nt ops.toList ops.toList fr h = some (recs, fr', h')) (hord : orderB ops.toList = true) (hstab : StableW E call ops.toList recs h')
    {μ : Mu} {w : World} {a : Act} {Q : Exit → Act → World → Prop} (hr : HR μ h w) (ha : AR μ nt fr a) (hq : ∀ μ' a' w', AR μ' nt fr' a' → HR μ' h' w' → Ext μ h w μ' h' w' → Q .normal a' w') : (Code.region id ops true).wp P Q a w := by
  skip
  {
    skip
    {
      obtain ⟨F, H, V, f0, g0, fn, gn, hstep, hrec⟩ := trace_recs ht
      have hlen : ops.toList.length = ops.size := by simp
      -- the order
      have ord : ∀ (i : Nat) (o : Oper), ops.toList[i]? = some o → (∀ (j : Nat) (x : Oper), j < i → ops.toList[j]? = some x → j ∈ ((predsGo ops.toList [])[i]?).getD [] ∨ freeB ops.toList x o = true) ∧ (∀ e ∈ edgesL o.after.toList, e < i) := by
        intro i o ho
        have := order_spec (i := 0) hord i o ho
        simp only [Nat.zero_add] at this
        exact ⟨fun j x hj hx => this.1 j x (by rw [List.getElem?_take_of_lt hj]; exact hx), this.2⟩
      have hpreds : ∀ (i : Nat) (ps : List Nat), (predsGo ops.toList [])[i]? = some ps → ∃ o : Oper, ops.toList[i]? = some o ∧ ∀ p ∈ ps, p ∈ edgesL o.after.toList ∨ ∃ e ∈ edgesL o.after.toList, ∃ qs, (predsGo ops.toList [])[e]? = some qs ∧ p ∈ qs := by
        intro i ps hi
        have := preds_spec ops.toList [] [] rfl (by simp) i ps hi
        simpa using this
      have predsIn : ∀ (S : Nat → Prop), (∀ (i : Nat) (o : Oper), ops.toList[i]? = some o → S i → ∀ e ∈ edgesL o.after.toList, S e) →
          ∀ (i : Nat) (o : Oper), ops.toList[i]? = some o → (∀ e ∈ edgesL o.after.toList, S e) → ∀ p ∈ ((predsGo ops.toList [])[i]?).getD [], S p := by
        intro S hcl i
        induction i using Nat.strongRecOn with
        | _ i ih =>
          intro o ho he p hp
          cases hps : (predsGo ops.toList [])[i]? with
          | none => simp [hps] at hp
          | some ps =>
            simp [hps] at hp
            obtain ⟨o', ho', hpp⟩ := hpreds i ps hps
            rw [ho] at ho'; cases ho'
            rcases hpp p hp with h3 | ⟨e, h3, qs, h4, h5⟩
            · exact he p h3
            · have hlt := (ord i o ho).2 e h3
              obtain ⟨oe, hoe, _⟩ := hpreds e qs h4
              exact ih e hlt oe hoe (hcl e oe hoe (he e h3)) p (by simp [h4]; exact h5)
      -- who wrote a slot, in the order of the text
      have wrote : ∀ (i : Nat), i ≤ ops.size → ∀ t v, (F i).get t = some v →
          (∃ k o, k < i ∧ ops.toList[k]? = some o ∧ o.dst = some t ∧ t < nt ∧ v = V k ∧ ∀ k' o', k' < i → ops.toList[k']? = some o' → o'.dst = some t → k' ≤ k) ∨
          ((∀ k o, k < i → ops.toList[k]? = some o → o.dst ≠ some t) ∧ fr.get t = some v) := by
        intro i
        induction i with
        | zero => intro _ t v hv; rw [f0] at hv; exact .inr ⟨fun k o hk => by omega, hv⟩
        | succ i ih =>
          intro hi t v hv
          obtain ⟨o, ho⟩ : ∃ o, ops.toList[i]? = some o := ⟨ops.toList[i]'(by simp; omega), by simp⟩
          rw [(hstep i o ho).2] at hv
          have old : (F i).get t = some v → o.dst ≠ some t → (∃ k o, k < i + 1 ∧ ops.toList[k]? = some o ∧ o.dst = some t ∧ t < nt ∧ v = V k ∧ ∀ k' o', k' < i + 1 → ops.toList[k']? = some o' → o'.dst = some t → k' ≤ k) ∨
              ((∀ k o, k < i + 1 → ops.toList[k]? = some o → o.dst ≠ some t) ∧ fr.get t = some v) := by
            intro hv' hne
            rcases ih (by omega) t v hv' with ⟨k, ok', h1, h2, h3, h4, h5, h6⟩ | ⟨h1, h2⟩
            · refine .inl ⟨k, ok', by omega, h2, h3, h4, h5, fun k' o' hk' ho' hd' => ?_⟩
              by_cases e : k' = i
              · subst e; rw [ho] at ho'; cases ho'; exact absurd hd' hne
              · exact h6 k' o' (by omega) ho' hd'
            · refine .inr ⟨fun k ok' hk ho' hd' => ?_, h2⟩
              by_cases e : k = i
              · subst e; rw [ho] at ho'; cases ho'; exact hne hd'
              · exact h1 k ok' (by omega) ho' hd'
          cases hdst : o.dst with
          | none =>
            rw [hdst] at hv
            exact old hv (by rw [hdst]; simp)
          | some d =>
            rw [hdst] at hv
            simp only [putD] at hv
            cases hlt : Nat.blt d nt with
            | false => simp [hlt, Tr.get_nil] at hv
            | true =>
              simp only [hlt, cond_true] at hv
              rcases Tr.get_set hv with ⟨rfl, rfl⟩ | ⟨hne, hv'⟩
              · exact .inl ⟨i, o, by omega, ho, hdst, by simpa [Nat.blt_eq] using hlt, rfl, fun k' _ hk' _ _ => by omega⟩
              · exact old hv' (by rw [hdst]; intro e; cases e; exact hne rfl)
      have Hsame : ∀ (i : Nat) (o : Oper), ops.toList[i]? = some o → kindA o.op ≠ 2 → H (i + 1) = H i := fun i o ho hk => step_heap hk (hstep i o ho).1
      have Heq : ∀ (d i j : Nat), j = i + d → j ≤ ops.size → (∀ (k : Nat) (o : Oper), i ≤ k → k < j → ops.toList[k]? = some o → kindA o.op ≠ 2) → H j = H i := by
        intro d
        induction d with
        | zero => intro i j hj _ _; rw [hj]; rfl
        | succ d ih =>
          intro i j hj hn hk
          obtain ⟨o, ho⟩ : ∃ o, ops.toList[i + d]? = some o := ⟨ops.toList[i + d]'(by simp; omega), by simp⟩
          rw [hj, show i + (d + 1) = (i + d) + 1 from rfl, Hsame (i + d) o ho (hk _ o (by omega) (by omega) ho)]
          exact ih i (i + d) rfl (by omega) fun k o h1 h2 => hk k o h1 (by omega)
      -- the end
      have done : ∀ (listed : Array Bool) (μ' : Mu) (a' : Act) (w' : World), (∀ i, i < ops.size → listed.getD i false = true) →
          (∃ m, m ≤ ops.size ∧ HR μ' (H m) w' ∧ Ext μ h w μ' (H m) w' ∧ ∀ (i : Nat) (o : Oper), ops.toList[i]? = some o → kindA o.op = 2 → (listed.getD i false = true ↔ i < m)) →
          a'.tmps.size = nt → a'.defers = [] →
          (∀ t k o, t < nt → ops.toList[k]? = some o → o.dst = some t → listed.getD k false = true → (∀ (k' : Nat) (o' : Oper), ops.toList[k']? = some o' → listed.getD k' false = true → o'.dst = some t → k' ≤ k) → VR μ' (V k) (a'.tmps.getD t undef)) →
          (∀ t v, (∀ (k : Nat) (o : Oper), ops.toList[k]? = some o → listed.getD k false = true → o.dst ≠ some t) → fr.get t = some v → VR μ' v (a'.tmps.getD t undef)) → Q .normal a' w' := by
        intro listed μ' a' w' hall hH hts htd hsl1 hsl2
        obtain ⟨m, hmn, hr', hext, hk2⟩ := hH
        have hHm : H ops.size = H m := Heq (ops.size - m) m ops.size (by omega) (Nat.le_refl _) fun k o h1 h2 ho hk => by
          have := (hk2 k o ho hk).1 (hall k h2); omega
        have gn' := gn
        rw [hlen] at gn'
        rw [← hHm, gn'] at hr' hext
        refine hq μ' a' w' ⟨fun t v hv => ?_, hts, htd⟩ hr' hext
        rw [← fn, hlen] at hv
        rcases wrote ops.size (Nat.le_refl _) t v hv with ⟨k, o, h1, h2, h3, h4, rfl, h6⟩ | ⟨h1, h2⟩
        · exact hsl1 t k o h4 h2 h3 (hall k h1) fun k' o' ho' _ hd' => h6 k' o' (by have := (List.getElem?_eq_some_iff.1 ho').1; omega) ho' hd'
        · exact hsl2 t v (fun k o ho _ => h1 k o (by have := (List.getElem?_eq_some_iff.1 ho).1; omega) ho) h2
      -- the walk over whatever order
      have main : ∀ (fuel : Nat) (listed : Array Bool) (μ' : Mu) (a' : Act) (w' : World) (us : List Nat), us.length ≤ fuel → (∀ i, i < ops.size → listed.getD i false = false → i ∈ us) → listed.size = ops.size →
          (∀ (i : Nat) (o : Oper), ops.toList[i]? = some o → listed.getD i false = true → ∀ e ∈ edgesL o.after.toList, listed.getD e false = true) →
          (∃ m, m ≤ ops.size ∧ HR μ' (H m) w' ∧ Ext μ h w μ' (H m) w' ∧ ∀ (i : Nat) (o : Oper), ops.toList[i]? = some o → kindA o.op = 2 → (listed.getD i false = true ↔ i < m)) →
          a'.tmps.size = nt → a'.defers = [] →
          (∀ t k o, t < nt → ops.toList[k]? = some o → o.dst = some t → listed.getD k false = true → (∀ (k' : Nat) (o' : Oper), ops.toList[k']? = some o' → listed.getD k' false = true → o'.dst = some t → k' ≤ k) → VR μ' (V k) (a'.tmps.getD t undef)) →
          (∀ t v, (∀ (k : Nat) (o : Oper), ops.toList[k]? = some o → listed.getD k false = true → o.dst ≠ some t) → fr.get t = some v → VR μ' v (a'.tmps.getD t undef)) →
          wpAny P .any ops Q fuel listed a' w' := by
        intro fuel
        induction fuel with
        | zero =>
          intro listed μ' a' w' us hu hus hsz hcl hH hts htd hsl1 hsl2
          have hall : ∀ i, i < ops.size → listed.getD i false = true := by
            intro i hi
            cases hl : listed.getD i false with
            | true => rfl
            | false =>
              have := hus i hi hl
              have : us = [] := List.eq_nil_of_length_eq_zero (by omega)
              subst this; simp at *
          refine ⟨?_, ?_⟩
          · simp only [Region.ready, List.filter_eq_nil_iff, List.mem_range]
            intro i hi hc
            have h1 := hall i hi
            have : listed.getD i true = true := by
              have hlt : i < listed.size := by omega
              simp [Array.getD, hlt] at h1 ⊢; exact h1
            simp [this] at hc
          · exact done listed μ' a' w' hall hH hts htd hsl1 hsl2
        | succ fuel ih =>
          intro listed μ' a' w' us hu hus hsz hcl hH hts htd hsl1 hsl2
          refine ⟨?_, ?_⟩
          · intro hready
            refine done listed μ' a' w' ?_ hH hts htd hsl1 hsl2
            intro i
            induction i using Nat.strongRecOn with
            | _ i ihi =>
              intro hin
              cases hl : listed.getD i false with
              | true => rfl
              | false =>
                exfalso
                have hlt : i < listed.size := by omega
                have hnt : listed.getD i true = false := by simp [Array.getD, hlt] at hl ⊢; exact hl
                have hmem : i ∈ Region.ready .any ops listed := by
                  simp only [Region.ready, List.mem_filter, List.mem_range, Bool.and_eq_true, Bool.not_eq_true']
                  refine ⟨hin, hnt, ?_⟩
                  have ho : ops[i]? = some ops[i] := by simp [hin]
                  rw [ho]
                  simp only [Option.map_some, Option.getD_some, Array.all_eq_true_iff_forall_mem]
                  intro x hx
                  cases hbx : Region.binds .any x with
                  | false => simp
                  | true =>
                    have he : x.on ∈ edgesL ops[i].after.toList := edgesL_mem.2 ⟨x, by simpa using hx, hbx, rfl⟩
                    have hlt' := (ord i ops[i] (by simp [hin])).2 _ he
                    simpa using ihi x.on hlt' (by omega)
                rw [hready] at hmem
                simp at hmem
          · intro i hi
            simp only [Region.ready, List.mem_filter, List.mem_range, Bool.and_eq_true, Bool.not_eq_true'] at hi
            obtain ⟨hin, hnl, hed⟩ := hi
            have hlt : i < listed.size := by omega
            have hnl' : listed.getD i false = false := by simp [Array.getD, hlt] at hnl ⊢; exact hnl
            have ho : ops[i]? = some ops[i] := by simp [hin]
            have hoL : ops.toList[i]? = some ops[i] := by simp [hin]
            have hedge : ∀ e ∈ edgesL ops[i].after.toList, listed.getD e false = true := by
              intro e he
              obtain ⟨x, h1, h2, h3⟩ := edgesL_mem.1 he
              rw [ho] at hed
              simp only [Option.map_some, Option.getD_some, Array.all_eq_true_iff_forall_mem] at hed
              have := hed x (by simpa using h1)
              simp [h2] at this
              rw [← h3]; simpa using this
            have hplist := predsIn (fun k => listed.getD k false = true) hcl i ops[i] hoL hedge
            -- what comes behind an operation that is not listed is not listed, or either may come first
            have behind : ∀ (k : Nat) (o : Oper), i < k → ops.toList[k]? = some o → listed.getD k false = true → freeB ops.toList ops[i] o = true := by
              intro k o hik hok hlk
              rcases (ord k o hok).1 i ops[i] hik hoL with h1 | h1
              · have h9 : listed.getD i false = true := predsIn (fun k => listed.getD k false = true) hcl k o hok (hcl k o hok hlk) i h1
                rw [hnl'] at h9; cases h9
              · exact h1
            have ahead : ∀ (k : Nat) (o : Oper), k < i → ops.toList[k]? = some o → listed.getD k false = true ∨ freeB ops.toList o ops[i] = true := by
              intro k o hki hok
              rcases (ord i ops[i] hoL).1 k o hki hok with h1 | h1
              · exact .inl (hplist k h1)
              · exact .inr h1
            obtain ⟨m, hmn, hrm, hext, hk2⟩ := hH
            -- the frame, as far as the operation looks
            have hget : ∀ t, (Tr.restrict.restrictL (fun t => memL t (looksL ops.toList ops[i])) (F i)).get t = bif memL t (looksL ops.toList ops[i]) then (F i).get t else none := fun t => Tr.get_restrict (F i) _ t
            have har : AR μ' nt (Tr.restrict.restrictL (fun t => memL t (looksL ops.toList ops[i])) (F i)) a' := by
              refine ⟨fun t v hv => ?_, hts, htd⟩
              rw [hget] at hv
              cases hmt : memL t (looksL ops.toList ops[i]) with
              | false => simp [hmt] at hv
              | true =>
                simp only [hmt, cond_true] at hv
                have hmt' := memL_iff.1 hmt
                rcases wrote i (by omega) t v hv with ⟨k, o, h1, h2, h3, h4, rfl, h6⟩ | ⟨h1, h2⟩
                · have hlk : listed.getD k false = true := by
                    rcases ahead k o h1 h2 with h7 | h7
                    · exact h7
                    · exact absurd hmt' ((freeB_spec h7).2.1 t h3)
                  refine hsl1 t k o h4 h2 h3 hlk fun k' o' ho' hl' hd' => ?_
                  rcases Nat.lt_trichotomy k' i with h7 | rfl | h7
                  · exact h6 k' o' h7 ho' hd'
                  · rw [hnl'] at hl'; cases hl'
                  · exact absurd hmt' ((freeB_spec (behind k' o' h7 ho' hl')).2.2.1 t hd')
                · refine hsl2 t v (fun k o hok hlk hd' => ?_) h2
                  rcases Nat.lt_trichotomy k i with h7 | rfl | h7
                  · exact h1 k o h7 hok hd'
                  · rw [hnl'] at hlk; cases hlk
                  · exact absurd hmt' ((freeB_spec (behind k o h7 hok hlk)).2.2.1 t hd')
            have hcong : ∀ Hx, stepA E call ops.toList (Tr.restrict.restrictL (fun t => memL t (looksL ops.toList ops[i])) (F i)) ops[i] Hx = stepA E call ops.toList (F i) ops[i] Hx := by
              intro Hx
              refine step_congr fun t ht => ?_
              rw [hget, memL_iff.2 ht]; rfl
            -- what it comes to, at the heap of this moment
            have hres : ∃ m', m' ≤ ops.size ∧ stepA E call ops.toList (F i) ops[i] (H m) = some (V i, H m') ∧
                ∀ (k : Nat) (o : Oper), ops.toList[k]? = some o → kindA o.op = 2 → ((listed.setIfInBounds i true).getD k false = true ↔ k < m') := by
              have keep : kindA ops[i].op ≠ 2 → ∀ (k : Nat) (o : Oper), ops.toList[k]? = some o → kindA o.op = 2 → ((listed.setIfInBounds i true).getD k false = true ↔ k < m) := by
                intro hne k o hok hk
                have hki : k ≠ i := by rintro rfl; rw [hoL] at hok; cases hok; exact hne hk
                rw [getD_set hlt, if_neg hki]; exact hk2 k o hok hk
              rcases kindA_le ops[i].op with h0 | h1 | h2
              · exact ⟨m, hmn, step_free h0 (hstep i ops[i] hoL).1 (H m), keep (by omega)⟩
              · have hwin : ∀ (k : Nat) (o : Oper), ops.toList[k]? = some o → kindA o.op = 2 → (k ∈ ((predsGo ops.toList [])[i]?).getD [] → k < m) ∧ (i ∈ ((predsGo ops.toList [])[k]?).getD [] → m ≤ k) := by
                  intro k o hok hk
                  refine ⟨fun h7 => (hk2 k o hok hk).1 (hplist k h7), fun h7 => ?_⟩
                  rcases Nat.lt_or_ge k m with h8 | h8
                  · have hlk := (hk2 k o hok hk).2 h8
                    have h9 : listed.getD i false = true := predsIn (fun k => listed.getD k false = true) hcl k o hok (hcl k o hok hlk) i h7
                    rw [hnl'] at h9; cases h9
                  · exact h8
                -- the stage of this moment: the next operation that may turn the heap
                have hstage : ∃ k, m ≤ k ∧ k ≤ ops.size ∧ H k = H m ∧ (k = ops.size ∨ ∃ o, ops.toList[k]? = some o ∧ kindA o.op = 2) ∧ ∀ (j : Nat) (o : Oper), m ≤ j → j < k → ops.toList[j]? = some o → kindA o.op ≠ 2 := by
                  have : ∀ d m, m + d = ops.size → ∃ k, m ≤ k ∧ k ≤ ops.size ∧ H k = H m ∧ (k = ops.size ∨ ∃ o, ops.toList[k]? = some o ∧ kindA o.op = 2) ∧ ∀ (j : Nat) (o : Oper), m ≤ j → j < k → ops.toList[j]? = some o → kindA o.op ≠ 2 := by
                    intro d
                    induction d with
                    | zero => intro m hm; exact ⟨m, Nat.le_refl _, by omega, rfl, .inl (by omega), fun j o h1 h2 => by omega⟩
                    | succ d ihd =>
                      intro m hm
                      obtain ⟨o, hoo⟩ : ∃ o, ops.toList[m]? = some o := ⟨ops.toList[m]'(by simp; omega), by simp⟩
                      by_cases hk : kindA o.op = 2
                      · exact ⟨m, Nat.le_refl _, by omega, rfl, .inr ⟨o, hoo, hk⟩, fun j o h1 h2 => by omega⟩
                      · obtain ⟨k, g1, g2, g3, g4, g5⟩ := ihd (m + 1) (by omega)
                        refine ⟨k, by omega, g2, by rw [g3]; exact Hsame m o hoo hk, g4, fun j o' h1 h2 h3 => ?_⟩
                        by_cases hjm : j = m
                        · subst hjm; rw [hoo] at h3; cases h3; exact hk
                        · exact g5 j o' (by omega) h2 h3
                  exact this (ops.size - m) m (by omega)
                obtain ⟨k, g1, g2, g3, g4, g5⟩ := hstage
                obtain ⟨u, h3, h4, he⟩ := hstab i ops[i] (F i) (H i) (V i) hoL (hrec i (by simpa using hin)) h1 k (H k) (by
                  rcases g4 with rfl | ⟨o, h7, _⟩
                  · right; exact ⟨by simp, by rw [← gn]; simp⟩
                  · left; exact ⟨o, F k, V k, h7, by assumption, hrec k (by have := (List.getElem?_eq_some_iff.1 h7).1; simpa using this)⟩) (fun j o hoj hj => by
                  obtain ⟨w1, w2⟩ := hwin j o hoj hj
                  refine ⟨fun h7 => by have := w1 h7; omega, fun h7 => ?_⟩
                  have h8 := w2 h7
                  rcases Nat.lt_or_ge j k with h9 | h9
                  · exact absurd hj (g5 j o h8 h9 hoj)
                  · exact h9)
                rw [g3] at h4
                have he' := eqV_eq _ _ he
                subst he'
                have := step_heap (by omega) h4
                subst this
                exact ⟨m, hmn, h4, keep (by omega)⟩
              · have hiff : ∀ (k : Nat) (o : Oper), ops.toList[k]? = some o → kindA o.op = 2 → (k < m ↔ k < i) := by
                  intro k o hok hk
                  rw [← hk2 k o hok hk]
                  constructor
                  · intro hlk
                    rcases Nat.lt_trichotomy k i with h7 | rfl | h7
                    · exact h7
                    · rw [hnl'] at hlk; cases hlk
                    · exact absurd ⟨h2, hk⟩ (freeB_spec (behind k o h7 hok hlk)).1
                  · intro hki
                    rcases ahead k o hki hok with h7 | h7
                    · exact h7
                    · exact absurd ⟨hk, h2⟩ (freeB_spec h7).1
                have hHi : H m = H i := by
                  rcases Nat.le_total m i with h7 | h7
                  · exact (Heq (i - m) m i (by omega) (by omega) fun k o h8 h9 hok hk => by have := (hiff k o hok hk).2 h9; omega).symm
                  · exact Heq (m - i) i m (by omega) hmn fun k o h8 h9 hok hk => by have := (hiff k o hok hk).1 h9; omega
                refine ⟨i + 1, hin, by rw [hHi]; exact (hstep i ops[i] hoL).1, fun k o hok hk => ?_⟩
                rw [getD_set hlt]
                by_cases hki : k = i
                · rw [if_pos hki]; simp; omega
                · rw [if_neg hki, hk2 k o hok hk, hiff k o hok hk]; omega
            obtain ⟨m', hmn', hstepm, hk2'⟩ := hres
            show wpOp P ops Q i _ a' w'
            unfold wpOp
            rw [ho]
            refine step_wp ok hcall hrm har (by rw [hcong]; exact hstepm) ?_
            intro μ2 u w2 hv hr2 hext2
            refine ih (listed.setIfInBounds i true) μ2 _ w2 (us.erase i) ?_ ?_ (by simpa using hsz) ?_ ⟨m', hmn', hr2, Ext.trans hr hext hext2, hk2'⟩ (by simpa [Act.put] using (by cases ops[i].dst <;> simp [hts])) (by cases ops[i].dst <;> simp [Act.put, htd]) ?_ ?_
            · have := hus i hin hnl'
              rw [List.length_erase_of_mem this]; omega
            · intro k hk hl
              rw [getD_set hlt] at hl
              by_cases hki : k = i
              · rw [if_pos hki] at hl; cases hl
              · rw [if_neg hki] at hl
                exact (List.mem_erase_of_ne hki).2 (hus k hk hl)
            · intro k o hok hl e he
              rw [getD_set hlt] at hl ⊢
              by_cases hei : e = i
              · rw [if_pos hei]
              · rw [if_neg hei]
                by_cases hki : k = i
                · subst hki; rw [hoL] at hok; cases hok; exact hedge e he
                · rw [if_neg hki] at hl; exact hcl k o hok hl e he
            · intro t k o htn hok hd' hl hmax
              rw [getD_set hlt] at hl
              by_cases hdi : ops[i].dst = some t
              · have hik : i ≤ k := hmax i ops[i] hoL (by rw [getD_set hlt, if_pos rfl]) hdi
                have hki : k = i := by
                  by_cases hki : k = i
                  · exact hki
                  · rw [if_neg hki] at hl
                    exact absurd hd' ((freeB_spec (behind k o (by omega) hok hl)).2.2.2 t hdi)
                subst hki
                rw [hdi, put_same (by omega)]; exact hv
              · have hki : k ≠ i := by rintro rfl; rw [hoL] at hok; cases hok; exact hdi hd'
                rw [if_neg hki] at hl
                rw [put_other hdi]
                refine VR.mono hext2.mono _ _ (hsl1 t k o htn hok hd' hl fun k' o' ho' hl' hd'' => hmax k' o' ho' ?_ hd'')
                rw [getD_set hlt]; split
                · rfl
                · exact hl'
            · intro t v hno hv'
              have hdi : ops[i].dst ≠ some t := hno i ops[i] hoL (by rw [getD_set hlt, if_pos rfl])
              rw [put_other hdi]
              refine VR.mono hext2.mono _ _ (hsl2 t v (fun k o hok hl => hno k o hok ?_) hv')
              rw [getD_set hlt]; split
              · rfl
              · exact hl
      refine wp_region_any hm ?_
      have hr0 : HR μ h { w with drawn := w.drawn + 1 } := hr.draws rfl
      have hfalse : ∀ k, (Array.replicate ops.size false).getD k false = false := by
        intro k; simp [Array.getD]
      refine main ops.size _ μ a _ (List.range ops.size) (by simp) (by intro i hi _; simpa using hi) (by simp) ?_ ⟨0, Nat.zero_le _, by rw [g0]; exact hr0, by rw [g0]; exact Ext.draws rfl rfl rfl rfl, ?_⟩ ha.size ha.defers ?_ ?_
      · intro i o _ hl; rw [hfalse] at hl; cases hl
      · intro i o _ _; rw [hfalse]; simp
      · intro t k o _ _ _ hl; rw [hfalse] at hl; cases hl
      · intro t v _ hv; exact ha.slot t v hv
    }
  }
theorem winLo_spec {ops : List Oper} {k : Nat} : ∀ {l : List Nat}, winLo ops k l = true ↔ ∀ j ∈ l, ∀ o, ops[j]? = some o → kindA o.op = 2 → j < k
  | [] => by simp [winLo]
  | j :: r => by
    simp only [winLo]
    have hk : k2at ops j = true ↔ ∃ o, ops[j]? = some o ∧ kindA o.op = 2 := by
      unfold k2at
      cases ops[j]? with
      | none => simp
      | some o => simp
    cases h1 : k2at ops j with
    | false =>
      simp only [Bool.false_and, cond_false, winLo_spec (l := r), List.mem_cons]
      constructor
      · rintro h2 j' (rfl | h3) o ho hk2
        · have := hk.2 ⟨o, ho, hk2⟩; rw [h1] at this; cases this
        · exact h2 j' h3 o ho hk2
      · exact fun h2 j' h3 => h2 j' (.inr h3)
    | true =>
      obtain ⟨o, ho, hk2⟩ := hk.1 h1
      cases h4 : Nat.blt j k with
      | true =>
        have h5 : j < k := by simpa [Nat.blt_eq] using h4
        simp only [Bool.not_true, Bool.and_false, cond_false, winLo_spec (l := r), List.mem_cons]
        constructor
        · rintro h2 j' (rfl | h3) o' ho' hk2'
          · exact h5
          · exact h2 j' h3 o' ho' hk2'
        · exact fun h2 j' h3 => h2 j' (.inr h3)
      | false =>
        have h5 : ¬ j < k := by
          intro h6; have : Nat.blt j k = true := by simpa [Nat.blt_eq] using h6
          rw [h4] at this; cases this
        simp only [Bool.not_false, Bool.and_self, cond_true]
        constructor
        · intro h; cases h
        · intro h2; exact absurd (h2 j (by simp) o ho hk2) h5
theorem winHi_spec {ops : List Oper} {i k : Nat} : ∀ {l : List (List Nat)} {b : Nat}, (∀ (j : Nat) (ps : List Nat), l[j]? = some ps → ∀ o, ops[b + j]? = some o → kindA o.op = 2 → i ∈ ps → k ≤ b + j) → winHi ops i k b l = true
  | [], b, h => rfl
  | ps :: r, b, h => by
    simp only [winHi]
    have hr := winHi_spec (l := r) (b := b + 1) (fun j qs hj o ho hk hi => by
      have h7 := h (j + 1) qs (by simpa using hj) o (by rw [show b + (j + 1) = b + 1 + j by omega]; exact ho) hk hi
      rw [show b + 1 + j = b + (j + 1) by omega]; exact h7)
    cases hc : (k2at ops b && (memL i ps && !Nat.ble k b)) with
    | false => simpa using hr
    | true =>
      simp only [Bool.and_eq_true, Bool.not_eq_true'] at hc
      obtain ⟨h1, h2, h3⟩ := hc
      unfold k2at at h1
      split at h1
      · rename_i o ho
        have h5 := h 0 ps rfl o (by simpa using ho) (Nat.eq_of_beq_eq_true h1) (memL_iff.1 h2)
        have h4 : Nat.ble k b = true := by simpa using h5
        rw [h3] at h4; cases h4
      · cases h1

theorem stagesI_mem {ops : List Oper} : ∀ {l : List Oper} {i : Nat} {recs : List (Fr × Heap × AV)} {e : Heap}, recs.length = l.length →
    (i + l.length, e) ∈ stagesI i l recs e ∧ ∀ (j : Nat) (o : Oper) (f : Fr) (hh : Heap) (v : AV), l[j]? = some o → recs[j]? = some (f, hh, v) → kindA o.op = 2 → (i + j, hh) ∈ stagesI i l recs e
  | [], i, [], e, _ => ⟨by simp [stagesI], fun j o f hh v h => by simp at h⟩
  | o :: r, i, (f, h, v) :: q, e, hl => by
    obtain ⟨h1, h2⟩ := stagesI_mem (ops := ops) (l := r) (i := i + 1) (recs := q) (e := e) (by simpa using hl)
    have up : ∀ x, x ∈ stagesI (i + 1) r q e → x ∈ stagesI i (o :: r) ((f, h, v) :: q) e := by
      intro x hx
      simp only [stagesI]
      cases Nat.beq (kindA o.op) 2
      · exact hx
      · exact List.mem_cons_of_mem _ hx
    refine ⟨?_, fun j o' f' hh v' hj hr hk => ?_⟩
    · rw [List.length_cons, show i + (r.length + 1) = i + 1 + r.length from by omega]; exact up _ h1
    · cases j with
      | zero =>
        simp at hj hr
        subst hj; obtain ⟨_, rfl, _⟩ := hr
        simp only [stagesI, hk]
        exact List.mem_cons_self
      | succ j =>
        rw [show i + (j + 1) = i + 1 + j from by omega]
        exact up _ (h2 j o' f' hh v' (by simpa using hj) (by simpa using hr) hk)
  | [], _, _ :: _, _, hl => by simp at hl
  | _ :: _, _, [], _, hl => by simp at hl
theorem stableI_spec {ops : List Oper} {wn : Nat → Nat → Bool} {hs : List (Nat × Heap)} : ∀ {l : List Oper} {i : Nat} {recs : List (Fr × Heap × AV)}, stableI E call ops wn hs i l recs = true →
    ∀ (j : Nat) (o : Oper) (f : Fr) (hh : Heap) (v : AV), l[j]? = some o → recs[j]? = some (f, hh, v) → kindA o.op = 1 → ∀ p ∈ hs, wn (i + j) p.1 = true → ∃ u h2, stepA E call ops f o p.2 = some (u, h2) ∧ eqV u v = true
  | [], i, recs, h, j, o, f, hh, v, hj, _, _, _, _, _ => by simp at hj
  | x :: r, i, [], h, j, o, f, hh, v, hj, hr, _, _, _, _ => by simp at hr
  | x :: r, i, (f0, h0, v0) :: q, h, j, o, f, hh, v, hj, hr, hk, p, hp, hw => by
    simp only [stableI, Bool.and_eq_true] at h
    cases j with
    | zero =>
      simp at hj hr
      subst hj; obtain ⟨rfl, rfl, rfl⟩ := hr
      have h1 := h.1
      rw [hk] at h1
      simp only [show Nat.beq 1 1 = true from rfl, cond_true, List.all_eq_true] at h1
      have h2 := h1 p hp
      rw [Nat.add_zero] at hw
      rw [hw] at h2
      simp only [cond_true] at h2
      split at h2
      · rename_i u h3 he; exact ⟨u, h3, he, h2⟩
      · cases h2
    | succ j =>
      rw [show i + (j + 1) = i + 1 + j from by omega] at hw
      exact stableI_spec h.2 j o f hh v (by simpa using hj) (by simpa using hr) hk p hp hw
theorem drawI_wp (ok : EnvOK E P) (hm : P.follows .mixedOrders = true) (hcall : CallOK P call) {nt id : Nat} {ops : Array Oper} {h : Heap} {fr' : Fr} {h' : Heap} (hd : drawI E call nt ops.toList fr h = some (fr', h'))
    {μ : Mu} {w : World} {a : Act} {Q : Exit → Act → World → Prop} (hr : HR μ h w) (ha : AR μ nt fr a) (hq : ∀ μ' a' w', AR μ' nt fr' a' → HR μ' h' w' → Ext μ h w μ' h' w' → Q .normal a' w') : (Code.region id ops true).wp P Q a w := by
  unfold drawI at hd
  cases ht : traceA E call nt ops.toList ops.toList fr h with
  | none => simp [ht] at hd
  | some q =>
    obtain ⟨recs, fr2, h2⟩ := q
    simp only [ht] at hd
    cases hb : (orderB ops.toList && stableI E call ops.toList (winB ops.toList (predsGo ops.toList [])) (stagesI 0 ops.toList recs h2) 0 ops.toList recs) with
    | false => simp [hb] at hd
    | true =>
      simp only [hb, cond_true, Option.some.injEq, Prod.mk.injEq] at hd
      obtain ⟨rfl, rfl⟩ := hd
      simp only [Bool.and_eq_true] at hb
      obtain ⟨hord, hsta⟩ := hb
      have hlen : recs.length = ops.toList.length := by
        have : ∀ {l : List Oper} {fr : Fr} {h : Heap} {recs : List (Fr × Heap × AV)} {fr' : Fr} {h' : Heap}, traceA E call nt ops.toList l fr h = some (recs, fr', h') → recs.length = l.length := by
          intro l
          induction l with
          | nil => intro fr h recs fr' h' hx; simp only [traceA, Option.some.injEq, Prod.mk.injEq] at hx; rw [← hx.1]; rfl
          | cons o r ih =>
            intro fr h recs fr' h' hx
            simp only [traceA] at hx
            split at hx
            · rename_i v h1 hs1
              split at hx
              · rename_i l2 p hp
                obtain ⟨fr3, h3⟩ := p
                simp only [Option.some.injEq, Prod.mk.injEq] at hx
                rw [← hx.1, List.length_cons, List.length_cons, ih hp]
              · cases hx
            · cases hx
        exact this ht
      obtain ⟨m1, m2⟩ := stagesI_mem (ops := ops.toList) (l := ops.toList) (i := 0) (recs := recs) (e := h2) hlen
      refine drawW_wp ok hm hcall ht hord ?_ hr ha hq
      intro i o f hh v hi hrec hk k Hk hstage hwin
      have hHS : (k, Hk) ∈ stagesI 0 ops.toList recs h2 := by
        rcases hstage with ⟨o', f', v', g1, g2, g3⟩ | ⟨rfl, rfl⟩
        · have := m2 k o' f' Hk v' g1 g3 g2
          rwa [Nat.zero_add] at this
        · rwa [Nat.zero_add] at m1
      have hw : winB ops.toList (predsGo ops.toList []) i k = true := by
        unfold winB
        simp only [Bool.and_eq_true]
        refine ⟨winLo_spec.2 fun j hj o' ho' hk' => (hwin j o' ho' hk').1 hj, winHi_spec fun j ps hj o' ho' hk' hi' => ?_⟩
        rw [Nat.zero_add] at ho' ⊢
        exact (hwin j o' ho' hk').2 (by rw [hj]; exact hi')
      have := stableI_spec hsta i o f hh v hi hrec hk (k, Hk) hHS
      rw [Nat.zero_add] at this
      exact this hw
end
end Go.Proofs.YtkcjphhjmlienaaGreatDoor.Ai

namespace Go.Proofs.YtkcjphhjmlienaaGreatDoor.Ai
/-! a region that draws its order, whose reads stand in order with what writes -/
def freeS (ops : List Oper) (x y : Oper) : Bool :=
  !(Nat.beq (kindA x.op) 2 && !Nat.beq (kindA y.op) 0) && !(!Nat.beq (kindA x.op) 0 && Nat.beq (kindA y.op) 2) && !dstIn x.dst (looksL ops y) && !dstIn y.dst (looksL ops x) && !sameDst x.dst y.dst
def againstS (ops : List Oper) (o : Oper) (ps : List Nat) : Nat → List Oper → Bool
  | _, [] => true
  | j, x :: r => (memL j ps || freeS ops x o) && againstS ops o ps (j + 1) r
def orderSGo (ops : List Oper) (preds : List (List Nat)) : Nat → List Oper → Bool
  | _, [] => true
  | i, o :: r => againstS ops o ((preds[i]?).getD []) 0 (ops.take i) && (edgesL o.after.toList).all (fun e => Nat.blt e i) && orderSGo ops preds (i + 1) r
def orderS (ops : List Oper) : Bool := orderSGo ops (predsGo ops []) 0 ops
section
variable {α : Type}
variable {E : Env} {P : Program} {call : CallF} {fr fr2 : Fr}
theorem againstS_spec {ops : List Oper} {o : Oper} {ps : List Nat} : ∀ {l : List Oper} {j : Nat}, againstS ops o ps j l = true → ∀ k x, l[k]? = some x → j + k ∈ ps ∨ freeS ops x o = true
  | [], j, h, k, x, hk => by simp at hk
  | y :: r, j, h, k, x, hk => by
    simp only [againstS, Bool.and_eq_true, Bool.or_eq_true] at h
    cases k with
    | zero => simp at hk; subst hk; exact h.1.imp (fun e => by simpa using memL_iff.1 e) id
    | succ k =>
      simp at hk
      have := againstS_spec h.2 k x hk
      rw [show j + (k + 1) = j + 1 + k from by omega]; exact this
theorem orderS_spec {ops : List Oper} {preds : List (List Nat)} : ∀ {l : List Oper} {i : Nat}, orderSGo ops preds i l = true → ∀ k o, l[k]? = some o →
    (∀ j x, (ops.take (i + k))[j]? = some x → j ∈ (preds[i + k]?).getD [] ∨ freeS ops x o = true) ∧ (∀ e ∈ edgesL o.after.toList, e < i + k)
  | [], i, h, k, o, hk => by simp at hk
  | y :: r, i, h, k, o, hk => by
    simp only [orderSGo, Bool.and_eq_true] at h
    cases k with
    | zero =>
      simp at hk; subst hk
      refine ⟨fun j x hj => by simpa using againstS_spec h.1.1 j x (by simpa using hj), fun e he => ?_⟩
      have := List.all_eq_true.1 h.1.2 e he
      simpa [Nat.blt_eq] using this
    | succ k =>
      simp at hk
      have := orderS_spec h.2 k o hk
      rw [show i + (k + 1) = i + 1 + k from by omega]; exact this

theorem freeS_spec {ops : List Oper} {x y : Oper} (hf : freeS ops x y = true) : ¬ ((kindA x.op = 2 ∧ kindA y.op ≠ 0) ∨ (kindA x.op ≠ 0 ∧ kindA y.op = 2)) ∧ (∀ t, x.dst = some t → t ∉ looksL ops y) ∧ (∀ t, y.dst = some t → t ∉ looksL ops x) ∧ (∀ t, x.dst = some t → y.dst ≠ some t) := by
  simp only [freeS, Bool.and_eq_true, Bool.not_eq_true'] at hf
  obtain ⟨⟨⟨⟨h1, h1'⟩, h2⟩, h3⟩, h4⟩ := hf
  refine ⟨?_, ?_, ?_, ?_⟩
  · rintro (⟨e1, e2⟩ | ⟨e1, e2⟩)
    · rw [e1] at h1; simp [e2] at h1
    · rw [e2] at h1'; simp [e1] at h1'
  · intro t ht hm; simp only [dstIn, ht] at h2; rw [memL_iff.2 hm] at h2; cases h2
  · intro t ht hm; simp only [dstIn, ht] at h3; rw [memL_iff.2 hm] at h3; cases h3
  · intro t ht hy; simp only [sameDst, ht, hy] at h4; rw [bt rfl] at h4; cases h4
theorem drawS_wp (ok : EnvOK E P) (hm : P.follows .mixedOrders = true) (hcall : CallOK P call) {nt id : Nat} {ops : Array Oper} {h : Heap} {fr' : Fr} {h' : Heap} {recs : List (Fr × Heap × AV)} (ht : traceA E call nt ops.toList ops.toList fr h = some (recs, fr', h')) (hord : orderS ops.toList = true)
    {μ : Mu} {w : World} {a : Act} {Q : Exit → Act → World → Prop} (hr : HR μ h w) (ha : AR μ nt fr a) (hq : ∀ μ' a' w', AR μ' nt fr' a' → HR μ' h' w' → Ext μ h w μ' h' w' → Q .normal a' w') : (Code.region id ops true).wp P Q a w := by
  skip
  {
    skip
    {
      obtain ⟨F, H, V, f0, g0, fn, gn, hstep, _, _⟩ := trace_spec (hs := []) ht
      have hlen : ops.toList.length = ops.size := by simp
      -- the order
      have ord : ∀ (i : Nat) (o : Oper), ops.toList[i]? = some o → (∀ (j : Nat) (x : Oper), j < i → ops.toList[j]? = some x → j ∈ ((predsGo ops.toList [])[i]?).getD [] ∨ freeS ops.toList x o = true) ∧ (∀ e ∈ edgesL o.after.toList, e < i) := by
        intro i o ho
        have := orderS_spec (i := 0) hord i o ho
        simp only [Nat.zero_add] at this
        exact ⟨fun j x hj hx => this.1 j x (by rw [List.getElem?_take_of_lt hj]; exact hx), this.2⟩
      have hpreds : ∀ (i : Nat) (ps : List Nat), (predsGo ops.toList [])[i]? = some ps → ∃ o : Oper, ops.toList[i]? = some o ∧ ∀ p ∈ ps, p ∈ edgesL o.after.toList ∨ ∃ e ∈ edgesL o.after.toList, ∃ qs, (predsGo ops.toList [])[e]? = some qs ∧ p ∈ qs := by
        intro i ps hi
        have := preds_spec ops.toList [] [] rfl (by simp) i ps hi
        simpa using this
      have predsIn : ∀ (S : Nat → Prop), (∀ (i : Nat) (o : Oper), ops.toList[i]? = some o → S i → ∀ e ∈ edgesL o.after.toList, S e) →
          ∀ (i : Nat) (o : Oper), ops.toList[i]? = some o → (∀ e ∈ edgesL o.after.toList, S e) → ∀ p ∈ ((predsGo ops.toList [])[i]?).getD [], S p := by
        intro S hcl i
        induction i using Nat.strongRecOn with
        | _ i ih =>
          intro o ho he p hp
          cases hps : (predsGo ops.toList [])[i]? with
          | none => simp [hps] at hp
          | some ps =>
            simp [hps] at hp
            obtain ⟨o', ho', hpp⟩ := hpreds i ps hps
            rw [ho] at ho'; cases ho'
            rcases hpp p hp with h3 | ⟨e, h3, qs, h4, h5⟩
            · exact he p h3
            · have hlt := (ord i o ho).2 e h3
              obtain ⟨oe, hoe, _⟩ := hpreds e qs h4
              exact ih e hlt oe hoe (hcl e oe hoe (he e h3)) p (by simp [h4]; exact h5)
      -- who wrote a slot, in the order of the text
      have wrote : ∀ (i : Nat), i ≤ ops.size → ∀ t v, (F i).get t = some v →
          (∃ k o, k < i ∧ ops.toList[k]? = some o ∧ o.dst = some t ∧ t < nt ∧ v = V k ∧ ∀ k' o', k' < i → ops.toList[k']? = some o' → o'.dst = some t → k' ≤ k) ∨
          ((∀ k o, k < i → ops.toList[k]? = some o → o.dst ≠ some t) ∧ fr.get t = some v) := by
        intro i
        induction i with
        | zero => intro _ t v hv; rw [f0] at hv; exact .inr ⟨fun k o hk => by omega, hv⟩
        | succ i ih =>
          intro hi t v hv
          obtain ⟨o, ho⟩ : ∃ o, ops.toList[i]? = some o := ⟨ops.toList[i]'(by simp; omega), by simp⟩
          rw [(hstep i o ho).2] at hv
          have old : (F i).get t = some v → o.dst ≠ some t → (∃ k o, k < i + 1 ∧ ops.toList[k]? = some o ∧ o.dst = some t ∧ t < nt ∧ v = V k ∧ ∀ k' o', k' < i + 1 → ops.toList[k']? = some o' → o'.dst = some t → k' ≤ k) ∨
              ((∀ k o, k < i + 1 → ops.toList[k]? = some o → o.dst ≠ some t) ∧ fr.get t = some v) := by
            intro hv' hne
            rcases ih (by omega) t v hv' with ⟨k, ok', h1, h2, h3, h4, h5, h6⟩ | ⟨h1, h2⟩
            · refine .inl ⟨k, ok', by omega, h2, h3, h4, h5, fun k' o' hk' ho' hd' => ?_⟩
              by_cases e : k' = i
              · subst e; rw [ho] at ho'; cases ho'; exact absurd hd' hne
              · exact h6 k' o' (by omega) ho' hd'
            · refine .inr ⟨fun k ok' hk ho' hd' => ?_, h2⟩
              by_cases e : k = i
              · subst e; rw [ho] at ho'; cases ho'; exact hne hd'
              · exact h1 k ok' (by omega) ho' hd'
          cases hdst : o.dst with
          | none =>
            rw [hdst] at hv
            exact old hv (by rw [hdst]; simp)
          | some d =>
            rw [hdst] at hv
            simp only [putD] at hv
            cases hlt : Nat.blt d nt with
            | false => simp [hlt, Tr.get_nil] at hv
            | true =>
              simp only [hlt, cond_true] at hv
              rcases Tr.get_set hv with ⟨rfl, rfl⟩ | ⟨hne, hv'⟩
              · exact .inl ⟨i, o, by omega, ho, hdst, by simpa [Nat.blt_eq] using hlt, rfl, fun k' _ hk' _ _ => by omega⟩
              · exact old hv' (by rw [hdst]; intro e; cases e; exact hne rfl)
      have Hsame : ∀ (i : Nat) (o : Oper), ops.toList[i]? = some o → kindA o.op ≠ 2 → H (i + 1) = H i := fun i o ho hk => step_heap hk (hstep i o ho).1
      have Heq : ∀ (d i j : Nat), j = i + d → j ≤ ops.size → (∀ (k : Nat) (o : Oper), i ≤ k → k < j → ops.toList[k]? = some o → kindA o.op ≠ 2) → H j = H i := by
        intro d
        induction d with
        | zero => intro i j hj _ _; rw [hj]; rfl
        | succ d ih =>
          intro i j hj hn hk
          obtain ⟨o, ho⟩ : ∃ o, ops.toList[i + d]? = some o := ⟨ops.toList[i + d]'(by simp; omega), by simp⟩
          rw [hj, show i + (d + 1) = (i + d) + 1 from rfl, Hsame (i + d) o ho (hk _ o (by omega) (by omega) ho)]
          exact ih i (i + d) rfl (by omega) fun k o h1 h2 => hk k o h1 (by omega)
      -- the end
      have done : ∀ (listed : Array Bool) (μ' : Mu) (a' : Act) (w' : World), (∀ i, i < ops.size → listed.getD i false = true) →
          (∃ m, m ≤ ops.size ∧ HR μ' (H m) w' ∧ Ext μ h w μ' (H m) w' ∧ ∀ (i : Nat) (o : Oper), ops.toList[i]? = some o → kindA o.op = 2 → (listed.getD i false = true ↔ i < m)) →
          a'.tmps.size = nt → a'.defers = [] →
          (∀ t k o, t < nt → ops.toList[k]? = some o → o.dst = some t → listed.getD k false = true → (∀ (k' : Nat) (o' : Oper), ops.toList[k']? = some o' → listed.getD k' false = true → o'.dst = some t → k' ≤ k) → VR μ' (V k) (a'.tmps.getD t undef)) →
          (∀ t v, (∀ (k : Nat) (o : Oper), ops.toList[k]? = some o → listed.getD k false = true → o.dst ≠ some t) → fr.get t = some v → VR μ' v (a'.tmps.getD t undef)) → Q .normal a' w' := by
        intro listed μ' a' w' hall hH hts htd hsl1 hsl2
        obtain ⟨m, hmn, hr', hext, hk2⟩ := hH
        have hHm : H ops.size = H m := Heq (ops.size - m) m ops.size (by omega) (Nat.le_refl _) fun k o h1 h2 ho hk => by
          have := (hk2 k o ho hk).1 (hall k h2); omega
        have gn' := gn
        rw [hlen] at gn'
        rw [← hHm, gn'] at hr' hext
        refine hq μ' a' w' ⟨fun t v hv => ?_, hts, htd⟩ hr' hext
        rw [← fn, hlen] at hv
        rcases wrote ops.size (Nat.le_refl _) t v hv with ⟨k, o, h1, h2, h3, h4, rfl, h6⟩ | ⟨h1, h2⟩
        · exact hsl1 t k o h4 h2 h3 (hall k h1) fun k' o' ho' _ hd' => h6 k' o' (by have := (List.getElem?_eq_some_iff.1 ho').1; omega) ho' hd'
        · exact hsl2 t v (fun k o ho _ => h1 k o (by have := (List.getElem?_eq_some_iff.1 ho).1; omega) ho) h2
      -- the walk over whatever order
      have main : ∀ (fuel : Nat) (listed : Array Bool) (μ' : Mu) (a' : Act) (w' : World) (us : List Nat), us.length ≤ fuel → (∀ i, i < ops.size → listed.getD i false = false → i ∈ us) → listed.size = ops.size →
          (∀ (i : Nat) (o : Oper), ops.toList[i]? = some o → listed.getD i false = true → ∀ e ∈ edgesL o.after.toList, listed.getD e false = true) →
          (∃ m, m ≤ ops.size ∧ HR μ' (H m) w' ∧ Ext μ h w μ' (H m) w' ∧ ∀ (i : Nat) (o : Oper), ops.toList[i]? = some o → kindA o.op = 2 → (listed.getD i false = true ↔ i < m)) →
          a'.tmps.size = nt → a'.defers = [] →
          (∀ t k o, t < nt → ops.toList[k]? = some o → o.dst = some t → listed.getD k false = true → (∀ (k' : Nat) (o' : Oper), ops.toList[k']? = some o' → listed.getD k' false = true → o'.dst = some t → k' ≤ k) → VR μ' (V k) (a'.tmps.getD t undef)) →
          (∀ t v, (∀ (k : Nat) (o : Oper), ops.toList[k]? = some o → listed.getD k false = true → o.dst ≠ some t) → fr.get t = some v → VR μ' v (a'.tmps.getD t undef)) →
          wpAny P .any ops Q fuel listed a' w' := by
        intro fuel
        induction fuel with
        | zero =>
          intro listed μ' a' w' us hu hus hsz hcl hH hts htd hsl1 hsl2
          have hall : ∀ i, i < ops.size → listed.getD i false = true := by
            intro i hi
            cases hl : listed.getD i false with
            | true => rfl
            | false =>
              have := hus i hi hl
              have : us = [] := List.eq_nil_of_length_eq_zero (by omega)
              subst this; simp at *
          refine ⟨?_, ?_⟩
          · simp only [Region.ready, List.filter_eq_nil_iff, List.mem_range]
            intro i hi hc
            have h1 := hall i hi
            have : listed.getD i true = true := by
              have hlt : i < listed.size := by omega
              simp [Array.getD, hlt] at h1 ⊢; exact h1
            simp [this] at hc
          · exact done listed μ' a' w' hall hH hts htd hsl1 hsl2
        | succ fuel ih =>
          intro listed μ' a' w' us hu hus hsz hcl hH hts htd hsl1 hsl2
          refine ⟨?_, ?_⟩
          · intro hready
            refine done listed μ' a' w' ?_ hH hts htd hsl1 hsl2
            intro i
            induction i using Nat.strongRecOn with
            | _ i ihi =>
              intro hin
              cases hl : listed.getD i false with
              | true => rfl
              | false =>
                exfalso
                have hlt : i < listed.size := by omega
                have hnt : listed.getD i true = false := by simp [Array.getD, hlt] at hl ⊢; exact hl
                have hmem : i ∈ Region.ready .any ops listed := by
                  simp only [Region.ready, List.mem_filter, List.mem_range, Bool.and_eq_true, Bool.not_eq_true']
                  refine ⟨hin, hnt, ?_⟩
                  have ho : ops[i]? = some ops[i] := by simp [hin]
                  rw [ho]
                  simp only [Option.map_some, Option.getD_some, Array.all_eq_true_iff_forall_mem]
                  intro x hx
                  cases hbx : Region.binds .any x with
                  | false => simp
                  | true =>
                    have he : x.on ∈ edgesL ops[i].after.toList := edgesL_mem.2 ⟨x, by simpa using hx, hbx, rfl⟩
                    have hlt' := (ord i ops[i] (by simp [hin])).2 _ he
                    simpa using ihi x.on hlt' (by omega)
                rw [hready] at hmem
                simp at hmem
          · intro i hi
            simp only [Region.ready, List.mem_filter, List.mem_range, Bool.and_eq_true, Bool.not_eq_true'] at hi
            obtain ⟨hin, hnl, hed⟩ := hi
            have hlt : i < listed.size := by omega
            have hnl' : listed.getD i false = false := by simp [Array.getD, hlt] at hnl ⊢; exact hnl
            have ho : ops[i]? = some ops[i] := by simp [hin]
            have hoL : ops.toList[i]? = some ops[i] := by simp [hin]
            have hedge : ∀ e ∈ edgesL ops[i].after.toList, listed.getD e false = true := by
              intro e he
              obtain ⟨x, h1, h2, h3⟩ := edgesL_mem.1 he
              rw [ho] at hed
              simp only [Option.map_some, Option.getD_some, Array.all_eq_true_iff_forall_mem] at hed
              have := hed x (by simpa using h1)
              simp [h2] at this
              rw [← h3]; simpa using this
            have hplist := predsIn (fun k => listed.getD k false = true) hcl i ops[i] hoL hedge
            -- what comes behind an operation that is not listed is not listed, or either may come first
            have behind : ∀ (k : Nat) (o : Oper), i < k → ops.toList[k]? = some o → listed.getD k false = true → freeS ops.toList ops[i] o = true := by
              intro k o hik hok hlk
              rcases (ord k o hok).1 i ops[i] hik hoL with h1 | h1
              · have h9 : listed.getD i false = true := predsIn (fun k => listed.getD k false = true) hcl k o hok (hcl k o hok hlk) i h1
                rw [hnl'] at h9; cases h9
              · exact h1
            have ahead : ∀ (k : Nat) (o : Oper), k < i → ops.toList[k]? = some o → listed.getD k false = true ∨ freeS ops.toList o ops[i] = true := by
              intro k o hki hok
              rcases (ord i ops[i] hoL).1 k o hki hok with h1 | h1
              · exact .inl (hplist k h1)
              · exact .inr h1
            obtain ⟨m, hmn, hrm, hext, hk2⟩ := hH
            -- the frame, as far as the operation looks
            have hget : ∀ t, (Tr.restrict.restrictL (fun t => memL t (looksL ops.toList ops[i])) (F i)).get t = bif memL t (looksL ops.toList ops[i]) then (F i).get t else none := fun t => Tr.get_restrict (F i) _ t
            have har : AR μ' nt (Tr.restrict.restrictL (fun t => memL t (looksL ops.toList ops[i])) (F i)) a' := by
              refine ⟨fun t v hv => ?_, hts, htd⟩
              rw [hget] at hv
              cases hmt : memL t (looksL ops.toList ops[i]) with
              | false => simp [hmt] at hv
              | true =>
                simp only [hmt, cond_true] at hv
                have hmt' := memL_iff.1 hmt
                rcases wrote i (by omega) t v hv with ⟨k, o, h1, h2, h3, h4, rfl, h6⟩ | ⟨h1, h2⟩
                · have hlk : listed.getD k false = true := by
                    rcases ahead k o h1 h2 with h7 | h7
                    · exact h7
                    · exact absurd hmt' ((freeS_spec h7).2.1 t h3)
                  refine hsl1 t k o h4 h2 h3 hlk fun k' o' ho' hl' hd' => ?_
                  rcases Nat.lt_trichotomy k' i with h7 | rfl | h7
                  · exact h6 k' o' h7 ho' hd'
                  · rw [hnl'] at hl'; cases hl'
                  · exact absurd hmt' ((freeS_spec (behind k' o' h7 ho' hl')).2.2.1 t hd')
                · refine hsl2 t v (fun k o hok hlk hd' => ?_) h2
                  rcases Nat.lt_trichotomy k i with h7 | rfl | h7
                  · exact h1 k o h7 hok hd'
                  · rw [hnl'] at hlk; cases hlk
                  · exact absurd hmt' ((freeS_spec (behind k o h7 hok hlk)).2.2.1 t hd')
            have hcong : ∀ Hx, stepA E call ops.toList (Tr.restrict.restrictL (fun t => memL t (looksL ops.toList ops[i])) (F i)) ops[i] Hx = stepA E call ops.toList (F i) ops[i] Hx := by
              intro Hx
              refine step_congr fun t ht => ?_
              rw [hget, memL_iff.2 ht]; rfl
            -- what it comes to, at the heap of this moment
            have hres : ∃ m', m' ≤ ops.size ∧ stepA E call ops.toList (F i) ops[i] (H m) = some (V i, H m') ∧
                ∀ (k : Nat) (o : Oper), ops.toList[k]? = some o → kindA o.op = 2 → ((listed.setIfInBounds i true).getD k false = true ↔ k < m') := by
              have keep : kindA ops[i].op ≠ 2 → ∀ (k : Nat) (o : Oper), ops.toList[k]? = some o → kindA o.op = 2 → ((listed.setIfInBounds i true).getD k false = true ↔ k < m) := by
                intro hne k o hok hk
                have hki : k ≠ i := by rintro rfl; rw [hoL] at hok; cases hok; exact hne hk
                rw [getD_set hlt, if_neg hki]; exact hk2 k o hok hk
              rcases Nat.eq_zero_or_pos (kindA ops[i].op) with h0 | hpos
              · exact ⟨m, hmn, step_free h0 (hstep i ops[i] hoL).1 (H m), keep (by omega)⟩
              · have h12 : kindA ops[i].op ≠ 0 := by omega
                have hiff : ∀ (k : Nat) (o : Oper), k ≠ i → ops.toList[k]? = some o → kindA o.op = 2 → (k < m ↔ k < i) := by
                  intro k o hne hok hk
                  rw [← hk2 k o hok hk]
                  constructor
                  · intro hlk
                    rcases Nat.lt_trichotomy k i with h7 | h7 | h7
                    · exact h7
                    · exact absurd h7 hne
                    · exact absurd (.inr ⟨h12, hk⟩) (freeS_spec (behind k o h7 hok hlk)).1
                  · intro hki
                    rcases ahead k o hki hok with h7 | h7
                    · exact h7
                    · exact absurd (.inl ⟨hk, h12⟩) (freeS_spec h7).1
                have hnm : kindA ops[i].op = 2 → ¬ i < m := by
                  intro h2 hlt2
                  have h9 := (hk2 i ops[i] hoL h2).2 hlt2
                  rw [hnl'] at h9; cases h9
                have hHi : H m = H i := by
                  rcases Nat.le_total m i with h7 | h7
                  · exact (Heq (i - m) m i (by omega) (by omega) fun k o h8 h9 hok hk => by have := (hiff k o (by omega) hok hk).2 h9; omega).symm
                  · refine Heq (m - i) i m (by omega) hmn fun k o h8 h9 hok hk => ?_
                    by_cases hki : k = i
                    · subst hki; rw [hoL] at hok; cases hok; exact hnm hk h9
                    · have := (hiff k o hki hok hk).1 h9; omega
                rcases Nat.lt_or_ge (kindA ops[i].op) 2 with hlt2 | hge2
                · refine ⟨m, hmn, ?_, keep (by omega)⟩
                  have hs1 := (hstep i ops[i] hoL).1
                  rw [Hsame i ops[i] hoL (by omega)] at hs1
                  rw [hHi]; exact hs1
                · have h2 : kindA ops[i].op = 2 := by have := kindA_le ops[i].op; omega
                  refine ⟨i + 1, hin, by rw [hHi]; exact (hstep i ops[i] hoL).1, fun k o hok hk => ?_⟩
                  rw [getD_set hlt]
                  by_cases hki : k = i
                  · rw [if_pos hki]; simp; omega
                  · rw [if_neg hki, hk2 k o hok hk, hiff k o hki hok hk]; omega
            obtain ⟨m', hmn', hstepm, hk2'⟩ := hres
            show wpOp P ops Q i _ a' w'
            unfold wpOp
            rw [ho]
            refine step_wp ok hcall hrm har (by rw [hcong]; exact hstepm) ?_
            intro μ2 u w2 hv hr2 hext2
            refine ih (listed.setIfInBounds i true) μ2 _ w2 (us.erase i) ?_ ?_ (by simpa using hsz) ?_ ⟨m', hmn', hr2, Ext.trans hr hext hext2, hk2'⟩ (by simpa [Act.put] using (by cases ops[i].dst <;> simp [hts])) (by cases ops[i].dst <;> simp [Act.put, htd]) ?_ ?_
            · have := hus i hin hnl'
              rw [List.length_erase_of_mem this]; omega
            · intro k hk hl
              rw [getD_set hlt] at hl
              by_cases hki : k = i
              · rw [if_pos hki] at hl; cases hl
              · rw [if_neg hki] at hl
                exact (List.mem_erase_of_ne hki).2 (hus k hk hl)
            · intro k o hok hl e he
              rw [getD_set hlt] at hl ⊢
              by_cases hei : e = i
              · rw [if_pos hei]
              · rw [if_neg hei]
                by_cases hki : k = i
                · subst hki; rw [hoL] at hok; cases hok; exact hedge e he
                · rw [if_neg hki] at hl; exact hcl k o hok hl e he
            · intro t k o htn hok hd' hl hmax
              rw [getD_set hlt] at hl
              by_cases hdi : ops[i].dst = some t
              · have hik : i ≤ k := hmax i ops[i] hoL (by rw [getD_set hlt, if_pos rfl]) hdi
                have hki : k = i := by
                  by_cases hki : k = i
                  · exact hki
                  · rw [if_neg hki] at hl
                    exact absurd hd' ((freeS_spec (behind k o (by omega) hok hl)).2.2.2 t hdi)
                subst hki
                rw [hdi, put_same (by omega)]; exact hv
              · have hki : k ≠ i := by rintro rfl; rw [hoL] at hok; cases hok; exact hdi hd'
                rw [if_neg hki] at hl
                rw [put_other hdi]
                refine VR.mono hext2.mono _ _ (hsl1 t k o htn hok hd' hl fun k' o' ho' hl' hd'' => hmax k' o' ho' ?_ hd'')
                rw [getD_set hlt]; split
                · rfl
                · exact hl'
            · intro t v hno hv'
              have hdi : ops[i].dst ≠ some t := hno i ops[i] hoL (by rw [getD_set hlt, if_pos rfl])
              rw [put_other hdi]
              refine VR.mono hext2.mono _ _ (hsl2 t v (fun k o hok hl => hno k o hok ?_) hv')
              rw [getD_set hlt]; split
              · rfl
              · exact hl
      refine wp_region_any hm ?_
      have hr0 : HR μ h { w with drawn := w.drawn + 1 } := hr.draws rfl
      have hfalse : ∀ k, (Array.replicate ops.size false).getD k false = false := by
        intro k; simp [Array.getD]
      refine main ops.size _ μ a _ (List.range ops.size) (by simp) (by intro i hi _; simpa using hi) (by simp) ?_ ⟨0, Nat.zero_le _, by rw [g0]; exact hr0, by rw [g0]; exact Ext.draws rfl rfl rfl rfl, ?_⟩ ha.size ha.defers ?_ ?_
      · intro i o _ hl; rw [hfalse] at hl; cases hl
      · intro i o _ _; rw [hfalse]; simp
      · intro t k o _ _ _ hl; rw [hfalse] at hl; cases hl
      · intro t v _ hv; exact ha.slot t v hv
    }
  }
end
end Go.Proofs.YtkcjphhjmlienaaGreatDoor.Ai

namespace Go.Proofs.YtkcjphhjmlienaaGreatDoor.Ai
namespace Tr
variable {α : Type}
theorem beq0 {n : Nat} : Nat.beq n 0 = decide (n = 0) := by cases n <;> rfl
theorem beq1 {n : Nat} : Nat.beq (n % 2) 1 = decide (n % 2 = 1) := by
  cases h : Nat.beq (n % 2) 1 with
  | true => have := Nat.eq_of_beq_eq_true h; simp [this]
  | false => have := Nat.ne_of_beq_eq_false h; simp [this]
theorem get_setN_same : ∀ (f : Nat) (t : Tr α) (n : Nat) (x : α), n + 1 < 2 ^ f → get (setN f t n x) n = some x
  | 0, t, n, x, h => by simp at h
  | f + 1, t, n, x, h => by
    have hp : 2 ^ (f + 1) = 2 * 2 ^ f := by rw [Nat.pow_succ, Nat.mul_comm]
    have ho : n % 2 = 1 → n / 2 + 1 < 2 ^ f := by intro h1; omega
    have he : ¬ n = 0 → ¬ n % 2 = 1 → n / 2 - 1 + 1 < 2 ^ f := by intro h1 h2; omega
    cases t <;> simp only [setN, beq0, beq1] <;> by_cases h0 : n = 0 <;> by_cases h1 : n % 2 = 1 <;>
      simp only [h0, h1, decide_true, decide_false, cond_true, cond_false, get, beq0, beq1] <;> first
        | rfl
        | exact get_setN_same f _ _ x (ho h1)
        | exact get_setN_same f _ _ x (he h0 h1)
        | (exfalso; omega)
theorem get_setN_other : ∀ (f : Nat) (t : Tr α) (n m : Nat) (x y : α), n + 1 < 2 ^ f → m ≠ n → get t m = some y → get (setN f t n x) m = some y
  | 0, t, n, m, x, y, h, _, _ => by simp at h
  | f + 1, nil, n, m, x, y, h, _, hg => by simp [get_nil] at hg
  | f + 1, node l v r, n, m, x, y, h, hne, hg => by
    have hp : 2 ^ (f + 1) = 2 * 2 ^ f := by rw [Nat.pow_succ, Nat.mul_comm]
    have ho : n % 2 = 1 → n / 2 + 1 < 2 ^ f := by intro h1; omega
    have he : ¬ n = 0 → ¬ n % 2 = 1 → n / 2 - 1 + 1 < 2 ^ f := by intro h1 h2; omega
    simp only [setN, beq0, beq1] at *
    simp only [get, beq0, beq1] at hg
    by_cases h0 : n = 0 <;> by_cases h1 : n % 2 = 1 <;> by_cases m0 : m = 0 <;> by_cases m1 : m % 2 = 1 <;>
      simp only [h0, h1, m0, m1, decide_true, decide_false, cond_true, cond_false, get, beq0, beq1] at hg ⊢ <;> first
        | exact hg
        | exact get_setN_other f _ _ _ x y (ho h1) (by omega) hg
        | exact get_setN_other f _ _ _ x y (he h0 h1) (by omega) hg
        | (exfalso; omega)
theorem pn (n : Nat) : n + 1 < 2 ^ (n + 1) := Nat.lt_two_pow_self
theorem get_set_same {t : Tr α} {n : Nat} {x : α} : (t.set n x).get n = some x := get_setN_same (n + 1) t n x (pn n)
theorem get_set_other {t : Tr α} {n m : Nat} {x y : α} (hne : m ≠ n) (hg : t.get m = some y) : (t.set n x).get m = some y := get_setN_other (n + 1) t n m x y (pn n) hne hg
end Tr
/-! a region that draws its order, in which all that turns the heap makes new blocks -/
def againstP (ops : List Oper) (o : Oper) (ps : List Nat) : Nat → List Oper → Bool
  | _, [] => true
  | j, x :: r => (memL j ps || freeP ops x o) && againstP ops o ps (j + 1) r
def orderPGo (ops : List Oper) (preds : List (List Nat)) : Nat → List Oper → Bool
  | _, [] => true
  | i, o :: r => (!Nat.beq (kindA o.op) 2 || allocA o.op) && againstP ops o ((preds[i]?).getD []) 0 (ops.take i) && (edgesL o.after.toList).all (fun e => Nat.blt e i) && orderPGo ops preds (i + 1) r
def orderP (ops : List Oper) : Bool := orderPGo ops (predsGo ops []) 0 ops
def freeR (ops : List Oper) (x y : Oper) : Bool := freeP ops x y && !(Nat.beq (kindA x.op) 2 && Nat.beq (kindA y.op) 2 && (bigR x.op || bigR y.op))
def againstR (ops : List Oper) (o : Oper) (ps : List Nat) : Nat → List Oper → Bool
  | _, [] => true
  | j, x :: r => (memL j ps || freeR ops x o) && againstR ops o ps (j + 1) r
def orderRGo (ops : List Oper) (preds : List (List Nat)) : Nat → List Oper → Bool
  | _, [] => true
  | i, o :: r => againstR ops o ((preds[i]?).getD []) 0 (ops.take i) && (edgesL o.after.toList).all (fun e => Nat.blt e i) && orderRGo ops preds (i + 1) r
def orderR (ops : List Oper) : Bool := orderRGo ops (predsGo ops []) 0 ops
section
variable {E : Env} {P : Program} {μ : Mu} {w : World} {n : Nat}
/-- what makes a new block, at a name that is free -/
def NewAt (P : Program) (s : Sem Value) (μ : Mu) (w : World) (n : Nat) (x : AV) (b : Blk) : Prop :=
  ∃ l u o, s.run P w = .ok u (w.alloc o) ∧ l.b = w.heap.size ∧ VR (μ.add n l) x u ∧ BR (μ.add n l) (w.alloc o) l b
theorem row_new (hn : μ n = none) (xs : List AV) (cs : Array Value) (e : TypeId) (hx : VRs μ xs cs.toList) :
    ∃ l, l.b = w.heap.size ∧ l.sh = 0 ∧ l.tot = xs.length ∧ l.ex = true ∧ BR (μ.add n l) (w.alloc (.cells cs e)) l (.row xs .own) := by
  have hlen := hx.length
  refine ⟨⟨w.heap.size, 0, xs.length, true⟩, rfl, rfl, rfl, rfl, ?_⟩
  have hle : μ.le (μ.add n ⟨w.heap.size, 0, xs.length, true⟩) := Mu.le_add hn
  have hx' := VRs.mono hle _ _ hx
  refine ⟨⟨⟨e, ?_⟩, by simp, ?_⟩, rfl, rfl, rfl, ?_⟩
  · have hg : (w.alloc (.cells cs e)).heap[w.heap.size]? = some (.cells cs e) := by show (w.heap.push _)[_]? = _; simp
    simp only [World.shape?, hg]; simpa using hlen
  · intro i x hi
    obtain ⟨y, hy, hr'⟩ := hx'.get hi
    refine ⟨y, ?_, hr'⟩
    rw [World.cell?_alloc_new]
    simpa using hy
  · intro i _; exact World.frozen?_alloc_new w cs e i
theorem newRow_at (hn : μ n = none) {xs : List AV} {cs : Array Value} {e : TypeId} (hx : VRs μ xs cs.toList) : NewAt P (do pure (.pointer (some (← newRow e cs)))) μ w n (.ptr (some (n, 0))) (.row xs .own) := by
  obtain ⟨l, l1, l2, l3, l4, h1⟩ := row_new (w := w) hn xs cs e hx
  refine ⟨l, .pointer (some ⟨w.heap.size, 0, none⟩), _, ?_, l1, ?_, h1⟩
  · simp only [newRow, Sem.run_bind, run_newObj, Result.andThen_ok, Sem.run_pure]; rfl
  · simp only [VR]; exact ⟨l, add_self _ _ _, by rw [l1, l2]⟩
theorem newRowT_at (hn : μ n = none) {xs : List AV} {cs : Array Value} {e : TypeId} (hx : VRs μ xs cs.toList) : NewAt P (do pure (.pointer (some (← newRow e cs)))) μ w n (.ptr (some (n, 0))) (.row xs (.ty e)) := by
  obtain ⟨l, l1, l2, l3, l4, h1⟩ := row_new (w := w) hn xs cs e hx
  have hlen := hx.length
  refine ⟨l, .pointer (some ⟨w.heap.size, 0, none⟩), _, ?_, l1, ?_, ⟨h1, ?_⟩⟩
  · simp only [newRow, Sem.run_bind, run_newObj, Result.andThen_ok, Sem.run_pure]; rfl
  · simp only [VR]; exact ⟨l, add_self _ _ _, by rw [l1, l2]⟩
  · have hg : (w.alloc (.cells cs e)).heap[w.heap.size]? = some (.cells cs e) := by show (w.heap.push _)[_]? = _; simp
    rw [l1, l3]
    simp only [World.shape?, hg]; simpa using hlen
theorem box_at (E : Env) (hn : μ n = none) {e : TypeId} {v : AV} {u : Value} (hv : VR μ v u) : NewAt P (Instr.box e u) μ w n (.ptr (some (n, 0))) (.row v.cells (bif E.trk e then .ty e else .own)) := by
  cases E.trk e with
  | false =>
    obtain ⟨l, u', o, h1, h2⟩ := newRow_at (P := P) (w := w) (e := e) hn hv.cells
    refine ⟨l, u', o, ?_, h2⟩
    simp only [Instr.box, newVar]
    exact h1
  | true =>
    obtain ⟨l, u', o, h1, h2⟩ := newRowT_at (P := P) (w := w) (e := e) hn hv.cells
    refine ⟨l, u', o, ?_, h2⟩
    simp only [Instr.box, newVar]
    exact h1
theorem alloc_at (ok : EnvOK E P) (hn : μ n = none) {e : TypeId} {z : AV} (hz : E.zero e = some z) : NewAt P (Instr.alloc e true (.tuple #[])) μ w n (.ptr (some (n, 0))) (.row z.cells (bif E.trk e then .ty e else .own)) := by
  obtain ⟨zv, hzr, hzv⟩ := zero_sound ok hz
  cases E.trk e with
  | false =>
    obtain ⟨l, u, o, h1, h2⟩ := newRow_at (P := P) (w := w) (e := e) hn (hzv μ).cells
    refine ⟨l, u, o, ?_, h2⟩
    simp only [Instr.alloc, Sem.run_bind, hzr, Result.andThen_ok, newVar]
    simpa using h1
  | true =>
    obtain ⟨l, u, o, h1, h2⟩ := newRowT_at (P := P) (w := w) (e := e) hn (hzv μ).cells
    refine ⟨l, u, o, ?_, h2⟩
    simp only [Instr.alloc, Sem.run_bind, hzr, Result.andThen_ok, newVar]
    simpa using h1
theorem makeSlice_at (ok : EnvOK E P) {h h' : Heap} {t : TypeId} {lv cv : AV} {lu cu : Value} {x : AV} (hn : μ h.next = none) (hl : VR μ lv lu) (hc : VR μ cv cu) (hx : makeSliceA E t lv cv h = some (x, h')) :
    ∃ b, h' = h.push b ∧ NewAt P (Instr.makeSlice t lu cu) μ w h.next x b := by
  unfold makeSliceA at hx
  split at hx
  · rename_i e l c hu h1 h2
    obtain ⟨k, rfl⟩ := natOf_int h1 hl
    obtain ⟨k', rfl⟩ := natOf_int h2 hc
    cases hi : E.info e with
    | none => simp [hi] at hx
    | some i =>
      cases hz : E.zero e with
      | none => simp [hi, hz] at hx
      | some z =>
        simp only [hi, hz] at hx
        obtain ⟨zv, hzr, hzv⟩ := zero_sound ok hz
        cases hb : (Nat.ble l c && Nat.ble (c * (i.bytes + i.size + 1)) roomA && Nat.beq z.cells.length i.size) with
        | false => simp [hb] at hx
        | true =>
          simp only [hb, cond_true, Option.some.injEq, Prod.mk.injEq] at hx
          obtain ⟨rfl, rfl⟩ := hx
          simp only [Bool.and_eq_true] at hb
          have hb1 : l ≤ c := by simpa using hb.1.1
          have hb2 : c * (i.bytes + i.size + 1) ≤ 1073741824 := Nat.le_of_ble_eq_true hb.1.2
          have hb3 : z.cells.length = i.size := Nat.eq_of_beq_eq_true hb.2
          have hcb : c * i.bytes ≤ 1073741824 := Nat.le_trans (Nat.mul_le_mul_left _ (by omega)) hb2
          have hcc : c ≤ 1073741824 := Nat.le_trans (Nat.le_mul_of_pos_right c (by omega)) hb2
          have zs := zeros_sound (n := c) (hzv μ)
          rw [hb3] at zs
          obtain ⟨lc, l1, l2, l3, l4, h5⟩ := row_new (w := w) hn (repL c z.cells) _ e zs
          have hinfo := ok.info e i hi
          refine ⟨_, rfl, lc, .slice (some ⟨w.heap.size, 0, none⟩) l c, _, ?_, l1, ?_, h5⟩
          · have e1 : (decide ((c : Int) < 0) || decide ((i.bytes : Int) * (c : Int) > 2 ^ 48)) = false := by
              have : (i.bytes : Int) * (c : Int) ≤ 1073741824 := by
                have e0 : (i.bytes : Int) * (c : Int) = ((c * i.bytes : Nat) : Int) := by rw [Int.natCast_mul, Int.mul_comm]
                rw [e0]; omega
              have e2 : ¬ ((c : Int) < 0) := by omega
              have e3 : ¬ ((i.bytes : Int) * (c : Int) > 2 ^ 48) := by
                have : (2 : Int) ^ 48 = 281474976710656 := by decide
                omega
              rw [decide_eq_false e2, decide_eq_false e3]; rfl
            have e4 : (decide ((l : Int) < 0)) = false := by simp
            have e5 : (decide ((l : Int) > (c : Int))) = false := by simp; exact hb1
            have hsize : (sizeOf e).run P w = .ok i.size w := run_size hinfo
            simp only [Instr.makeSlice, Sem.run_bind, run_und (und_sound ok hu), Result.andThen_ok, asInt, asIntOf, Sem.run_pure, run_info hinfo, wrap_small c hcc, wrap_small l (by omega), e1, e4, e5, Bool.or_self, Bool.false_eq_true, if_false,
              run_askRoom, hsize, Int.toNat_natCast]
            by_cases h0 : c * i.size = 0
            · simp only [h0, if_true, Sem.run_pure, Result.andThen_ok, newRow, Sem.run_bind, run_newObj, show Array.range 0 = #[] from rfl, Array.map_empty]
              rfl
            · simp only [h0, if_false, Sem.run_bind, hzr, Sem.run_pure, Result.andThen_ok, newRow, run_newObj]
              rfl
          · have := VR.slice_own (μ := μ.add h.next lc) (A := h.next) (off := 0) (len := l) (cap := c) (sz := i.size) (add_self _ _ _) hb1 (by rw [l2, l3, repL_length, hb3]; omega)
            rw [l1, l2] at this; exact this
  · simp at hx
/-- a new block, that the heap has already -/
theorem HR.at {h : Heap} (hr : HR μ h w) (hn : μ n = none) (hlt : n < h.next) {b : Blk} (hg : h.t.get n = some b) (o : Obj) (l : Loc) (hl : l.b = w.heap.size) (hb : BR (μ.add n l) (w.alloc o) l b) : HR (μ.add n l) h (w.alloc o) := by
  have hle : μ.le (μ.add n l) := Mu.le_add hn
  have hold : ∀ k, k < w.heap.size → (w.alloc o).heap[k]? = w.heap[k]? := fun k hk => by
    show (w.heap.push o)[k]? = _
    rw [Array.getElem?_push, if_neg (by omega)]
  have hadd : ∀ {A k}, μ.add n l A = some k → (A = n ∧ k = l) ∨ (A ≠ n ∧ μ A = some k) := by
    intro A k hA
    unfold Mu.add at hA
    split at hA
    · rename_i e; exact .inl ⟨e, by cases hA; rfl⟩
    · rename_i e; exact .inr ⟨e, hA⟩
  refine ⟨?_, ?_, ?_, fun x hx => hle _ _ (hr.pin x hx)⟩
  · intro A k hA
    rcases hadd hA with ⟨rfl, rfl⟩ | ⟨_, h1⟩
    · exact ⟨hlt, by simp [hl]⟩
    · exact ⟨(hr.dom A k h1).1, by simp; have := (hr.dom A k h1).2; omega⟩
  · intro A B la lb ba bb hA hB ga gb va vb hne heq
    rcases hadd hA with ⟨rfl, rfl⟩ | ⟨na, h1⟩
    · rcases hadd hB with ⟨rfl, rfl⟩ | ⟨nb, h2⟩
      · exact absurd rfl hne
      · have := (hr.dom B lb h2).2; omega
    · rcases hadd hB with ⟨rfl, rfl⟩ | ⟨nb, h2⟩
      · have := (hr.dom A la h1).2; omega
      · exact hr.inj A B la lb ba bb h1 h2 ga gb va vb hne heq
  · intro A k b' hA hg'
    rcases hadd hA with ⟨rfl, rfl⟩ | ⟨na, h1⟩
    · rw [hg] at hg'; cases hg'; exact hb
    · exact BR.mono hle (BR.heap (hold _ (hr.dom A k h1).2) (hr.blk A k b' h1 hg'))
theorem Ext.at {mu0 : Mu} {h0 h : Heap} {w0 : World} (hx : Ext mu0 h0 w0 μ h w) (hn : μ n = none) (hle : h0.next ≤ n) (o : Obj) (l : Loc) (hl : l.b = w.heap.size) : Ext mu0 h0 w0 (μ.add n l) h (w.alloc o) := by
  have hadd : ∀ {A k}, μ.add n l A = some k → (A = n ∧ k = l) ∨ (A ≠ n ∧ μ A = some k) := by
    intro A k hA
    unfold Mu.add at hA
    split at hA
    · rename_i e; exact .inl ⟨e, by cases hA; rfl⟩
    · rename_i e; exact .inr ⟨e, hA⟩
  refine ⟨fun A k hA => Mu.le_add hn A k (hx.mono A k hA), hx.next, ?_, hx.wr, ?_, ?_, hx.os, hx.tape, hx.output⟩
  · intro A k hA
    rcases hadd hA with ⟨rfl, rfl⟩ | ⟨_, h1⟩
    · exact .inr ⟨hle, .inl (by rw [hl]; exact hx.size)⟩
    · exact hx.fresh A k h1
  · intro b hb hno
    rw [← hx.frame b hb hno]
    show (w.heap.push o)[b]? = _
    have := hx.size
    rw [Array.getElem?_push, if_neg (by omega)]
  · have := hx.size
    simp; omega
end
end Go.Proofs.YtkcjphhjmlienaaGreatDoor.Ai

namespace Go.Proofs.YtkcjphhjmlienaaGreatDoor.Ai
section
variable {α : Type}
variable {E : Env} {P : Program} {call : CallF} {fr fr2 : Fr}
theorem get_set_of' {α : Type} {t : Tr α} {n m : Nat} {x : α} (hne : m ≠ n) : (t.set n x).get m = t.get m := by
  cases h : t.get m with
  | some y => exact Tr.get_set_other hne h
  | none =>
    cases h2 : (t.set n x).get m with
    | none => rfl
    | some y =>
      rcases Tr.get_set h2 with ⟨e, _⟩ | ⟨_, e⟩
      · exact absurd e hne
      · rw [h] at e; cases e
theorem againstP_spec {ops : List Oper} {o : Oper} {ps : List Nat} : ∀ {l : List Oper} {j : Nat}, againstP ops o ps j l = true → ∀ k x, l[k]? = some x → j + k ∈ ps ∨ freeP ops x o = true
  | [], j, h, k, x, hk => by simp at hk
  | y :: r, j, h, k, x, hk => by
    simp only [againstP, Bool.and_eq_true, Bool.or_eq_true] at h
    cases k with
    | zero => simp at hk; subst hk; exact h.1.imp (fun e => by simpa using memL_iff.1 e) id
    | succ k =>
      simp at hk
      have := againstP_spec h.2 k x hk
      rw [show j + (k + 1) = j + 1 + k from by omega]; exact this
theorem orderP_spec {ops : List Oper} {preds : List (List Nat)} : ∀ {l : List Oper} {i : Nat}, orderPGo ops preds i l = true → ∀ k o, l[k]? = some o →
    (∀ j x, (ops.take (i + k))[j]? = some x → j ∈ (preds[i + k]?).getD [] ∨ freeP ops x o = true) ∧ (∀ e ∈ edgesL o.after.toList, e < i + k) ∧ (kindA o.op = 2 → allocA o.op = true)
  | [], i, h, k, o, hk => by simp at hk
  | y :: r, i, h, k, o, hk => by
    simp only [orderPGo, Bool.and_eq_true] at h
    cases k with
    | zero =>
      simp at hk; subst hk
      refine ⟨fun j x hj => by simpa using againstP_spec h.1.1.2 j x (by simpa using hj), fun e he => ?_, fun h2 => ?_⟩
      · have := List.all_eq_true.1 h.1.2 e he
        simpa [Nat.blt_eq] using this
      · have h3 := h.1.1.1
        rw [h2] at h3
        simpa using h3
    | succ k =>
      simp at hk
      have := orderP_spec h.2 k o hk
      rw [show i + (k + 1) = i + 1 + k from by omega]; exact this
theorem freeP_spec {ops : List Oper} {x y : Oper} (hf : freeP ops x y = true) : True ∧ (∀ t, x.dst = some t → t ∉ looksL ops y) ∧ (∀ t, y.dst = some t → t ∉ looksL ops x) ∧ (∀ t, x.dst = some t → y.dst ≠ some t) := by
  simp only [freeP, Bool.and_eq_true, Bool.not_eq_true'] at hf
  obtain ⟨⟨h2, h3⟩, h4⟩ := hf
  refine ⟨trivial, ?_, ?_, ?_⟩
  · intro t ht hm; simp only [dstIn, ht] at h2; rw [memL_iff.2 hm] at h2; cases h2
  · intro t ht hm; simp only [dstIn, ht] at h3; rw [memL_iff.2 hm] at h3; cases h3
  · intro t ht hy; simp only [sameDst, ht, hy] at h4; rw [bt rfl] at h4; cases h4
/-- reads come to the same at the end -/
def StableP (E : Env) (call : CallF) (ops : List Oper) (recs : List (Fr × Heap × AV)) (h' : Heap) : Prop :=
  ∀ (i : Nat) (o : Oper) (f : Fr) (hh : Heap) (v : AV), ops[i]? = some o → recs[i]? = some (f, hh, v) → kindA o.op = 1 → ∃ u h2, stepA E call ops f o h' = some (u, h2) ∧ eqV u v = true
/-- what makes a new block turns the heap so -/
theorem alloc_step (ok : EnvOK E P) {μ : Mu} {nt : Nat} {a : Act} (ha : AR μ nt fr a) {o : Oper} (hk : allocA o.op = true) {h h' : Heap} {x : AV} (hx : oneA E call fr o.op h = some (x, h')) (hn : μ h.next = none) (w : World) :
    ∃ b s, h' = h.push b ∧ execOp a.eval o = (do pure (.value (← s))) ∧ NewAt P s μ w h.next x b := by
  obtain ⟨dst, op, type, pos, after, guard⟩ := o
  simp only at hx hk
  cases op <;> simp only [allocA, reduceCtorEq] at hk
  case alloc e =>
    simp only [oneA, opA] at hx
    cases hz : E.zero e with
    | none => simp [hz] at hx
    | some z =>
      simp only [hz, Option.some.injEq, newRowA, Prod.mk.injEq] at hx
      obtain ⟨rfl, rfl⟩ := hx
      exact ⟨_, _, rfl, rfl, alloc_at (P := P) ok hn hz⟩
  case box e y =>
    simp only [oneA, opA] at hx
    obtain ⟨v, h1, h2⟩ := op1_spec hx
    simp only [Option.some.injEq, newRowA, Prod.mk.injEq] at h2
    obtain ⟨rfl, rfl⟩ := h2
    exact ⟨_, _, rfl, rfl, box_at (P := P) E hn (opnd_sound ha h1)⟩
  case makeSlice t l c =>
    simp only [oneA, opA] at hx
    obtain ⟨v, u, h1, h2, h3⟩ := op2_spec hx
    obtain ⟨b, e1, e2⟩ := makeSlice_at (P := P) (w := w) ok hn (opnd_sound ha h1) (opnd_sound ha h2) h3
    exact ⟨b, _, e1, rfl, e2⟩
theorem alloc_push (call : CallF) {o : Oper} (hk : allocA o.op = true) {h h' : Heap} {x : AV} (hx : oneA E call fr o.op h = some (x, h')) : ∃ b, h' = h.push b := by
  obtain ⟨dst, op, type, pos, after, guard⟩ := o
  simp only at hx hk
  cases op <;> simp only [allocA, reduceCtorEq] at hk
  case alloc e =>
    simp only [oneA, opA] at hx
    cases hz : E.zero e with
    | none => simp [hz] at hx
    | some z =>
      simp only [hz, Option.some.injEq, newRowA, Prod.mk.injEq] at hx
      exact ⟨_, hx.2.symm⟩
  case box e y =>
    simp only [oneA, opA] at hx
    obtain ⟨v, h1, h2⟩ := op1_spec hx
    simp only [Option.some.injEq, newRowA, Prod.mk.injEq] at h2
    exact ⟨_, h2.2.symm⟩
  case makeSlice t l c =>
    simp only [oneA, opA] at hx
    obtain ⟨v, u, h1, h2, h3⟩ := op2_spec hx
    unfold makeSliceA at h3
    split at h3
    · rename_i e l c hu g1 g2
      cases hi : E.info e with
      | none => simp [hi] at h3
      | some i =>
        cases hz : E.zero e with
        | none => simp [hi, hz] at h3
        | some z =>
          simp only [hi, hz] at h3
          cases hb : (Nat.ble l c && Nat.ble (c * (i.bytes + i.size + 1)) roomA && Nat.beq z.cells.length i.size) with
          | false => simp [hb] at h3
          | true =>
            simp only [hb, cond_true, Option.some.injEq, Prod.mk.injEq] at h3
            exact ⟨_, h3.2.symm⟩
    · cases h3
theorem drawP_wp (ok : EnvOK E P) (hm : P.follows .mixedOrders = true) (hcall : CallOK P call) {nt id : Nat} {ops : Array Oper} {h : Heap} {fr' : Fr} {h' : Heap} {recs : List (Fr × Heap × AV)} (ht : traceA E call nt ops.toList ops.toList fr h = some (recs, fr', h')) (hord : orderP ops.toList = true) (hstab : StableP E call ops.toList recs h')
    {μ : Mu} {w : World} {a : Act} {Q : Exit → Act → World → Prop} (hr : HR μ h w) (ha : AR μ nt fr a) (hq : ∀ μ' a' w', AR μ' nt fr' a' → HR μ' h' w' → Ext μ h w μ' h' w' → Q .normal a' w') : (Code.region id ops true).wp P Q a w := by
  skip
  {
    skip
    {
      obtain ⟨F, H, V, f0, g0, fn, gn, hstep, hrec⟩ := trace_recs ht
      have hlen : ops.toList.length = ops.size := by simp
      -- the order
      have ord : ∀ (i : Nat) (o : Oper), ops.toList[i]? = some o → (∀ (j : Nat) (x : Oper), j < i → ops.toList[j]? = some x → j ∈ ((predsGo ops.toList [])[i]?).getD [] ∨ freeP ops.toList x o = true) ∧ (∀ e ∈ edgesL o.after.toList, e < i) ∧ (kindA o.op = 2 → allocA o.op = true) := by
        intro i o ho
        have := orderP_spec (i := 0) hord i o ho
        simp only [Nat.zero_add] at this
        exact ⟨fun j x hj hx => this.1 j x (by rw [List.getElem?_take_of_lt hj]; exact hx), this.2.1, this.2.2⟩
      have hpreds : ∀ (i : Nat) (ps : List Nat), (predsGo ops.toList [])[i]? = some ps → ∃ o : Oper, ops.toList[i]? = some o ∧ ∀ p ∈ ps, p ∈ edgesL o.after.toList ∨ ∃ e ∈ edgesL o.after.toList, ∃ qs, (predsGo ops.toList [])[e]? = some qs ∧ p ∈ qs := by
        intro i ps hi
        have := preds_spec ops.toList [] [] rfl (by simp) i ps hi
        simpa using this
      have predsIn : ∀ (S : Nat → Prop), (∀ (i : Nat) (o : Oper), ops.toList[i]? = some o → S i → ∀ e ∈ edgesL o.after.toList, S e) →
          ∀ (i : Nat) (o : Oper), ops.toList[i]? = some o → (∀ e ∈ edgesL o.after.toList, S e) → ∀ p ∈ ((predsGo ops.toList [])[i]?).getD [], S p := by
        intro S hcl i
        induction i using Nat.strongRecOn with
        | _ i ih =>
          intro o ho he p hp
          cases hps : (predsGo ops.toList [])[i]? with
          | none => simp [hps] at hp
          | some ps =>
            simp [hps] at hp
            obtain ⟨o', ho', hpp⟩ := hpreds i ps hps
            rw [ho] at ho'; cases ho'
            rcases hpp p hp with h3 | ⟨e, h3, qs, h4, h5⟩
            · exact he p h3
            · have hlt := (ord i o ho).2.1 e h3
              obtain ⟨oe, hoe, _⟩ := hpreds e qs h4
              exact ih e hlt oe hoe (hcl e oe hoe (he e h3)) p (by simp [h4]; exact h5)
      -- who wrote a slot, in the order of the text
      have wrote : ∀ (i : Nat), i ≤ ops.size → ∀ t v, (F i).get t = some v →
          (∃ k o, k < i ∧ ops.toList[k]? = some o ∧ o.dst = some t ∧ t < nt ∧ v = V k ∧ ∀ k' o', k' < i → ops.toList[k']? = some o' → o'.dst = some t → k' ≤ k) ∨
          ((∀ k o, k < i → ops.toList[k]? = some o → o.dst ≠ some t) ∧ fr.get t = some v) := by
        intro i
        induction i with
        | zero => intro _ t v hv; rw [f0] at hv; exact .inr ⟨fun k o hk => by omega, hv⟩
        | succ i ih =>
          intro hi t v hv
          obtain ⟨o, ho⟩ : ∃ o, ops.toList[i]? = some o := ⟨ops.toList[i]'(by simp; omega), by simp⟩
          rw [(hstep i o ho).2] at hv
          have old : (F i).get t = some v → o.dst ≠ some t → (∃ k o, k < i + 1 ∧ ops.toList[k]? = some o ∧ o.dst = some t ∧ t < nt ∧ v = V k ∧ ∀ k' o', k' < i + 1 → ops.toList[k']? = some o' → o'.dst = some t → k' ≤ k) ∨
              ((∀ k o, k < i + 1 → ops.toList[k]? = some o → o.dst ≠ some t) ∧ fr.get t = some v) := by
            intro hv' hne
            rcases ih (by omega) t v hv' with ⟨k, ok', h1, h2, h3, h4, h5, h6⟩ | ⟨h1, h2⟩
            · refine .inl ⟨k, ok', by omega, h2, h3, h4, h5, fun k' o' hk' ho' hd' => ?_⟩
              by_cases e : k' = i
              · subst e; rw [ho] at ho'; cases ho'; exact absurd hd' hne
              · exact h6 k' o' (by omega) ho' hd'
            · refine .inr ⟨fun k ok' hk ho' hd' => ?_, h2⟩
              by_cases e : k = i
              · subst e; rw [ho] at ho'; cases ho'; exact hne hd'
              · exact h1 k ok' (by omega) ho' hd'
          cases hdst : o.dst with
          | none =>
            rw [hdst] at hv
            exact old hv (by rw [hdst]; simp)
          | some d =>
            rw [hdst] at hv
            simp only [putD] at hv
            cases hlt : Nat.blt d nt with
            | false => simp [hlt, Tr.get_nil] at hv
            | true =>
              simp only [hlt, cond_true] at hv
              rcases Tr.get_set hv with ⟨rfl, rfl⟩ | ⟨hne, hv'⟩
              · exact .inl ⟨i, o, by omega, ho, hdst, by simpa [Nat.blt_eq] using hlt, rfl, fun k' _ hk' _ _ => by omega⟩
              · exact old hv' (by rw [hdst]; intro e; cases e; exact hne rfl)
      rw [hlen] at gn
      have hpush : ∀ (i : Nat) (o : Oper), ops.toList[i]? = some o → H (i + 1) = H i ∨ ∃ b, H (i + 1) = (H i).push b := by
        intro i o ho
        by_cases hk : kindA o.op = 2
        · have hs := (hstep i o ho).1
          unfold stepA at hs
          split at hs
          · obtain ⟨b, hb⟩ := alloc_push call ((ord i o ho).2.2 hk) hs
            exact .inr ⟨b, hb⟩
          · simp only [Option.some.injEq, Prod.mk.injEq] at hs
            exact .inl hs.2.symm
          · cases hs
        · exact .inl (step_heap hk (hstep i o ho).1)
      have hle : ∀ (d i : Nat), i + d ≤ ops.size → (H i).next ≤ (H (i + d)).next ∧ ∀ A, A < (H i).next → (H (i + d)).t.get A = (H i).t.get A := by
        intro d
        induction d with
        | zero => intro i _; exact ⟨Nat.le_refl _, fun A _ => rfl⟩
        | succ d ih =>
          intro i hi
          obtain ⟨h1, h2⟩ := ih i (by omega)
          obtain ⟨o, ho⟩ : ∃ o, ops.toList[i + d]? = some o := ⟨ops.toList[i + d]'(by simp; omega), by simp⟩
          rw [show i + (d + 1) = (i + d) + 1 from rfl]
          rcases hpush (i + d) o ho with h3 | ⟨b, h3⟩
          · rw [h3]; exact ⟨h1, h2⟩
          · rw [h3]
            refine ⟨Nat.le_trans h1 (Nat.le_succ _), fun A hA => ?_⟩
            rw [← h2 A hA]
            exact get_set_of' (by omega)
      have hle' : ∀ (i j : Nat), i ≤ j → j ≤ ops.size → (H i).next ≤ (H j).next ∧ ∀ A, A < (H i).next → (H j).t.get A = (H i).t.get A := by
        intro i j hij hj
        have := hle (j - i) i (by omega)
        rwa [show i + (j - i) = j by omega] at this
      have hnew : ∀ (i : Nat) (b : Blk), i < ops.size → H (i + 1) = (H i).push b → (H i).next < h'.next ∧ h'.t.get (H i).next = some b ∧ h.next ≤ (H i).next := by
        intro i b hi hb
        have h1 := hle' (i + 1) ops.size (by omega) (Nat.le_refl _)
        have h2 := hle' 0 i (by omega) (by omega)
        rw [gn, hb] at h1
        rw [g0] at h2
        have h3 : (H i).next < ((H i).push b).next := Nat.lt_succ_self _
        refine ⟨Nat.lt_of_lt_of_le h3 h1.1, ?_, h2.1⟩
        rw [h1.2 _ h3]
        exact Tr.get_set_same
      have hapart : ∀ (i j : Nat) (b c : Blk), i < j → j < ops.size → H (i + 1) = (H i).push b → (H i).next < (H j).next := by
        intro i j b c hij hj hb
        have h1 := hle' (i + 1) j (by omega) (by omega)
        rw [hb] at h1
        exact Nat.lt_of_lt_of_le (Nat.lt_succ_self _) h1.1
      have hpins : ∀ d, d ≤ ops.size → (H d).pins = (H 0).pins := by
        intro d
        induction d with
        | zero => intro _; rfl
        | succ d ih =>
          intro hd
          obtain ⟨o, ho⟩ : ∃ o, ops.toList[d]? = some o := ⟨ops.toList[d]'(by simp; omega), by simp⟩
          rcases hpush d o ho with h3 | ⟨b, h3⟩
          · rw [h3]; exact ih (by omega)
          · rw [h3]; exact ih (by omega)
      have hpin := hpins ops.size (Nat.le_refl _)
      rw [g0, gn] at hpin
      have hbase := hle' 0 ops.size (by omega) (Nat.le_refl _)
      rw [g0, gn] at hbase
      -- the end
      have done : ∀ (listed : Array Bool) (μ' : Mu) (a' : Act) (w' : World), (∀ i, i < ops.size → listed.getD i false = true) →
          HR μ' h' w' → Ext μ h w μ' h' w' →
          a'.tmps.size = nt → a'.defers = [] →
          (∀ t k o, t < nt → ops.toList[k]? = some o → o.dst = some t → listed.getD k false = true → (∀ (k' : Nat) (o' : Oper), ops.toList[k']? = some o' → listed.getD k' false = true → o'.dst = some t → k' ≤ k) → VR μ' (V k) (a'.tmps.getD t undef)) →
          (∀ t v, (∀ (k : Nat) (o : Oper), ops.toList[k]? = some o → listed.getD k false = true → o.dst ≠ some t) → fr.get t = some v → VR μ' v (a'.tmps.getD t undef)) → Q .normal a' w' := by
        intro listed μ' a' w' hall hr' hext hts htd hsl1 hsl2
        refine hq μ' a' w' ⟨fun t v hv => ?_, hts, htd⟩ hr' hext
        rw [← fn, hlen] at hv
        rcases wrote ops.size (Nat.le_refl _) t v hv with ⟨k, o, h1, h2, h3, h4, rfl, h6⟩ | ⟨h1, h2⟩
        · exact hsl1 t k o h4 h2 h3 (hall k h1) fun k' o' ho' _ hd' => h6 k' o' (by have := (List.getElem?_eq_some_iff.1 ho').1; omega) ho' hd'
        · exact hsl2 t v (fun k o ho _ => h1 k o (by have := (List.getElem?_eq_some_iff.1 ho).1; omega) ho) h2
      -- the walk over whatever order
      have main : ∀ (fuel : Nat) (listed : Array Bool) (μ' : Mu) (a' : Act) (w' : World) (us : List Nat), us.length ≤ fuel → (∀ i, i < ops.size → listed.getD i false = false → i ∈ us) → listed.size = ops.size →
          (∀ (i : Nat) (o : Oper), ops.toList[i]? = some o → listed.getD i false = true → ∀ e ∈ edgesL o.after.toList, listed.getD e false = true) →
          HR μ' h' w' → Ext μ h w μ' h' w' → (∀ (i : Nat) (b : Blk), i < ops.size → H (i + 1) = (H i).push b → listed.getD i false = false → μ' (H i).next = none) →
          a'.tmps.size = nt → a'.defers = [] →
          (∀ t k o, t < nt → ops.toList[k]? = some o → o.dst = some t → listed.getD k false = true → (∀ (k' : Nat) (o' : Oper), ops.toList[k']? = some o' → listed.getD k' false = true → o'.dst = some t → k' ≤ k) → VR μ' (V k) (a'.tmps.getD t undef)) →
          (∀ t v, (∀ (k : Nat) (o : Oper), ops.toList[k]? = some o → listed.getD k false = true → o.dst ≠ some t) → fr.get t = some v → VR μ' v (a'.tmps.getD t undef)) →
          wpAny P .any ops Q fuel listed a' w' := by
        intro fuel
        induction fuel with
        | zero =>
          intro listed μ' a' w' us hu hus hsz hcl hrm hext hfree hts htd hsl1 hsl2
          have hall : ∀ i, i < ops.size → listed.getD i false = true := by
            intro i hi
            cases hl : listed.getD i false with
            | true => rfl
            | false =>
              have := hus i hi hl
              have : us = [] := List.eq_nil_of_length_eq_zero (by omega)
              subst this; simp at *
          refine ⟨?_, ?_⟩
          · simp only [Region.ready, List.filter_eq_nil_iff, List.mem_range]
            intro i hi hc
            have h1 := hall i hi
            have : listed.getD i true = true := by
              have hlt : i < listed.size := by omega
              simp [Array.getD, hlt] at h1 ⊢; exact h1
            simp [this] at hc
          · exact done listed μ' a' w' hall hrm hext hts htd hsl1 hsl2
        | succ fuel ih =>
          intro listed μ' a' w' us hu hus hsz hcl hrm hext hfree hts htd hsl1 hsl2
          refine ⟨?_, ?_⟩
          · intro hready
            refine done listed μ' a' w' ?_ hrm hext hts htd hsl1 hsl2
            intro i
            induction i using Nat.strongRecOn with
            | _ i ihi =>
              intro hin
              cases hl : listed.getD i false with
              | true => rfl
              | false =>
                exfalso
                have hlt : i < listed.size := by omega
                have hnt : listed.getD i true = false := by simp [Array.getD, hlt] at hl ⊢; exact hl
                have hmem : i ∈ Region.ready .any ops listed := by
                  simp only [Region.ready, List.mem_filter, List.mem_range, Bool.and_eq_true, Bool.not_eq_true']
                  refine ⟨hin, hnt, ?_⟩
                  have ho : ops[i]? = some ops[i] := by simp [hin]
                  rw [ho]
                  simp only [Option.map_some, Option.getD_some, Array.all_eq_true_iff_forall_mem]
                  intro x hx
                  cases hbx : Region.binds .any x with
                  | false => simp
                  | true =>
                    have he : x.on ∈ edgesL ops[i].after.toList := edgesL_mem.2 ⟨x, by simpa using hx, hbx, rfl⟩
                    have hlt' := (ord i ops[i] (by simp [hin])).2.1 _ he
                    simpa using ihi x.on hlt' (by omega)
                rw [hready] at hmem
                simp at hmem
          · intro i hi
            simp only [Region.ready, List.mem_filter, List.mem_range, Bool.and_eq_true, Bool.not_eq_true'] at hi
            obtain ⟨hin, hnl, hed⟩ := hi
            have hlt : i < listed.size := by omega
            have hnl' : listed.getD i false = false := by simp [Array.getD, hlt] at hnl ⊢; exact hnl
            have ho : ops[i]? = some ops[i] := by simp [hin]
            have hoL : ops.toList[i]? = some ops[i] := by simp [hin]
            have hedge : ∀ e ∈ edgesL ops[i].after.toList, listed.getD e false = true := by
              intro e he
              obtain ⟨x, h1, h2, h3⟩ := edgesL_mem.1 he
              rw [ho] at hed
              simp only [Option.map_some, Option.getD_some, Array.all_eq_true_iff_forall_mem] at hed
              have := hed x (by simpa using h1)
              simp [h2] at this
              rw [← h3]; simpa using this
            have hplist := predsIn (fun k => listed.getD k false = true) hcl i ops[i] hoL hedge
            -- what comes behind an operation that is not listed is not listed, or either may come first
            have behind : ∀ (k : Nat) (o : Oper), i < k → ops.toList[k]? = some o → listed.getD k false = true → freeP ops.toList ops[i] o = true := by
              intro k o hik hok hlk
              rcases (ord k o hok).1 i ops[i] hik hoL with h1 | h1
              · have h9 : listed.getD i false = true := predsIn (fun k => listed.getD k false = true) hcl k o hok (hcl k o hok hlk) i h1
                rw [hnl'] at h9; cases h9
              · exact h1
            have ahead : ∀ (k : Nat) (o : Oper), k < i → ops.toList[k]? = some o → listed.getD k false = true ∨ freeP ops.toList o ops[i] = true := by
              intro k o hki hok
              rcases (ord i ops[i] hoL).1 k o hki hok with h1 | h1
              · exact .inl (hplist k h1)
              · exact .inr h1
            -- the frame, as far as the operation looks
            have hget : ∀ t, (Tr.restrict.restrictL (fun t => memL t (looksL ops.toList ops[i])) (F i)).get t = bif memL t (looksL ops.toList ops[i]) then (F i).get t else none := fun t => Tr.get_restrict (F i) _ t
            have har : AR μ' nt (Tr.restrict.restrictL (fun t => memL t (looksL ops.toList ops[i])) (F i)) a' := by
              refine ⟨fun t v hv => ?_, hts, htd⟩
              rw [hget] at hv
              cases hmt : memL t (looksL ops.toList ops[i]) with
              | false => simp [hmt] at hv
              | true =>
                simp only [hmt, cond_true] at hv
                have hmt' := memL_iff.1 hmt
                rcases wrote i (by omega) t v hv with ⟨k, o, h1, h2, h3, h4, rfl, h6⟩ | ⟨h1, h2⟩
                · have hlk : listed.getD k false = true := by
                    rcases ahead k o h1 h2 with h7 | h7
                    · exact h7
                    · exact absurd hmt' ((freeP_spec h7).2.1 t h3)
                  refine hsl1 t k o h4 h2 h3 hlk fun k' o' ho' hl' hd' => ?_
                  rcases Nat.lt_trichotomy k' i with h7 | rfl | h7
                  · exact h6 k' o' h7 ho' hd'
                  · rw [hnl'] at hl'; cases hl'
                  · exact absurd hmt' ((freeP_spec (behind k' o' h7 ho' hl')).2.2.1 t hd')
                · refine hsl2 t v (fun k o hok hlk hd' => ?_) h2
                  rcases Nat.lt_trichotomy k i with h7 | rfl | h7
                  · exact h1 k o h7 hok hd'
                  · rw [hnl'] at hlk; cases hlk
                  · exact absurd hmt' ((freeP_spec (behind k o h7 hok hlk)).2.2.1 t hd')
            have hcong : ∀ Hx, stepA E call ops.toList (Tr.restrict.restrictL (fun t => memL t (looksL ops.toList ops[i])) (F i)) ops[i] Hx = stepA E call ops.toList (F i) ops[i] Hx := by
              intro Hx
              refine step_congr fun t ht => ?_
              rw [hget, memL_iff.2 ht]; rfl
            have go : ∀ (μ2 : Mu) (u : Value) (w2 : World), VR μ2 (V i) u → HR μ2 h' w2 → μ'.le μ2 → Ext μ h w μ2 h' w2 → (∀ (j : Nat) (b : Blk), j < ops.size → j ≠ i → H (j + 1) = (H j).push b → listed.getD j false = false → μ2 (H j).next = none) →
                wpAny P .any ops Q fuel (listed.setIfInBounds i true) (a'.put ops[i].dst u) w2 := by
              intro μ2 u w2 hv hr2 hmono hext2 hfree2
              refine ih (listed.setIfInBounds i true) μ2 _ w2 (us.erase i) ?_ ?_ (by simpa using hsz) ?_ hr2 hext2 ?_ (by simpa [Act.put] using (by cases ops[i].dst <;> simp [hts])) (by cases ops[i].dst <;> simp [Act.put, htd]) ?_ ?_
              · have := hus i hin hnl'
                rw [List.length_erase_of_mem this]; omega
              · intro k hk hl
                rw [getD_set hlt] at hl
                by_cases hki : k = i
                · rw [if_pos hki] at hl; cases hl
                · rw [if_neg hki] at hl
                  exact (List.mem_erase_of_ne hki).2 (hus k hk hl)
              · intro k o hok hl e he
                rw [getD_set hlt] at hl ⊢
                by_cases hei : e = i
                · rw [if_pos hei]
                · rw [if_neg hei]
                  by_cases hki : k = i
                  · subst hki; rw [hoL] at hok; cases hok; exact hedge e he
                  · rw [if_neg hki] at hl; exact hcl k o hok hl e he
              · intro j b hj hb hl
                rw [getD_set hlt] at hl
                by_cases hji : j = i
                · rw [if_pos hji] at hl; cases hl
                · rw [if_neg hji] at hl
                  exact hfree2 j b hj hji hb hl
              · intro t k o htn hok hd' hl hmax
                rw [getD_set hlt] at hl
                by_cases hdi : ops[i].dst = some t
                · have hik : i ≤ k := hmax i ops[i] hoL (by rw [getD_set hlt, if_pos rfl]) hdi
                  have hki : k = i := by
                    by_cases hki : k = i
                    · exact hki
                    · rw [if_neg hki] at hl
                      exact absurd hd' ((freeP_spec (behind k o (by omega) hok hl)).2.2.2 t hdi)
                  subst hki
                  rw [hdi, put_same (by omega)]; exact hv
                · have hki : k ≠ i := by rintro rfl; rw [hoL] at hok; cases hok; exact hdi hd'
                  rw [if_neg hki] at hl
                  rw [put_other hdi]
                  refine VR.mono hmono _ _ (hsl1 t k o htn hok hd' hl fun k' o' ho' hl' hd'' => hmax k' o' ho' ?_ hd'')
                  rw [getD_set hlt]; split
                  · rfl
                  · exact hl'
              · intro t v hno hv'
                have hdi : ops[i].dst ≠ some t := hno i ops[i] hoL (by rw [getD_set hlt, if_pos rfl])
                rw [put_other hdi]
                refine VR.mono hmono _ _ (hsl2 t v (fun k o hok hl => hno k o hok ?_) hv')
                rw [getD_set hlt]; split
                · rfl
                · exact hl
            have hstepi : stepA E call ops.toList (Tr.restrict.restrictL (fun t => memL t (looksL ops.toList ops[i])) (F i)) ops[i] (H i) = some (V i, H (i + 1)) := by rw [hcong]; exact (hstep i ops[i] hoL).1
            show wpOp P ops Q i _ a' w'
            unfold wpOp
            rw [ho]
            by_cases hal : ∃ b, H (i + 1) = (H i).push b
            · obtain ⟨b, hb⟩ := hal
              have hk2 : kindA ops[i].op = 2 := by
                rcases Nat.lt_or_ge (kindA ops[i].op) 2 with h7 | h7
                · exfalso
                  have h8 := step_heap (by omega) (hstep i ops[i] hoL).1
                  have h9 := congrArg Heap.next (h8.symm.trans hb)
                  exact absurd h9 (Nat.ne_of_lt (Nat.lt_succ_self _))
                · have := kindA_le ops[i].op; omega
              have hfi := hfree i b hin hb hnl'
              unfold stepA at hstepi
              split at hstepi
              · rename_i hw
                obtain ⟨b', s, e1, e2, l, u, o', h1, h2, h3, h4⟩ := alloc_step ok har ((ord i ops[i] hoL).2.2 hk2) hstepi hfi w'
                have hbb : b' = b := by
                  have h5 := e1.symm.trans hb
                  have h6 := congrArg (fun x : Heap => x.t.get (H i).next) h5
                  simp only [Heap.push] at h6
                  rw [Tr.get_set_same, Tr.get_set_same] at h6
                  exact Option.some.inj h6
                subst hbb
                obtain ⟨n1, n2, n3⟩ := hnew i b' hin hb
                show (if Region.wanted ops[i] (yielded ops a'.tmps) = true then (ops[i].wp P a' w' (wpAny P .any ops Q fuel (listed.setIfInBounds i true)) Q ∨ (ops[i].asks P a' w' ∧ LetsOut Q)) else wpAny P .any ops Q fuel (listed.setIfInBounds i true) (a'.put ops[i].dst undef) w')
                rw [wanted_sound har hw]
                simp only [if_true]
                left
                unfold Oper.wp
                rw [e2, run_bind_ok h1, Sem.run_pure]
                rw [Oper.upon_value]
                refine go _ u _ h3 (hrm.at hfi n1 n2 o' l h2 h4) (Mu.le_add hfi) (hext.at hfi n3 o' l h2) fun j c hj hji hc hl => ?_
                have hne : (H j).next ≠ (H i).next := by
                  rcases Nat.lt_or_ge j i with h7 | h7
                  · exact Nat.ne_of_lt (hapart j i c c h7 hin hc)
                  · exact (Nat.ne_of_lt (hapart i j b' b' (by omega) hj hb)).symm
                show (if (H j).next = (H i).next then some l else μ' (H j).next) = none
                rw [if_neg hne]
                exact hfree j c hj hc hl
              · exfalso
                simp only [Option.some.injEq, Prod.mk.injEq] at hstepi
                have h9 := congrArg Heap.next (hstepi.2.trans hb)
                exact absurd h9 (Nat.ne_of_lt (Nat.lt_succ_self _))
              · cases hstepi
            · have hsame : H (i + 1) = H i := by
                rcases hpush i ops[i] hoL with h7 | h7
                · exact h7
                · exact absurd h7 hal
              have hstepm : stepA E call ops.toList (F i) ops[i] h' = some (V i, h') := by
                rcases kindA_le ops[i].op with h0 | h1 | h2
                · exact step_free h0 (hstep i ops[i] hoL).1 h'
                · obtain ⟨u, h3, h4, he⟩ := hstab i ops[i] (F i) (H i) (V i) hoL (hrec i (by simpa using hin)) h1
                  have he' := eqV_eq _ _ he
                  subst he'
                  have := step_heap (by omega) h4
                  subst this
                  exact h4
                · have hs := (hstep i ops[i] hoL).1
                  unfold stepA at hs ⊢
                  split at hs
                  · obtain ⟨b, hb⟩ := alloc_push call ((ord i ops[i] hoL).2.2 h2) hs
                    exact absurd ⟨b, hb⟩ hal
                  · simp only [Option.some.injEq, Prod.mk.injEq] at hs
                    rw [hs.1]
                  · cases hs
              refine step_wp ok hcall hrm har (by rw [hcong]; exact hstepm) ?_
              intro μ2 u w2 hv hr2 hext2
              refine go μ2 u w2 hv hr2 hext2.mono (Ext.trans hr hext hext2) fun j c hj hji hc hl => ?_
              cases hm2 : μ2 (H j).next with
              | none => rfl
              | some l =>
                exfalso
                rcases hext2.fresh _ _ hm2 with h7 | ⟨h7, _⟩
                · rw [hfree j c hj hc hl] at h7; cases h7
                · have := (hnew j c hj hc).1; omega
      refine wp_region_any hm ?_
      have hr1 : HR μ h' w := ⟨fun A l hA => ⟨Nat.lt_of_lt_of_le (hr.dom A l hA).1 hbase.1, (hr.dom A l hA).2⟩,
        fun A B la lb ba bb hA hB ga gb => hr.inj A B la lb ba bb hA hB (by rw [← hbase.2 A (hr.dom A la hA).1]; exact ga) (by rw [← hbase.2 B (hr.dom B lb hB).1]; exact gb),
        fun A l b hA hb => hr.blk A l b hA (by rw [← hbase.2 A (hr.dom A l hA).1]; exact hb), fun x hx => hr.pin x (by rw [← hpin]; exact hx)⟩
      have hr0 : HR μ h' { w with drawn := w.drawn + 1 } := hr1.draws rfl
      have hx0 : Ext μ h w μ h' { w with drawn := w.drawn + 1 } := ⟨Mu.le_refl μ, hbase.1, fun _ _ h => .inl h, fun A hA ⟨b, h1, h2⟩ => ⟨b, by rw [← hbase.2 A hA]; exact h1, h2⟩, fun _ _ _ => rfl, Nat.le_refl _, rfl, rfl, rfl⟩
      have hfalse : ∀ k, (Array.replicate ops.size false).getD k false = false := by
        intro k; simp [Array.getD]
      refine main ops.size _ μ a _ (List.range ops.size) (by simp) (by intro i hi _; simpa using hi) (by simp) ?_ hr0 hx0 ?_ ha.size ha.defers ?_ ?_
      · intro i o _ hl; rw [hfalse] at hl; cases hl
      · intro i b hi hb _
        cases hm2 : μ (H i).next with
        | none => rfl
        | some l =>
          exfalso
          have h7 := (hr.dom _ _ hm2).1
          have := (hnew i b hi hb).2.2; omega
      · intro t k o _ _ _ hl; rw [hfalse] at hl; cases hl
      · intro t v _ hv; exact ha.slot t v hv
    }
  }
end
end Go.Proofs.YtkcjphhjmlienaaGreatDoor.Ai

namespace Go.Proofs.YtkcjphhjmlienaaGreatDoor.Ai
/-! a region that draws its order: new blocks may come in any order among themselves; all else that turns the heap stands in order -/
section
variable {α : Type}
variable {E : Env} {P : Program} {call : CallF} {fr fr2 : Fr}
theorem buildSlice_at (ok : EnvOK E P) {μ : Mu} {w : World} {h h' : Heap} {t : TypeId} {len : Nat} {parts : List (Nat × AV)} {parts' : Array (Nat × Value)} {x : AV} (hn : μ h.next = none) (hp : PR μ parts parts'.toList)
    (hx : buildSliceA E h t len parts = some (x, h')) : ∃ b, h' = h.push b ∧ NewAt P (Instr.buildSlice t len parts') μ w h.next x b := by
  unfold buildSliceA at hx
  split at hx
  · rename_i e hu
    cases hs : E.size e with
    | none => simp [hs] at hx
    | some n =>
      simp only [hs] at hx
      cases hz : E.zero e with
      | none => simp [hz] at hx
      | some z =>
        simp only [hz] at hx
        obtain ⟨zv, hzr, hzv⟩ := zero_sound ok hz
        cases hb : (Nat.beq z.cells.length n && Nat.ble (len * n) 16777216) with
        | false => simp [hb] at hx
        | true =>
          simp only [hb, cond_true] at hx
          simp only [Bool.and_eq_true] at hb
          have hb1 : z.cells.length = n := Nat.eq_of_beq_eq_true hb.1
          have hb2 : len * n ≤ 16777216 := by simpa using hb.2
          subst hb1
          cases hf : fillL (fun i => some (i * z.cells.length, z.cells.length)) (repL len z.cells) parts with
          | none => simp [hf] at hx
          | some cs =>
            simp only [hf, Option.some.injEq, Prod.mk.injEq] at hx
            obtain ⟨rfl, rfl⟩ := hx
            obtain ⟨xs', h1, h2, h3⟩ := fill_sound hp (zeros_sound (n := len) (hzv μ)) hf
            obtain ⟨l, l1, l2, l3, l4, h5⟩ := row_new (w := w) hn cs xs' e h2
            have hlim : ¬ (len * z.cells.length > 2 ^ 24) := by
              have : (2 : Nat) ^ 24 = 16777216 := by decide
              omega
            refine ⟨_, rfl, l, .slice (some ⟨w.heap.size, 0, none⟩) len len, _, ?_, l1, ?_, h5⟩
            · by_cases h0 : len * z.cells.length = 0
              · have hl0 : ¬ ((0 : Nat) > 2 ^ 24) := by decide
                have h1' : Instr.fill (fun i => some (i * z.cells.length, z.cells.length)) #[] parts'.toList = some xs' := by
                  rw [← h1]; congr 1; simp [h0]
                simp only [Instr.buildSlice, Sem.run_bind, run_und (und_sound ok hu), Result.andThen_ok, size_sound ok hs, h0, hl0, if_false, if_true, Sem.run_pure, show Array.range 0 = #[] from rfl, Array.map_empty, h1', newRow, run_newObj]
                rfl
              · simp only [Instr.buildSlice, Sem.run_bind, run_und (und_sound ok hu), Result.andThen_ok, size_sound ok hs, if_neg hlim, h0, if_false, hzr, Sem.run_pure, h1, newRow, run_newObj]
                rfl
            · have := VR.slice_own (μ := μ.add h.next l) (A := h.next) (off := 0) (len := len) (cap := len) (sz := z.cells.length) (add_self _ _ _) (Nat.le_refl _) (by rw [l2, l3, h3, repL_length]; omega)
              rw [l1, l2] at this; exact this
  · simp at hx
theorem allocR_step (ok : EnvOK E P) {μ : Mu} {nt : Nat} {a : Act} (ha : AR μ nt fr a) {o : Oper} (hk : allocR o.op = true) {h h' : Heap} {x : AV} (hx : oneA E call fr o.op h = some (x, h')) (hn : μ h.next = none) (w : World) :
    ∃ b s, h' = h.push b ∧ execOp a.eval o = (do pure (.value (← s))) ∧ NewAt P s μ w h.next x b := by
  cases ho : allocA o.op with
  | true => exact alloc_step ok ha ho hx hn w
  | false =>
    obtain ⟨dst, op, type, pos, after, guard⟩ := o
    simp only at hx hk ho
    cases op
    case buildSlice t len ps =>
      simp only [oneA, opA] at hx
      cases hp : partsA fr ps.toList with
      | none => simp [hp] at hx
      | some l =>
        simp only [hp] at hx
        have hps : PR μ l (ps.map fun (i, x) => (i, a.eval x)).toList := by simpa using parts_sound ha hp
        obtain ⟨b, e1, e2⟩ := buildSlice_at (P := P) (w := w) ok hn hps hx
        exact ⟨b, _, e1, rfl, e2⟩
    all_goals
      simp only [allocR] at hk
      rw [ho] at hk; cases hk
theorem allocR_push (call : CallF) {o : Oper} (hk : allocR o.op = true) {h h' : Heap} {x : AV} (hx : oneA E call fr o.op h = some (x, h')) : ∃ b, h' = h.push b := by
  cases ho : allocA o.op with
  | true => exact alloc_push call ho hx
  | false =>
    obtain ⟨dst, op, type, pos, after, guard⟩ := o
    simp only at hx hk ho
    cases op
    case buildSlice t len ps =>
      simp only [oneA, opA] at hx
      cases hp : partsA fr ps.toList with
      | none => simp [hp] at hx
      | some l =>
        simp only [hp] at hx
        unfold buildSliceA at hx
        split at hx
        · rename_i e hu
          cases hs : E.size e with
          | none => simp [hs] at hx
          | some n =>
            simp only [hs] at hx
            cases hz : E.zero e with
            | none => simp [hz] at hx
            | some z =>
              simp only [hz] at hx
              cases hb : (Nat.beq z.cells.length n && Nat.ble (len * n) 16777216) with
              | false => simp [hb] at hx
              | true =>
                simp only [hb, cond_true] at hx
                cases hf : fillL (fun i => some (i * n, n)) (repL len z.cells) l with
                | none => simp [hf] at hx
                | some cs => simp only [hf, Option.some.injEq, Prod.mk.injEq] at hx; exact ⟨_, hx.2.symm⟩
        · simp at hx
    all_goals
      simp only [allocR] at hk
      rw [ho] at hk; cases hk
theorem againstR_spec {ops : List Oper} {o : Oper} {ps : List Nat} : ∀ {l : List Oper} {j : Nat}, againstR ops o ps j l = true → ∀ k x, l[k]? = some x → j + k ∈ ps ∨ freeR ops x o = true
  | [], j, h, k, x, hk => by simp at hk
  | y :: r, j, h, k, x, hk => by
    simp only [againstR, Bool.and_eq_true, Bool.or_eq_true] at h
    cases k with
    | zero => simp at hk; subst hk; exact h.1.imp (fun e => by simpa using memL_iff.1 e) id
    | succ k =>
      simp at hk
      have := againstR_spec h.2 k x hk
      rw [show j + (k + 1) = j + 1 + k from by omega]; exact this
theorem orderR_spec {ops : List Oper} {preds : List (List Nat)} : ∀ {l : List Oper} {i : Nat}, orderRGo ops preds i l = true → ∀ k o, l[k]? = some o →
    (∀ j x, (ops.take (i + k))[j]? = some x → j ∈ (preds[i + k]?).getD [] ∨ freeR ops x o = true) ∧ (∀ e ∈ edgesL o.after.toList, e < i + k)
  | [], i, h, k, o, hk => by simp at hk
  | y :: r, i, h, k, o, hk => by
    simp only [orderRGo, Bool.and_eq_true] at h
    cases k with
    | zero =>
      simp at hk; subst hk
      refine ⟨fun j x hj => by simpa using againstR_spec h.1.1 j x (by simpa using hj), fun e he => ?_⟩
      have := List.all_eq_true.1 h.1.2 e he
      simpa [Nat.blt_eq] using this
    | succ k =>
      simp at hk
      have := orderR_spec h.2 k o hk
      rw [show i + (k + 1) = i + 1 + k from by omega]; exact this
theorem freeR_spec {ops : List Oper} {x y : Oper} (hf : freeR ops x y = true) : (kindA x.op = 2 → kindA y.op = 2 → bigR x.op = false ∧ bigR y.op = false) ∧ (∀ t, x.dst = some t → t ∉ looksL ops y) ∧ (∀ t, y.dst = some t → t ∉ looksL ops x) ∧ (∀ t, x.dst = some t → y.dst ≠ some t) := by
  simp only [freeR, Bool.and_eq_true, Bool.not_eq_true'] at hf
  obtain ⟨h1, h2⟩ := hf
  refine ⟨fun hx hy => ?_, (freeP_spec h1).2⟩
  rw [hx, hy] at h2
  simpa using h2
theorem bigR_kind {o : Op} (h : bigR o = true) : kindA o = 2 ∧ allocR o = false := by
  simp only [bigR, Bool.and_eq_true, Bool.not_eq_true'] at h
  exact ⟨Nat.eq_of_beq_eq_true h.1, h.2⟩
theorem not_bigR {o : Op} (h : bigR o = false) (hk : kindA o = 2) : allocR o = true := by
  unfold bigR at h
  rw [hk] at h
  simpa using h
/-- reads come to the same at each stage -/
def StableR (E : Env) (call : CallF) (ops : List Oper) (recs : List (Fr × Heap × AV)) (h' : Heap) : Prop :=
  ∀ (i : Nat) (o : Oper) (f : Fr) (hh : Heap) (v : AV), ops[i]? = some o → recs[i]? = some (f, hh, v) → kindA o.op = 1 → ∀ (k : Nat) (Hk : Heap), ((∃ o' f' v', ops[k]? = some o' ∧ kindA o'.op = 2 ∧ recs[k]? = some (f', Hk, v')) ∨ (k = ops.length ∧ Hk = h')) →
    ∃ u h2, stepA E call ops f o Hk = some (u, h2) ∧ eqV u v = true
theorem drawR_wp (ok : EnvOK E P) (hm : P.follows .mixedOrders = true) (hcall : CallOK P call) {nt id : Nat} {ops : Array Oper} {h : Heap} {fr' : Fr} {h' : Heap} {recs : List (Fr × Heap × AV)} (ht : traceA E call nt ops.toList ops.toList fr h = some (recs, fr', h')) (hord : orderR ops.toList = true) (hstab : StableR E call ops.toList recs h')
    {μ : Mu} {w : World} {a : Act} {Q : Exit → Act → World → Prop} (hr : HR μ h w) (ha : AR μ nt fr a) (hq : ∀ μ' a' w', AR μ' nt fr' a' → HR μ' h' w' → Ext μ h w μ' h' w' → Q .normal a' w') : (Code.region id ops true).wp P Q a w := by
  skip
  {
    skip
    {
      obtain ⟨F, H, V, f0, g0, fn, gn, hstep, hrec⟩ := trace_recs ht
      have hlen : ops.toList.length = ops.size := by simp
      have ord : ∀ (i : Nat) (o : Oper), ops.toList[i]? = some o → (∀ (j : Nat) (x : Oper), j < i → ops.toList[j]? = some x → j ∈ ((predsGo ops.toList [])[i]?).getD [] ∨ freeR ops.toList x o = true) ∧ (∀ e ∈ edgesL o.after.toList, e < i) := by
        intro i o ho
        have := orderR_spec (i := 0) hord i o ho
        simp only [Nat.zero_add] at this
        exact ⟨fun j x hj hx => this.1 j x (by rw [List.getElem?_take_of_lt hj]; exact hx), this.2⟩
      have hpreds : ∀ (i : Nat) (ps : List Nat), (predsGo ops.toList [])[i]? = some ps → ∃ o : Oper, ops.toList[i]? = some o ∧ ∀ p ∈ ps, p ∈ edgesL o.after.toList ∨ ∃ e ∈ edgesL o.after.toList, ∃ qs, (predsGo ops.toList [])[e]? = some qs ∧ p ∈ qs := by
        intro i ps hi
        have := preds_spec ops.toList [] [] rfl (by simp) i ps hi
        simpa using this
      have predsIn : ∀ (S : Nat → Prop), (∀ (i : Nat) (o : Oper), ops.toList[i]? = some o → S i → ∀ e ∈ edgesL o.after.toList, S e) →
          ∀ (i : Nat) (o : Oper), ops.toList[i]? = some o → (∀ e ∈ edgesL o.after.toList, S e) → ∀ p ∈ ((predsGo ops.toList [])[i]?).getD [], S p := by
        intro S hcl i
        induction i using Nat.strongRecOn with
        | _ i ih =>
          intro o ho he p hp
          cases hps : (predsGo ops.toList [])[i]? with
          | none => simp [hps] at hp
          | some ps =>
            simp [hps] at hp
            obtain ⟨o', ho', hpp⟩ := hpreds i ps hps
            rw [ho] at ho'; cases ho'
            rcases hpp p hp with h3 | ⟨e, h3, qs, h4, h5⟩
            · exact he p h3
            · have hlt := (ord i o ho).2 e h3
              obtain ⟨oe, hoe, _⟩ := hpreds e qs h4
              exact ih e hlt oe hoe (hcl e oe hoe (he e h3)) p (by simp [h4]; exact h5)
      -- who wrote a slot, in the order of the text
      have wrote : ∀ (i : Nat), i ≤ ops.size → ∀ t v, (F i).get t = some v →
          (∃ k o, k < i ∧ ops.toList[k]? = some o ∧ o.dst = some t ∧ t < nt ∧ v = V k ∧ ∀ k' o', k' < i → ops.toList[k']? = some o' → o'.dst = some t → k' ≤ k) ∨
          ((∀ k o, k < i → ops.toList[k]? = some o → o.dst ≠ some t) ∧ fr.get t = some v) := by
        intro i
        induction i with
        | zero => intro _ t v hv; rw [f0] at hv; exact .inr ⟨fun k o hk => by omega, hv⟩
        | succ i ih =>
          intro hi t v hv
          obtain ⟨o, ho⟩ : ∃ o, ops.toList[i]? = some o := ⟨ops.toList[i]'(by simp; omega), by simp⟩
          rw [(hstep i o ho).2] at hv
          have old : (F i).get t = some v → o.dst ≠ some t → (∃ k o, k < i + 1 ∧ ops.toList[k]? = some o ∧ o.dst = some t ∧ t < nt ∧ v = V k ∧ ∀ k' o', k' < i + 1 → ops.toList[k']? = some o' → o'.dst = some t → k' ≤ k) ∨
              ((∀ k o, k < i + 1 → ops.toList[k]? = some o → o.dst ≠ some t) ∧ fr.get t = some v) := by
            intro hv' hne
            rcases ih (by omega) t v hv' with ⟨k, ok', h1, h2, h3, h4, h5, h6⟩ | ⟨h1, h2⟩
            · refine .inl ⟨k, ok', by omega, h2, h3, h4, h5, fun k' o' hk' ho' hd' => ?_⟩
              by_cases e : k' = i
              · subst e; rw [ho] at ho'; cases ho'; exact absurd hd' hne
              · exact h6 k' o' (by omega) ho' hd'
            · refine .inr ⟨fun k ok' hk ho' hd' => ?_, h2⟩
              by_cases e : k = i
              · subst e; rw [ho] at ho'; cases ho'; exact hne hd'
              · exact h1 k ok' (by omega) ho' hd'
          cases hdst : o.dst with
          | none =>
            rw [hdst] at hv
            exact old hv (by rw [hdst]; simp)
          | some d =>
            rw [hdst] at hv
            simp only [putD] at hv
            cases hlt : Nat.blt d nt with
            | false => simp [hlt, Tr.get_nil] at hv
            | true =>
              simp only [hlt, cond_true] at hv
              rcases Tr.get_set hv with ⟨rfl, rfl⟩ | ⟨hne, hv'⟩
              · exact .inl ⟨i, o, by omega, ho, hdst, by simpa [Nat.blt_eq] using hlt, rfl, fun k' _ hk' _ _ => by omega⟩
              · exact old hv' (by rw [hdst]; intro e; cases e; exact hne rfl)
      rw [hlen] at gn
      have hop : ∀ i, i < ops.size → ∃ o, ops.toList[i]? = some o := fun i hi => ⟨ops.toList[i]'(by simp; omega), by simp⟩
      have hpush : ∀ (i : Nat) (o : Oper), ops.toList[i]? = some o → bigR o.op = false → H (i + 1) = H i ∨ ∃ b, H (i + 1) = (H i).push b := by
        intro i o ho hnb
        by_cases hk : kindA o.op = 2
        · have hs := (hstep i o ho).1
          unfold stepA at hs
          split at hs
          · obtain ⟨b, hb⟩ := allocR_push call (not_bigR hnb hk) hs
            exact .inr ⟨b, hb⟩
          · simp only [Option.some.injEq, Prod.mk.injEq] at hs
            exact .inl hs.2.symm
          · cases hs
        · exact .inl (step_heap hk (hstep i o ho).1)
      -- a run without a great operation
      have hle : ∀ (d i : Nat), i + d ≤ ops.size → (∀ k o, i ≤ k → k < i + d → ops.toList[k]? = some o → bigR o.op = false) → (H i).next ≤ (H (i + d)).next ∧ (∀ A, A < (H i).next → (H (i + d)).t.get A = (H i).t.get A) ∧ (H (i + d)).pins = (H i).pins := by
        intro d
        induction d with
        | zero => intro i _ _; exact ⟨Nat.le_refl _, fun A _ => rfl, rfl⟩
        | succ d ih =>
          intro i hi hnb
          obtain ⟨h1, h2, h2p⟩ := ih i (by omega) (fun k o g1 g2 => hnb k o g1 (by omega))
          obtain ⟨o, ho⟩ := hop (i + d) (by omega)
          rw [show i + (d + 1) = (i + d) + 1 from rfl]
          rcases hpush (i + d) o ho (hnb _ o (by omega) (by omega) ho) with h3 | ⟨b, h3⟩
          · rw [h3]; exact ⟨h1, h2, h2p⟩
          · rw [h3]
            refine ⟨Nat.le_trans h1 (Nat.le_succ _), fun A hA => ?_, h2p⟩
            rw [← h2 A hA]
            exact get_set_of' (by omega)
      have hle' : ∀ (s m : Nat), (∀ k o, s ≤ k → k < m → ops.toList[k]? = some o → bigR o.op = false) → m ≤ ops.size → ∀ (i j : Nat), s ≤ i → i ≤ j → j ≤ m → (H i).next ≤ (H j).next ∧ (∀ A, A < (H i).next → (H j).t.get A = (H i).t.get A) ∧ (H j).pins = (H i).pins := by
        intro s m hnb hm' i j hsi hij hj
        have := hle (j - i) i (by omega) (fun k o g1 g2 => hnb k o (by omega) (by omega))
        rwa [show i + (j - i) = j by omega] at this
      have next : ∀ a, a ≤ ops.size → ∃ c, a ≤ c ∧ c ≤ ops.size ∧ (∀ k o, a ≤ k → k < c → ops.toList[k]? = some o → bigR o.op = false) ∧ (c = ops.size ∨ ∃ o, ops.toList[c]? = some o ∧ bigR o.op = true) := by
        have : ∀ d a, a + d = ops.size → ∃ c, a ≤ c ∧ c ≤ ops.size ∧ (∀ k o, a ≤ k → k < c → ops.toList[k]? = some o → bigR o.op = false) ∧ (c = ops.size ∨ ∃ o, ops.toList[c]? = some o ∧ bigR o.op = true) := by
          intro d
          induction d with
          | zero => intro a ha'; exact ⟨a, Nat.le_refl _, by omega, fun k o h1 h2 => by omega, .inl (by omega)⟩
          | succ d ihd =>
            intro a ha'
            obtain ⟨o, hoo⟩ := hop a (by omega)
            cases hb : bigR o.op with
            | true => exact ⟨a, Nat.le_refl _, by omega, fun k o h1 h2 => by omega, .inr ⟨o, hoo, hb⟩⟩
            | false =>
              obtain ⟨c, q1, q2, q3, q4⟩ := ihd (a + 1) (by omega)
              refine ⟨c, by omega, q2, fun k o' h1 h2 h3 => ?_, q4⟩
              by_cases e : k = a
              · subst e; rw [hoo] at h3; cases h3; exact hb
              · exact q3 k o' (by omega) h2 h3
        intro a ha'
        exact this (ops.size - a) a (by omega)
      have lift : ∀ (a c : Nat), a ≤ c → c ≤ ops.size → (∀ k o, a ≤ k → k < c → ops.toList[k]? = some o → bigR o.op = false) → ∀ (μ2 : Mu) (w2 : World), HR μ2 (H a) w2 → Ext μ h w μ2 (H a) w2 → HR μ2 (H c) w2 ∧ Ext μ h w μ2 (H c) w2 := by
        intro a c hac hc hnb μ2 w2 hr2 hx2
        obtain ⟨b1, b2, b3⟩ := hle' a c hnb hc a c (Nat.le_refl _) hac (Nat.le_refl _)
        refine ⟨⟨fun A l hA => ⟨Nat.lt_of_lt_of_le (hr2.dom A l hA).1 b1, (hr2.dom A l hA).2⟩,
          fun A B la lb ba bb hA hB ga gb => hr2.inj A B la lb ba bb hA hB (by rw [← b2 A (hr2.dom A la hA).1]; exact ga) (by rw [← b2 B (hr2.dom B lb hB).1]; exact gb),
          fun A l b hA hb => hr2.blk A l b hA (by rw [← b2 A (hr2.dom A l hA).1]; exact hb), fun x hx => hr2.pin x (by rw [← b3]; exact hx)⟩, ?_⟩
        exact { mono := hx2.mono, next := Nat.le_trans hx2.next b1, fresh := hx2.fresh, wr := fun A hA ⟨b, h1, h2⟩ => hx2.wr A hA ⟨b, by rw [← b2 A (Nat.lt_of_lt_of_le hA hx2.next)]; exact h1, h2⟩, frame := hx2.frame, size := hx2.size, os := hx2.os, tape := hx2.tape, output := hx2.output }
      -- the end
      have done : ∀ (listed : Array Bool) (μ' : Mu) (a' : Act) (w' : World), (∀ i, i < ops.size → listed.getD i false = true) →
          HR μ' h' w' → Ext μ h w μ' h' w' →
          a'.tmps.size = nt → a'.defers = [] →
          (∀ t k o, t < nt → ops.toList[k]? = some o → o.dst = some t → listed.getD k false = true → (∀ (k' : Nat) (o' : Oper), ops.toList[k']? = some o' → listed.getD k' false = true → o'.dst = some t → k' ≤ k) → VR μ' (V k) (a'.tmps.getD t undef)) →
          (∀ t v, (∀ (k : Nat) (o : Oper), ops.toList[k]? = some o → listed.getD k false = true → o.dst ≠ some t) → fr.get t = some v → VR μ' v (a'.tmps.getD t undef)) → Q .normal a' w' := by
        intro listed μ' a' w' hall hr' hext hts htd hsl1 hsl2
        refine hq μ' a' w' ⟨fun t v hv => ?_, hts, htd⟩ hr' hext
        rw [← fn, hlen] at hv
        rcases wrote ops.size (Nat.le_refl _) t v hv with ⟨k, o, h1, h2, h3, h4, rfl, h6⟩ | ⟨h1, h2⟩
        · exact hsl1 t k o h4 h2 h3 (hall k h1) fun k' o' ho' _ hd' => h6 k' o' (by have := (List.getElem?_eq_some_iff.1 ho').1; omega) ho' hd'
        · exact hsl2 t v (fun k o ho _ => h1 k o (by have := (List.getElem?_eq_some_iff.1 ho).1; omega) ho) h2
      -- the walk over whatever order
      have main : ∀ (fuel : Nat) (listed : Array Bool) (μ' : Mu) (a' : Act) (w' : World) (us : List Nat) (s m : Nat), us.length ≤ fuel → (∀ i, i < ops.size → listed.getD i false = false → i ∈ us) → listed.size = ops.size →
          (∀ (i : Nat) (o : Oper), ops.toList[i]? = some o → listed.getD i false = true → ∀ e ∈ edgesL o.after.toList, listed.getD e false = true) →
          s ≤ m → m ≤ ops.size → (∀ k o, s ≤ k → k < m → ops.toList[k]? = some o → bigR o.op = false) → (∀ k o, k < s → ops.toList[k]? = some o → kindA o.op = 2 → listed.getD k false = true) →
          (m = ops.size ∨ ∃ o, ops.toList[m]? = some o ∧ bigR o.op = true ∧ listed.getD m false = false) → h.next ≤ (H s).next →
          HR μ' (H m) w' → Ext μ h w μ' (H m) w' → (∀ (i : Nat) (b : Blk), s ≤ i → i < m → H (i + 1) = (H i).push b → listed.getD i false = false → μ' (H i).next = none) →
          a'.tmps.size = nt → a'.defers = [] →
          (∀ t k o, t < nt → ops.toList[k]? = some o → o.dst = some t → listed.getD k false = true → (∀ (k' : Nat) (o' : Oper), ops.toList[k']? = some o' → listed.getD k' false = true → o'.dst = some t → k' ≤ k) → VR μ' (V k) (a'.tmps.getD t undef)) →
          (∀ t v, (∀ (k : Nat) (o : Oper), ops.toList[k]? = some o → listed.getD k false = true → o.dst ≠ some t) → fr.get t = some v → VR μ' v (a'.tmps.getD t undef)) →
          wpAny P .any ops Q fuel listed a' w' := by
        intro fuel
        induction fuel with
        | zero =>
          intro listed μ' a' w' us s m hu hus hsz hcl hsm hmn hnb hsk hmb hsn hrm hext hfree hts htd hsl1 hsl2
          have hall : ∀ i, i < ops.size → listed.getD i false = true := by
            intro i hi
            cases hl : listed.getD i false with
            | true => rfl
            | false =>
              have := hus i hi hl
              have : us = [] := List.eq_nil_of_length_eq_zero (by omega)
              subst this; simp at *
          have hmeq : m = ops.size := by
            rcases hmb with h1 | ⟨o, h1, h2, h3⟩
            · exact h1
            · have := (List.getElem?_eq_some_iff.1 h1).1
              rw [hall m (by omega)] at h3; cases h3
          subst hmeq
          rw [gn] at hrm hext
          refine ⟨?_, ?_⟩
          · simp only [Region.ready, List.filter_eq_nil_iff, List.mem_range]
            intro i hi hc
            have h1 := hall i hi
            have : listed.getD i true = true := by
              have hlt : i < listed.size := by omega
              simp [Array.getD, hlt] at h1 ⊢; exact h1
            simp [this] at hc
          · exact done listed μ' a' w' hall hrm hext hts htd hsl1 hsl2
        | succ fuel ih =>
          intro listed μ' a' w' us s m hu hus hsz hcl hsm hmn hnb hsk hmb hsn hrm hext hfree hts htd hsl1 hsl2
          refine ⟨?_, ?_⟩
          · intro hready
            have hall : ∀ i, i < ops.size → listed.getD i false = true := by
              intro i
              induction i using Nat.strongRecOn with
              | _ i ihi =>
                intro hin
                cases hl : listed.getD i false with
                | true => rfl
                | false =>
                  exfalso
                  have hlt : i < listed.size := by omega
                  have hnt : listed.getD i true = false := by simp [Array.getD, hlt] at hl ⊢; exact hl
                  have hmem : i ∈ Region.ready .any ops listed := by
                    simp only [Region.ready, List.mem_filter, List.mem_range, Bool.and_eq_true, Bool.not_eq_true']
                    refine ⟨hin, hnt, ?_⟩
                    have ho : ops[i]? = some ops[i] := by simp [hin]
                    rw [ho]
                    simp only [Option.map_some, Option.getD_some, Array.all_eq_true_iff_forall_mem]
                    intro x hx
                    cases hbx : Region.binds .any x with
                    | false => simp
                    | true =>
                      have he : x.on ∈ edgesL ops[i].after.toList := edgesL_mem.2 ⟨x, by simpa using hx, hbx, rfl⟩
                      have hlt' := (ord i ops[i] (by simp [hin])).2 _ he
                      simpa using ihi x.on hlt' (by omega)
                  rw [hready] at hmem
                  simp at hmem
            have hmeq : m = ops.size := by
              rcases hmb with h1 | ⟨o, h1, h2, h3⟩
              · exact h1
              · have := (List.getElem?_eq_some_iff.1 h1).1
                rw [hall m (by omega)] at h3; cases h3
            subst hmeq
            rw [gn] at hrm hext
            exact done listed μ' a' w' hall hrm hext hts htd hsl1 hsl2
          · intro i hi
            simp only [Region.ready, List.mem_filter, List.mem_range, Bool.and_eq_true, Bool.not_eq_true'] at hi
            obtain ⟨hin, hnl, hed⟩ := hi
            have hlt : i < listed.size := by omega
            have hnl' : listed.getD i false = false := by simp [Array.getD, hlt] at hnl ⊢; exact hnl
            have ho : ops[i]? = some ops[i] := by simp [hin]
            have hoL : ops.toList[i]? = some ops[i] := by simp [hin]
            have hedge : ∀ e ∈ edgesL ops[i].after.toList, listed.getD e false = true := by
              intro e he
              obtain ⟨x, h1, h2, h3⟩ := edgesL_mem.1 he
              rw [ho] at hed
              simp only [Option.map_some, Option.getD_some, Array.all_eq_true_iff_forall_mem] at hed
              have := hed x (by simpa using h1)
              simp [h2] at this
              rw [← h3]; simpa using this
            have hplist := predsIn (fun k => listed.getD k false = true) hcl i ops[i] hoL hedge
            -- what comes behind an operation that is not listed is not listed, or either may come first
            have behind : ∀ (k : Nat) (o : Oper), i < k → ops.toList[k]? = some o → listed.getD k false = true → freeR ops.toList ops[i] o = true := by
              intro k o hik hok hlk
              rcases (ord k o hok).1 i ops[i] hik hoL with h1 | h1
              · have h9 : listed.getD i false = true := predsIn (fun k => listed.getD k false = true) hcl k o hok (hcl k o hok hlk) i h1
                rw [hnl'] at h9; cases h9
              · exact h1
            have ahead : ∀ (k : Nat) (o : Oper), k < i → ops.toList[k]? = some o → listed.getD k false = true ∨ freeR ops.toList o ops[i] = true := by
              intro k o hki hok
              rcases (ord i ops[i] hoL).1 k o hki hok with h1 | h1
              · exact .inl (hplist k h1)
              · exact .inr h1
            -- where what turns the heap stands
            have hwhere : kindA ops[i].op = 2 → (s ≤ i ∧ i < m ∧ bigR ops[i].op = false) ∨ (i = m ∧ bigR ops[i].op = true) := by
              intro hk
              have h1 : s ≤ i := by
                rcases Nat.lt_or_ge i s with h2 | h2
                · have := hsk i ops[i] h2 hoL hk
                  rw [hnl'] at this; cases this
                · exact h2
              rcases Nat.lt_trichotomy i m with h2 | h2 | h2
              · exact .inl ⟨h1, h2, hnb i ops[i] h1 h2 hoL⟩
              · rcases hmb with h3 | ⟨o, h3, h4, h5⟩
                · omega
                · subst h2; rw [hoL] at h3; cases h3; exact .inr ⟨rfl, h4⟩
              · rcases hmb with h3 | ⟨o, h3, h4, h5⟩
                · omega
                · rcases ahead m o h2 h3 with h6 | h6
                  · rw [h5] at h6; cases h6
                  · have := ((freeR_spec h6).1 (bigR_kind h4).1 hk).1
                    rw [h4] at this; cases this
            -- the frame, as far as the operation looks
            have hget : ∀ t, (Tr.restrict.restrictL (fun t => memL t (looksL ops.toList ops[i])) (F i)).get t = bif memL t (looksL ops.toList ops[i]) then (F i).get t else none := fun t => Tr.get_restrict (F i) _ t
            have har : AR μ' nt (Tr.restrict.restrictL (fun t => memL t (looksL ops.toList ops[i])) (F i)) a' := by
              refine ⟨fun t v hv => ?_, hts, htd⟩
              rw [hget] at hv
              cases hmt : memL t (looksL ops.toList ops[i]) with
              | false => simp [hmt] at hv
              | true =>
                simp only [hmt, cond_true] at hv
                have hmt' := memL_iff.1 hmt
                rcases wrote i (by omega) t v hv with ⟨k, o, h1, h2, h3, h4, rfl, h6⟩ | ⟨h1, h2⟩
                · have hlk : listed.getD k false = true := by
                    rcases ahead k o h1 h2 with h7 | h7
                    · exact h7
                    · exact absurd hmt' ((freeR_spec h7).2.1 t h3)
                  refine hsl1 t k o h4 h2 h3 hlk fun k' o' ho' hl' hd' => ?_
                  rcases Nat.lt_trichotomy k' i with h7 | rfl | h7
                  · exact h6 k' o' h7 ho' hd'
                  · rw [hnl'] at hl'; cases hl'
                  · exact absurd hmt' ((freeR_spec (behind k' o' h7 ho' hl')).2.2.1 t hd')
                · refine hsl2 t v (fun k o hok hlk hd' => ?_) h2
                  rcases Nat.lt_trichotomy k i with h7 | rfl | h7
                  · exact h1 k o h7 hok hd'
                  · rw [hnl'] at hlk; cases hlk
                  · exact absurd hmt' ((freeR_spec (behind k o h7 hok hlk)).2.2.1 t hd')
            have hcong : ∀ Hx, stepA E call ops.toList (Tr.restrict.restrictL (fun t => memL t (looksL ops.toList ops[i])) (F i)) ops[i] Hx = stepA E call ops.toList (F i) ops[i] Hx := by
              intro Hx
              refine step_congr fun t ht => ?_
              rw [hget, memL_iff.2 ht]; rfl
            have go : ∀ (s2 m2 : Nat) (μ2 : Mu) (u : Value) (w2 : World), VR μ2 (V i) u → s2 ≤ m2 → m2 ≤ ops.size → (∀ k o, s2 ≤ k → k < m2 → ops.toList[k]? = some o → bigR o.op = false) → (∀ k o, k < s2 → ops.toList[k]? = some o → kindA o.op = 2 → k ≠ i → listed.getD k false = true) →
                (m2 = ops.size ∨ ∃ o, ops.toList[m2]? = some o ∧ bigR o.op = true ∧ m2 ≠ i ∧ listed.getD m2 false = false) → h.next ≤ (H s2).next → HR μ2 (H m2) w2 → μ'.le μ2 → Ext μ h w μ2 (H m2) w2 → (∀ (j : Nat) (b : Blk), s2 ≤ j → j < m2 → j ≠ i → H (j + 1) = (H j).push b → listed.getD j false = false → μ2 (H j).next = none) →
                wpAny P .any ops Q fuel (listed.setIfInBounds i true) (a'.put ops[i].dst u) w2 := by
              intro s2 m2 μ2 u w2 hv p1 p2 p3 p4 p5 p6 hr2 hmono hext2 hfree2
              refine ih (listed.setIfInBounds i true) μ2 _ w2 (us.erase i) s2 m2 ?_ ?_ (by simpa using hsz) ?_ p1 p2 p3 ?_ ?_ p6 hr2 hext2 ?_ (by simpa [Act.put] using (by cases ops[i].dst <;> simp [hts])) (by cases ops[i].dst <;> simp [Act.put, htd]) ?_ ?_
              · have := hus i hin hnl'
                rw [List.length_erase_of_mem this]; omega
              · intro k hk hl
                rw [getD_set hlt] at hl
                by_cases hki : k = i
                · rw [if_pos hki] at hl; cases hl
                · rw [if_neg hki] at hl
                  exact (List.mem_erase_of_ne hki).2 (hus k hk hl)
              · intro k o hok hl e he
                rw [getD_set hlt] at hl ⊢
                by_cases hei : e = i
                · rw [if_pos hei]
                · rw [if_neg hei]
                  by_cases hki : k = i
                  · subst hki; rw [hoL] at hok; cases hok; exact hedge e he
                  · rw [if_neg hki] at hl; exact hcl k o hok hl e he
              · intro k o hk hok hk2
                rw [getD_set hlt]
                by_cases hki : k = i
                · rw [if_pos hki]
                · rw [if_neg hki]; exact p4 k o hk hok hk2 hki
              · rcases p5 with p5 | ⟨o, g1, g2, g3, g4⟩
                · exact .inl p5
                · exact .inr ⟨o, g1, g2, by rw [getD_set hlt, if_neg g3]; exact g4⟩
              · intro j b hj1 hj2 hb hl
                rw [getD_set hlt] at hl
                by_cases hji : j = i
                · rw [if_pos hji] at hl; cases hl
                · rw [if_neg hji] at hl
                  exact hfree2 j b hj1 hj2 hji hb hl
              · intro t k o htn hok hd' hl hmax
                rw [getD_set hlt] at hl
                by_cases hdi : ops[i].dst = some t
                · have hik : i ≤ k := hmax i ops[i] hoL (by rw [getD_set hlt, if_pos rfl]) hdi
                  have hki : k = i := by
                    by_cases hki : k = i
                    · exact hki
                    · rw [if_neg hki] at hl
                      exact absurd hd' ((freeR_spec (behind k o (by omega) hok hl)).2.2.2 t hdi)
                  subst hki
                  rw [hdi, put_same (by omega)]; exact hv
                · have hki : k ≠ i := by rintro rfl; rw [hoL] at hok; cases hok; exact hdi hd'
                  rw [if_neg hki] at hl
                  rw [put_other hdi]
                  refine VR.mono hmono _ _ (hsl1 t k o htn hok hd' hl fun k' o' ho' hl' hd'' => hmax k' o' ho' ?_ hd'')
                  rw [getD_set hlt]; split
                  · rfl
                  · exact hl'
              · intro t v hno hv'
                have hdi : ops[i].dst ≠ some t := hno i ops[i] hoL (by rw [getD_set hlt, if_pos rfl])
                rw [put_other hdi]
                refine VR.mono hmono _ _ (hsl2 t v (fun k o hok hl => hno k o hok ?_) hv')
                rw [getD_set hlt]; split
                · rfl
                · exact hl
            have hstepi : stepA E call ops.toList (Tr.restrict.restrictL (fun t => memL t (looksL ops.toList ops[i])) (F i)) ops[i] (H i) = some (V i, H (i + 1)) := by rw [hcong]; exact (hstep i ops[i] hoL).1
            have hmb' : i ≠ m → (m = ops.size ∨ ∃ o, ops.toList[m]? = some o ∧ bigR o.op = true ∧ m ≠ i ∧ listed.getD m false = false) := fun hne => hmb.imp (fun x => x) (fun ⟨o, g1, g2, g3⟩ => ⟨o, g1, g2, fun e => hne e.symm, g3⟩)
            show wpOp P ops Q i _ a' w'
            unfold wpOp
            rw [ho]
            cases hbg : bigR ops[i].op with
            | true =>
              obtain ⟨hk2, _⟩ := bigR_kind hbg
              have him : i = m := by
                rcases hwhere hk2 with ⟨_, _, h3⟩ | ⟨h3, _⟩
                · rw [hbg] at h3; cases h3
                · exact h3
              subst him
              refine step_wp ok hcall hrm har hstepi ?_
              intro μ2 u w2 hv hr2 hext2
              obtain ⟨c, q1, q2, q3, q4⟩ := next (i + 1) (by omega)
              obtain ⟨hr3, hext3⟩ := lift (i + 1) c q1 q2 q3 μ2 w2 hr2 (Ext.trans hr hext hext2)
              refine go (i + 1) c μ2 u w2 hv q1 q2 q3 ?_ ?_ (Nat.le_trans hext.next hext2.next) hr3 hext2.mono hext3 ?_
              · intro k o hk hok hkk hki
                rcases ahead k o (by omega) hok with h6 | h6
                · exact h6
                · have := ((freeR_spec h6).1 hkk hk2).2
                  rw [hbg] at this; cases this
              · rcases q4 with q4 | ⟨o, g1, g2⟩
                · exact .inl q4
                · refine .inr ⟨o, g1, g2, by omega, ?_⟩
                  cases hlc : listed.getD c false with
                  | false => rfl
                  | true =>
                    have h6 := behind c o (by omega) g1 hlc
                    have := ((freeR_spec h6).1 hk2 (bigR_kind g2).1).1
                    rw [hbg] at this; cases this
              · intro j b hj1 hj2 hji hb hl
                have b1 := (hle' (i + 1) c q3 q2 (i + 1) j (Nat.le_refl _) hj1 (by omega)).1
                cases hm2 : μ2 (H j).next with
                | none => rfl
                | some l =>
                  have := (hr2.dom _ _ hm2).1
                  omega
            | false =>
              have hpi := hpush i ops[i] hoL hbg
              by_cases hal : ∃ b, H (i + 1) = (H i).push b
              · obtain ⟨b, hb⟩ := hal
                have hk2 : kindA ops[i].op = 2 := by
                  rcases Nat.lt_or_ge (kindA ops[i].op) 2 with h7 | h7
                  · exfalso
                    have h8 := step_heap (by omega) (hstep i ops[i] hoL).1
                    have h9 := congrArg Heap.next (h8.symm.trans hb)
                    exact absurd h9 (Nat.ne_of_lt (Nat.lt_succ_self _))
                  · have := kindA_le ops[i].op; omega
                obtain ⟨hsi, him⟩ : s ≤ i ∧ i < m := by
                  rcases hwhere hk2 with ⟨h3, h4, _⟩ | ⟨_, h3⟩
                  · exact ⟨h3, h4⟩
                  · rw [hbg] at h3; cases h3
                have hfi := hfree i b hsi him hb hnl'
                unfold stepA at hstepi
                split at hstepi
                · rename_i hw
                  obtain ⟨b', sm, e1, e2, l, u, o', h1, h2, h3, h4⟩ := allocR_step ok har (not_bigR hbg hk2) hstepi hfi w'
                  have hbb : b' = b := by
                    have h5 := e1.symm.trans hb
                    have h6 := congrArg (fun x : Heap => x.t.get (H i).next) h5
                    simp only [Heap.push] at h6
                    rw [Tr.get_set_same, Tr.get_set_same] at h6
                    exact Option.some.inj h6
                  subst hbb
                  have hr1 := hle' s m hnb hmn (i + 1) m (by omega) (by omega) (Nat.le_refl _)
                  rw [hb] at hr1
                  have n0 : (H i).next < ((H i).push b').next := Nat.lt_succ_self _
                  have n1 : (H i).next < (H m).next := Nat.lt_of_lt_of_le n0 hr1.1
                  have n2 : (H m).t.get (H i).next = some b' := by
                    rw [hr1.2.1 _ n0]; exact Tr.get_set_same
                  have n3 : h.next ≤ (H i).next := Nat.le_trans hsn (hle' s m hnb hmn s i (Nat.le_refl _) hsi (by omega)).1
                  show (if Region.wanted ops[i] (yielded ops a'.tmps) = true then (ops[i].wp P a' w' (wpAny P .any ops Q fuel (listed.setIfInBounds i true)) Q ∨ (ops[i].asks P a' w' ∧ LetsOut Q)) else wpAny P .any ops Q fuel (listed.setIfInBounds i true) (a'.put ops[i].dst undef) w')
                  rw [wanted_sound har hw]
                  simp only [if_true]
                  left
                  unfold Oper.wp
                  rw [e2, run_bind_ok h1, Sem.run_pure]
                  rw [Oper.upon_value]
                  refine go s m _ u _ h3 hsm hmn hnb (fun k o g1 g2 g3 _ => hsk k o g1 g2 g3) (hmb' (by omega)) hsn (hrm.at hfi n1 n2 o' l h2 h4) (Mu.le_add hfi) (hext.at hfi n3 o' l h2) fun j c hj1 hj2 hji hc hl => ?_
                  have hne : (H j).next ≠ (H i).next := by
                    rcases Nat.lt_or_ge j i with h7 | h7
                    · have h8 := (hle' s m hnb hmn (j + 1) i (by omega) (by omega) (by omega)).1
                      rw [hc] at h8
                      exact Nat.ne_of_lt (Nat.lt_of_lt_of_le (Nat.lt_succ_self _) h8)
                    · have h8 := (hle' s m hnb hmn (i + 1) j (by omega) (by omega) (by omega)).1
                      rw [hb] at h8
                      exact (Nat.ne_of_lt (Nat.lt_of_lt_of_le (Nat.lt_succ_self _) h8)).symm
                  show (if (H j).next = (H i).next then some l else μ' (H j).next) = none
                  rw [if_neg hne]
                  exact hfree j c hj1 hj2 hc hl
                · exfalso
                  simp only [Option.some.injEq, Prod.mk.injEq] at hstepi
                  have h9 := congrArg Heap.next (hstepi.2.trans hb)
                  exact absurd h9 (Nat.ne_of_lt (Nat.lt_succ_self _))
                · cases hstepi
              · have hsame : H (i + 1) = H i := by
                  rcases hpi with h7 | h7
                  · exact h7
                  · exact absurd h7 hal
                have hstepm : stepA E call ops.toList (F i) ops[i] (H m) = some (V i, H m) := by
                  rcases kindA_le ops[i].op with h0 | h1 | h2
                  · exact step_free h0 (hstep i ops[i] hoL).1 (H m)
                  · obtain ⟨u, h3, h4, he⟩ := hstab i ops[i] (F i) (H i) (V i) hoL (hrec i (by simpa using hin)) h1 m (H m) (by
                      rcases hmb with h7 | ⟨o, h7, h8, _⟩
                      · right; exact ⟨by rw [hlen]; exact h7, by rw [h7, gn]⟩
                      · left; exact ⟨o, F m, V m, h7, (bigR_kind h8).1, hrec m (by have := (List.getElem?_eq_some_iff.1 h7).1; simpa using this)⟩)
                    have he' := eqV_eq _ _ he
                    subst he'
                    have := step_heap (by omega) h4
                    subst this
                    exact h4
                  · have hs := (hstep i ops[i] hoL).1
                    unfold stepA at hs ⊢
                    split at hs
                    · obtain ⟨b, hb⟩ := allocR_push call (not_bigR hbg h2) hs
                      exact absurd ⟨b, hb⟩ hal
                    · simp only [Option.some.injEq, Prod.mk.injEq] at hs
                      rw [hs.1]
                    · cases hs
                have him : i ≠ m := by
                  rintro rfl
                  rcases hmb with h7 | ⟨o, h7, h8, _⟩
                  · omega
                  · rw [hoL] at h7; cases h7; rw [hbg] at h8; cases h8
                refine step_wp ok hcall hrm har (by rw [hcong]; exact hstepm) ?_
                intro μ2 u w2 hv hr2 hext2
                refine go s m μ2 u w2 hv hsm hmn hnb (fun k o g1 g2 g3 _ => hsk k o g1 g2 g3) (hmb' him) hsn hr2 hext2.mono (Ext.trans hr hext hext2) fun j c hj1 hj2 hji hc hl => ?_
                cases hm2 : μ2 (H j).next with
                | none => rfl
                | some l =>
                  exfalso
                  rcases hext2.fresh _ _ hm2 with h7 | ⟨h7, _⟩
                  · rw [hfree j c hj1 hj2 hc hl] at h7; cases h7
                  · have h8 := (hle' s m hnb hmn (j + 1) m (by omega) (by omega) (Nat.le_refl _)).1
                    rw [hc] at h8
                    exact absurd (Nat.lt_of_lt_of_le (Nat.lt_succ_self (H j).next) h8) (by omega)
      refine wp_region_any hm ?_
      obtain ⟨c, q1, q2, q3, q4⟩ := next 0 (Nat.zero_le _)
      have hx00 : Ext μ h w μ (H 0) { w with drawn := w.drawn + 1 } := by rw [g0]; exact Ext.draws rfl rfl rfl rfl
      obtain ⟨hr0, hx0⟩ := lift 0 c q1 q2 q3 μ { w with drawn := w.drawn + 1 } (by rw [g0]; exact hr.draws rfl) hx00
      have hfalse : ∀ k, (Array.replicate ops.size false).getD k false = false := by
        intro k; simp [Array.getD]
      refine main ops.size _ μ a _ (List.range ops.size) 0 c (by simp) (by intro i hi _; simpa using hi) (by simp) ?_ q1 q2 q3 (fun k o hk => by omega) ?_ (by rw [g0]; exact Nat.le_refl _) hr0 hx0 ?_ ha.size ha.defers ?_ ?_
      · intro i o _ hl; rw [hfalse] at hl; cases hl
      · rcases q4 with q4 | ⟨o, g1, g2⟩
        · exact .inl q4
        · exact .inr ⟨o, g1, g2, hfalse c⟩
      · intro i b hi1 hi hb _
        cases hm2 : μ (H i).next with
        | none => rfl
        | some l =>
          exfalso
          have h7 := (hr.dom _ _ hm2).1
          have := (hle' 0 c q3 q2 0 i (Nat.le_refl _) (Nat.zero_le _) (by omega)).1
          rw [g0] at this
          omega
      · intro t k o _ _ _ hl; rw [hfalse] at hl; cases hl
      · intro t v _ hv; exact ha.slot t v hv
    }
  }
end
end Go.Proofs.YtkcjphhjmlienaaGreatDoor.Ai
