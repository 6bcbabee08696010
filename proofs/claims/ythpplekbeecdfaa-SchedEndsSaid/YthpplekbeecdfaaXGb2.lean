import Derived.Test.YthpplekbeecdfaaXGb1
import Derived.Test.YthpplekbeecdfaaAi3
/- Functions of the program as plain functions, and what they come to; part 2. -/
set_option linter.unusedVariables false
set_option linter.unusedSimpArgs false
open Go Go.Proofs.Ythpplekbeecdfaa.Ai Go.Proofs
namespace Go.Proofs.Ythpplekbeecdfaa.Gb
variable {N : Nat} {s : SL} {l : List Int} {ss : List SL} {ll : List (List Int)} {B : Nat} {h0 : Heap}
theorem RowsB.mono {C : Nat} {h : Heap} (hl : B ≤ C) (hr : RowsB B h s ss ll) : RowsB C h s ss ll :=
  ⟨hr.r, fun A off ha => Nat.lt_of_lt_of_le (hr.u A off ha) hl, fun i hi A off ha => Nat.lt_of_lt_of_le (hr.ru i hi A off ha) hl⟩
theorem nat_i {n i : Nat} : ltInt (i : Int) (n : Int) = decide (i < n) := by rw [ltInt_dec]; simp
theorem ringed_loop (hf : Fine ll) (hN : 1000 ≤ N) : ∀ (M i : Nat) (h : Heap), i ≤ ll.length → ll.length - i < M → RowsB B h s ss ll → B ≤ h.next → (∀ j : Nat, j < i → ¬ Reach ll (j : Int) (j : Int)) →
    (∃ h', f43_l1 N M s 0 (ll.length : Int) (i : Int) h = some (.exit 0, (0, ()), h') ∧ Keep B h h' ∧ ∀ j : Nat, j < ll.length → ¬ Reach ll (j : Int) (j : Int)) ∨
    (∃ (h' : Heap) (j : Nat), f43_l1 N M s 0 (ll.length : Int) (i : Int) h = some (.ret, ((j : Int), ()), h') ∧ Keep B h h' ∧ j < ll.length ∧ Reach ll (j : Int) (j : Int) ∧ ∀ k : Nat, k < j → ¬ Reach ll (k : Int) (k : Int)) := by
  intro M
  induction M with
  | zero => intro i h h1 h2; omega
  | succ M ih =>
    intro i h h1 h2 hr hb hno
    rw [f43_l1_succ]
    unfold f43_l1_b
    have hlen := hf.len
    by_cases hi : i < ll.length
    · have ew : wrapA .i64 ((i : Int) + 1) = ((i + 1 : Nat) : Int) := wrapA_small (by omega) (by omega)
      obtain ⟨s', h', seen, e1, k1, o1, hl, hs⟩ := below_spec (N := N) (hr.mono hb) hf hN (i := (i : Int)) (by omega) (by omega)
      have hg := getD_lt seen false (n := i) (by omega)
      have hb1 := o1.one.bool (β := Out × (Int × Unit) × Heap) (x := (i : Int)) (by omega) (by omega)
      simp only [nat_i, hi, decide_true, cond_true, e1, bind2_some]
      rw [hb1]
      simp only [Int.toNat_natCast]
      cases hsn : seen.getD i false with
      | true =>
        refine .inr ⟨h', i, rfl, k1.mono hb, hi, (hs i hi).1 hsn, hno⟩
      | false =>
        simp only [cond_false, ew]
        have hni : ¬ Reach ll (i : Int) (i : Int) := fun e => by rw [(hs i hi).2 e] at hsn; cases hsn
        rcases ih (i + 1) h' (by omega) (by omega) (hr.keep (k1.mono hb)) (by have := k1.next; omega) (fun j hj => by
          by_cases hji : j = i
          · subst hji; exact hni
          · exact hno j (by omega)) with ⟨h2, e, k, hx⟩ | ⟨h2, j, e, k, hx⟩
        · exact .inl ⟨h2, e, (k1.mono hb).trans k, hx⟩
        · exact .inr ⟨h2, j, e, (k1.mono hb).trans k, hx⟩
    · have : i = ll.length := by omega
      subst this
      exact .inl ⟨h, by simp [nat_i], Keep.refl _ _, hno⟩
theorem acyclic_of (hf : Fine ll) (h : ∀ j : Nat, j < ll.length → ¬ Reach ll (j : Int) (j : Int)) : Acyclic ll := by
  intro i hi
  have hin := hi.inr hf
  apply h i.toNat (by omega)
  rw [show ((i.toNat : Nat) : Int) = i by omega]; exact hi
/-- an error of the program's -/
def isErr (h : Heap) (v : AV) (code at' : Int) : Prop := ∃ A, v = .iface 69 (.ptr (some (A, 0))) ∧ A < h.next ∧ h.g A = some (.row [.int .i64 code, .int .i64 at', .iface 71 (.int .i64 code)] .own)
theorem isErr.keep {h h' : Heap} (hk : Keep h.next h h') {v : AV} {c a : Int} (hx : isErr h v c a) : isErr h' v c a := by
  obtain ⟨A, h1, h2, h3⟩ := hx
  exact ⟨A, h1, Nat.lt_of_lt_of_le h2 hk.next, by rw [hk.g A h2]; exact h3⟩
theorem nn7 : binA E .neq 32 (.tmp 7) (.const .nilIface) AV.nilIface AV.nilIface = some (.bool false) := by kernel_rfl
/-- which error an order has: none, where there is no ring -/
theorem check_spec {h : Heap} (hf : Fine ll) (hN : 1000 ≤ N) (hr : RowsB B h s ss ll) (hb : B ≤ h.next) :
    (∃ h', f40 N s h = some (.nilIface, h') ∧ Keep B h h' ∧ Acyclic ll) ∨
    (∃ (h' : Heap) (v : AV) (j : Nat), f40 N s h = some (v, h') ∧ Keep B h h' ∧ isErr h' v 42 j ∧ j < ll.length ∧ Reach ll (j : Int) (j : Int) ∧ ∀ k : Nat, k < j → ¬ Reach ll (k : Int) (k : Int)) := by
  have hm := may_spec (N := N) hr.r hf (by omega)
  have hlen := hf.len
  rcases ringed_loop (N := N) hf hN N 0 h (by omega) (by omega) hr hb (fun j hj => by omega) with ⟨h', e, k, ha⟩ | ⟨h', j, e, k, h1, h2, h3⟩
  · left
    simp only [Int.ofNat_zero] at e
    refine ⟨h', ?_, k, acyclic_of hf ha⟩
    simp [f40, hm, nn7, f43, hr.r.slen, e, leInt_dec]
  · right
    simp only [Int.ofNat_zero] at e
    refine ⟨h'.push (.row [.int .i64 42, .int .i64 j, .iface 71 (.int .i64 42)] .own), .iface 69 (.ptr (some (h'.next, 0))), j, ?_, k.trans ((Keep.refl _ _).push (by have := k.next; omega) _), ⟨h'.next, rfl, by simp, g_push_eq _ rfl⟩, h1, h2, h3⟩
    simp [f40, hm, nn7, f43, hr.r.slen, e, leInt_dec, f46, eqInt_dec]
def stL (dn : List Bool) : List Int := dn.map fun b => if b then 2 else 0
theorem stL_get (dn : List Bool) {k : Nat} (hk : k < dn.length) : (stL dn).getD k 0 = if dn.getD k false then 2 else 0 := by
  rw [getD_lt _ _ (by simpa [stL] using hk), getD_lt _ _ hk]; simp [stL]
theorem stL_set (dn : List Bool) (k : Nat) : stL (dn.set k true) = (stL dn).set k 2 := by simp [stL, List.map_set]
theorem scan3 {h : Heap} (hs : Ints h s l) (hl : l.length ≤ 1000) {sv : SL} {dn : List Bool} (hst : Own1 B h sv ((stL dn).map (AV.int .i64))) (hin : ∀ x ∈ l, 0 ≤ x ∧ x < dn.length) (v0 v6 v26 : SL) (v7 v27 v28 : Int) : ∀ (M i : Nat) (v9 : Int), i ≤ l.length → l.length - i < M →
    f14_l3 N M v0 sv v6 v7 v9 v26 v27 v28 s (l.length : Int) (i : Int) h = some (.exit 4, (v0, sv, v6, v7, (if (l.drop i).all (fun k => dn.getD k.toNat false) then v9 else 0), v26, v27, v28, ()), h) := by
  intro M
  induction M with
  | zero => intro i v9 h1 h2; omega
  | succ M ih =>
    intro i v9 h1 h2
    rw [f14_l3_succ]
    unfold f14_l3_b
    by_cases hi : i < l.length
    · have ew : wrapA .i64 ((i : Int) + 1) = ((i + 1 : Nat) : Int) := wrapA_small (by omega) (by omega)
      have hd : l.drop i = l[i] :: l.drop (i + 1) := List.drop_eq_getElem_cons hi
      have hg := getD_lt l 0 hi
      have hx := hin l[i] (List.getElem_mem hi)
      have hsl : (stL dn).length = dn.length := by simp [stL]
      rw [hs.int (x := (i : Int)) (by omega) (by omega)]
      simp only [Int.toNat_natCast, hg]
      rw [hst.one.int (x := l[i]) (by omega) (by omega)]
      simp only [nat_i, hi, decide_true, cond_true, stL_get dn (show l[i].toNat < dn.length by omega), eqInt_dec, hd, List.all_cons, ew]
      cases hb : dn.getD l[i].toNat false with
      | true =>
        simp only [if_true, decide_true, Bool.not_true, cond_false, Bool.true_and]
        exact ih (i + 1) v9 (by omega) (by omega)
      | false =>
        simp only [Bool.false_and, Bool.false_eq_true, if_false, show ¬ ((0 : Int) = 2) by omega, decide_false, Bool.not_false, cond_true]
        have := ih (i + 1) 0 (by omega) (by omega)
        rw [this]; simp
    · have : i = l.length := by omega
      subst this
      simp [nat_i]
/-- the state of the search for an order -/
structure Ost (B : Nat) (h0 h : Heap) (sv ov : SL) (dn : List Bool) (out : List Int) : Prop where
  k : Keep B h0 h
  b0 : B ≤ h0.next
  s : Own1 B h sv ((stL dn).map (AV.int .i64))
  o : Own1 B h ov (out.map (AV.int .i64))
  ne : ∀ A, sv.blk = some A → ov.blk ≠ some A
theorem scan2 (hr : RowsB B h0 s ss ll) (hf : Fine ll) (hN : 1000 ≤ N) {sv ov : SL} {dn : List Bool} {out : List Int} {h : Heap} (hdl : dn.length = ll.length) (hol : out.length ≤ 64) (ho : Ost B h0 h sv ov dn out) : ∀ (M i : Nat), i ≤ ll.length → ll.length - i < M →
    ∃ ov' h', f14_l2 N M s sv ov s (ll.length : Int) (i : Int) h = some (.exit 2, (s, sv, ov', ()), h') ∧
      (match pick ll dn (ll.length - i) i with | some j => Ost B h0 h' sv ov' (dn.set j true) (out ++ [(j : Int)]) | none => Ost B h0 h' sv ov' dn out) := by
  intro M
  induction M with
  | zero => intro i h1 h2; omega
  | succ M ih =>
    intro i h1 h2
    rw [f14_l2_succ]
    unfold f14_l2_b
    have hlen := hf.len
    by_cases hi : i < ll.length
    · have ew : wrapA .i64 ((i : Int) + 1) = ((i + 1 : Nat) : Int) := wrapA_small (by omega) (by omega)
      have hrk := hr.keep ho.k
      have hrow := hrk.r.row i hi
      have hrl := hf.row i hi
      have hp : pick ll dn (ll.length - i) i = if ready ll dn i then some i else pick ll dn (ll.length - (i + 1)) (i + 1) := by
        rw [show ll.length - i = (ll.length - (i + 1)) + 1 by omega]; rfl
      have hsl : (stL dn).length = dn.length := by simp [stL]
      rw [hrk.r.top.sl (x := (i : Int)) (by omega) (by rw [hrk.r.len]; omega)]
      have e3 := scan3 (N := N) hrow (by omega) ho.s (fun x hx => by rw [hdl]; exact hf.inr i hi x hx) s ov s (i : Int) (ll.length : Int) (i : Int) N 0 1 (by omega) (by omega)
      simp only [List.drop_zero, Int.ofNat_zero] at e3
      simp only [nat_i, hi, decide_true, cond_true, Int.toNat_natCast, Ints.len hrow, Int.ofNat_eq_natCast, e3, bind3_some]
      rw [ho.s.one.int (x := (i : Int)) (by omega) (by omega)]
      simp only [Int.toNat_natCast, stL_get dn (show i < dn.length by omega), eqInt_dec, ew, hp]
      cases hd : dn.getD i false with
      | true =>
        have hrd : ready ll dn i = false := by simp only [ready, hd, Bool.not_true, Bool.false_and]
        simp only [if_true, decide_true, cond_true, hrd, Bool.false_eq_true, if_false]
        exact ih (i + 1) (by omega) (by omega)
      | false =>
        have hrd : ready ll dn i = (ll.getD i []).all fun k => dn.getD k.toNat false := by simp only [ready, hd, Bool.not_false, Bool.true_and]
        simp only [Bool.false_eq_true, if_false, show ¬ ((0 : Int) = 2) by omega, decide_false, cond_false, hrd]
        cases hall : (ll.getD i []).all (fun k => dn.getD k.toNat false) with
        | false =>
          simp only [Bool.false_eq_true, if_false, show ¬ ((0 : Int) = 1) by omega, decide_false, cond_false]
          exact ih (i + 1) (by omega) (by omega)
        | true =>
          simp only [if_true, decide_true, cond_true]
          have hnx := ho.k.next
          have hb0 := ho.b0
          obtain ⟨ov', h1', e1, o1, b1, c1⟩ := append_own1 app26 (v := AV.int .i64 (i : Int)) rfl ho.o (by omega) (by simp; omega)
          rw [e1]
          simp only [bindT_some, cast_slice]
          have os := ho.s.but b1 (fun A hA e => ho.ne A hA e)
          have k1 : Keep B h h1' := b1.keep (by omega) (fun A hA => (ho.o.ge A hA).1)
          have hne : ∀ A, sv.blk = some A → ov'.blk ≠ some A := by
            intro A hA e
            rcases c1 with c1 | ⟨A', c1, c3⟩
            · exact ho.ne A hA (c1 ▸ e)
            · rw [c1] at e; cases e
              have := (ho.s.ge A hA).2; omega
          obtain ⟨h2', e2, o2, b2, n2⟩ := store_own1 os (i := i) (by simp; omega) (AV.int .i64 2)
          have k2 : Keep B h1' h2' := b2.keep (by have := k1.next; omega) (fun A hA => (os.ge A hA).1)
          rw [os.one.ixz (x := (i : Int)) (by omega) (by simp; omega)]
          simp only [Int.toNat_natCast, e2, need_some]
          refine ⟨ov', h2', rfl, ho.k.trans (k1.trans k2), hb0, ?_, ?_, hne⟩
          · rw [stL_set, List.map_set]; exact o2
          · rw [List.map_append]
            exact o1.but b2 (fun A hA e => hne A e hA)
    · have : i = ll.length := by omega
      subst this
      exact ⟨ov, h, by simp [nat_i], by simpa [pick] using ho⟩
end Go.Proofs.Ythpplekbeecdfaa.Gb

open Go Go.Proofs.Ythpplekbeecdfaa.Ai Go.Proofs
namespace Go.Proofs.Ythpplekbeecdfaa.Gb
variable {N : Nat} {s : SL} {l : List Int} {ss : List SL} {ll : List (List Int)} {B : Nat} {h0 : Heap}
theorem order_loop (hr : RowsB B h0 s ss ll) (hf : Fine ll) (ha : Acyclic ll) (hN : 1000 ≤ N) {sv : SL} : ∀ (M : Nat) (h : Heap) (ov : SL) (dn : List Bool) (out : List Int), out.length ≤ ll.length → ll.length - out.length < M → Ost B h0 h sv ov dn out → Topo ll dn out →
    ∃ ov' h' dn' out', f14_l1 N M s sv ov h = some (.exit 0, (ov', ()), h') ∧ Ost B h0 h' sv ov' dn' out' ∧ Topo ll dn' out' ∧ out'.length = ll.length := by
  intro M
  induction M with
  | zero => intro h ov dn out h1 h2; omega
  | succ M ih =>
    intro h ov dn out h1 h2 ho ht
    rw [f14_l1_succ]
    unfold f14_l1_b
    have hlen := hf.len
    have hol : ov.len = out.length := by have := ho.o.len; simpa using this
    by_cases hlt : out.length < ll.length
    · obtain ⟨ov1, h1', e1, hp⟩ := scan2 (N := N) hr hf hN ht.len (by omega) ho N 0 (by omega) (by omega)
      obtain ⟨j, hj1, hj2, hj3⟩ := ht.more hf ha hlt
      rw [Nat.sub_zero, hj1] at hp
      simp only [Int.ofNat_zero] at e1
      obtain ⟨ov2, h2', dn2, out2, e2, ho2, ht2, hl2⟩ := ih h1' ov1 (dn.set j true) (out ++ [(j : Int)]) (by simp; omega) (by simp; omega) hp (ht.next hf hj2 hj3)
      refine ⟨ov2, h2', dn2, out2, ?_, ho2, ht2, hl2⟩
      simp only [hol, hr.r.slen, Int.ofNat_eq_natCast, nat_i, hlt, decide_true, cond_true, e1, bind3_some]
      exact e2
    · refine ⟨ov, h, dn, out, ?_, ho, ht, by omega⟩
      simp only [hol, hr.r.slen, Int.ofNat_eq_natCast, nat_i, hlt, decide_false, cond_false]
theorem app26z : E.zero 3 = some (.int .i64 0) := by kernel_rfl
theorem stL_rep (n : Nat) : stL (List.replicate n false) = List.replicate n 0 := by simp [stL]
theorem nn15 : binA E .neq 32 (.tmp 15) (.const .nilIface) AV.nilIface AV.nilIface = some (.bool false) := by kernel_rfl
theorem nn15e (v : AV) : binA E .neq 32 (.tmp 15) (.const .nilIface) (.iface 69 v) AV.nilIface = some (.bool true) := by kernel_rfl
theorem nn16 : binA E .neq 32 (.tmp 16) (.const .nilIface) AV.nilIface AV.nilIface = some (.bool false) := by kernel_rfl
theorem nn16e (v : AV) : binA E .neq 32 (.tmp 16) (.const .nilIface) (.iface 69 v) AV.nilIface = some (.bool true) := by kernel_rfl
/-- an order that is whole -/
structure Whole (ll : List (List Int)) (out : List Int) : Prop where
  len : out.length = ll.length
  mem : ∀ x, x ∈ out ↔ 0 ≤ x ∧ x < ll.length
  nod : ∀ i, ∀ hi : i < out.length, out[i] ∉ out.take i
  dep : ∀ i, ∀ hi : i < out.length, ∀ k ∈ ll.getD (out[i]).toNat [], k ∈ out.take i
theorem Topo.whole {dn : List Bool} {out : List Int} (ht : Topo ll dn out) (hl : out.length = ll.length) : Whole ll out := by
  refine ⟨hl, fun x => ?_, ht.nod, ht.dep⟩
  rw [ht.mem]
  constructor
  · rintro ⟨h1, h2, _⟩; exact ⟨h1, h2⟩
  · rintro ⟨h1, h2⟩
    refine ⟨h1, h2, ?_⟩
    have hall := List.count_eq_length.1 (show dn.count true = dn.length by rw [ht.cnt, ht.len, hl])
    have hx : x.toNat < dn.length := by rw [ht.len]; omega
    rw [getD_lt _ _ hx]
    exact (hall _ (List.getElem_mem hx)).symm
/-- all things, each behind what it needs; an error, where there is a ring -/
theorem Order_spec {h : Heap} (hf : Fine ll) (hN : 1000 ≤ N) (hr : RowsB B h s ss ll) (hb : B ≤ h.next) :
    (∃ s' h' out, f14 N s h = some ((s', .nilIface, ()), h') ∧ Keep B h h' ∧ Own1 B h' s' (List.map (AV.int .i64) out) ∧ Acyclic ll ∧ Whole ll out) ∨
    (∃ (h' : Heap) (v : AV) (j : Nat), f14 N s h = some ((nilS, v, ()), h') ∧ Keep B h h' ∧ isErr h' v 42 j ∧ j < ll.length ∧ Reach ll (j : Int) (j : Int) ∧ ∀ k : Nat, k < j → ¬ Reach ll (k : Int) (k : Int)) := by
  have hlen := hf.len
  rcases check_spec (N := N) hf hN hr hb with ⟨h1, e1, k1, ha⟩ | ⟨h1, v, j, e1, k1, he, hx⟩
  · left
    have hnx := k1.next
    obtain ⟨m1, m2⟩ := make1 app26 (.int .i64 0) app26z rfl ll.length (by omega) h1
    have kb : Keep B h (h1.push (.row (List.replicate ll.length (.int .i64 0)) .own)) := k1.push hb _
    have hr1 : RowsB B (h1.push (.row (List.replicate ll.length (.int .i64 0)) .own)) s ss ll := hr.keep kb
    have ho : Ost B (h1.push (.row (List.replicate ll.length (.int .i64 0)) .own)) (h1.push (.row (List.replicate ll.length (.int .i64 0)) .own)) ⟨some (h1.next, 0), ll.length, ll.length, 1⟩ nilS (List.replicate ll.length false) [] := by
      refine ⟨Keep.refl _ _, by simp; omega, ?_, Own1.nil _ _ _, fun A hA => by simp [SL.blk]⟩
      rw [stL_rep, List.map_replicate]
      rcases m2 with ⟨h2, _⟩ | ⟨A, cs, st, h2, h3, h4, h5⟩
      · cases h2
      · exact .inr ⟨A, cs, st, h2, h3, by omega, h5⟩
    obtain ⟨ov, h2, dn, out, e2, ho2, ht2, hl2⟩ := order_loop (N := N) hr1 hf ha hN N _ nilS _ [] (by simp) (by simp; omega) ho Topo.start
    have e2' : f14_l1 N N s ⟨some (h1.next, 0), ll.length, ll.length, 1⟩ ⟨none, 0, 0, 0⟩ (h1.push (.row (List.replicate ll.length (.int .i64 0)) .own)) = some (.exit 0, (ov, ()), h2) := e2
    refine ⟨ov, h2, out, ?_, kb.trans ho2.k, ho2.o, ha, ht2.whole hl2⟩
    unfold f14
    simp only [e1, bind2_some, nn15, bindV_some, cast_bool, cond_false, hr.r.slen, Int.ofNat_eq_natCast, m1, bindT_some, cast_slice, e2', bind3_some]
  · right
    obtain ⟨A, rfl, he2⟩ := he
    refine ⟨h1, _, j, ?_, k1, ⟨A, rfl, he2⟩, hx⟩
    unfold f14
    simp only [e1, bind2_some, nn15e, bindV_some, cast_bool, cond_true]
/-! levels -/
def lvOf (lv : List Int) (r : List Int) : Int := r.foldl (fun a k => if a < lv.getD k.toNat 0 + 1 then lv.getD k.toNat 0 + 1 else a) 0
theorem foldl_lv (lv lv' : List Int) : ∀ (r : List Int) (a : Int), (∀ k ∈ r, lv'.getD k.toNat 0 = lv.getD k.toNat 0) → r.foldl (fun a k => if a < lv'.getD k.toNat 0 + 1 then lv'.getD k.toNat 0 + 1 else a) a = r.foldl (fun a k => if a < lv.getD k.toNat 0 + 1 then lv.getD k.toNat 0 + 1 else a) a
  | [], a, _ => rfl
  | k :: r, a, h => by simp only [List.foldl_cons, h k (by simp)]; exact foldl_lv lv lv' r _ fun x hx => h x (by simp [hx])
theorem foldl_b {lv : List Int} {b : Int} : ∀ (r : List Int) (a : Int), (∀ k ∈ r, lv.getD k.toNat 0 + 1 ≤ b) → 0 ≤ a → a ≤ b → 0 ≤ r.foldl (fun a k => if a < lv.getD k.toNat 0 + 1 then lv.getD k.toNat 0 + 1 else a) a ∧ r.foldl (fun a k => if a < lv.getD k.toNat 0 + 1 then lv.getD k.toNat 0 + 1 else a) a ≤ b
  | [], a, _, h1, h2 => ⟨h1, h2⟩
  | k :: r, a, h, h1, h2 => by
    simp only [List.foldl_cons]
    have := h k (by simp)
    exact foldl_b r _ (fun x hx => h x (by simp [hx])) (by split <;> omega) (by split <;> omega)
theorem set_get_ne (lv : List Int) {a k : Nat} (v : Int) (h : a ≠ k) : (lv.set a v).getD k 0 = lv.getD k 0 := by
  simp only [List.getD_eq_getElem?_getD, List.getElem?_set, h, if_false]
theorem set_get_eq (lv : List Int) {a : Nat} (v : Int) (h : a < lv.length) : (lv.set a v).getD a 0 = v := by
  simp [List.getD_eq_getElem?_getD, h]
/-- a row's part of a level -/
theorem lev_row {lv : List Int} {h : Heap} (hs : Ints h0 s l) (hu : s.under B) (hl : l.length ≤ 1000) (hb0 : B ≤ h0.next) {i : Int} (hi0 : 0 ≤ i) (hi1 : i < lv.length) (hni : ∀ k ∈ l, k ≠ i) (hin : ∀ k ∈ l, 0 ≤ k ∧ k < lv.length ∧ 0 ≤ lv.getD k.toNat 0 ∧ lv.getD k.toNat 0 ≤ 100000) (v0 v22 : SL) (v23 v24 : Int) {sv : SL} :
    ∀ (M j : Nat) (h : Heap) (a : Int), j ≤ l.length → l.length - j < M → Keep B h0 h → Own1 B h sv ((lv.set i.toNat a).map (AV.int .i64)) →
    ∃ h', f16_l2 N M v0 sv i v22 v23 v24 s (l.length : Int) (j : Int) h = some (.exit 2, (v0, sv, v22, v23, v24, ()), h') ∧ Keep B h0 h' ∧ Own1 B h' sv ((lv.set i.toNat ((l.drop j).foldl (fun a k => if a < lv.getD k.toNat 0 + 1 then lv.getD k.toNat 0 + 1 else a) a)).map (AV.int .i64)) := by
  intro M
  induction M with
  | zero => intro j h a h1 h2; omega
  | succ M ih =>
    intro j h a h1 h2 hk ho
    rw [f16_l2_succ]
    unfold f16_l2_b
    by_cases hj : j < l.length
    · have ew : wrapA .i64 ((j : Int) + 1) = ((j + 1 : Nat) : Int) := wrapA_small (by omega) (by omega)
      have hd : l.drop j = l[j] :: l.drop (j + 1) := List.drop_eq_getElem_cons hj
      have hg := getD_lt l 0 hj
      obtain ⟨x1, x2, x3, x4⟩ := hin l[j] (List.getElem_mem hj)
      have hne := hni l[j] (List.getElem_mem hj)
      have hlen : (lv.set i.toNat a).length = lv.length := by simp
      have hnx := hk.next
      rw [(One.keep hk hu hs).int (x := (j : Int)) (by omega) (by omega)]
      simp only [Int.toNat_natCast, hg]
      rw [ho.one.int (x := i) hi0 (by rw [hlen]; omega), ho.one.int (x := l[j]) x1 (by rw [hlen]; omega)]
      rw [set_get_eq lv a (show i.toNat < lv.length by omega), set_get_ne lv a (show i.toNat ≠ l[j].toNat by omega)]
      have ew2 : wrapA .i64 (lv.getD l[j].toNat 0 + 1) = lv.getD l[j].toNat 0 + 1 := wrapA_small (by omega) (by omega)
      have hmax : (bif ltInt a (lv.getD l[j].toNat 0 + 1) then lv.getD l[j].toNat 0 + 1 else a) = if a < lv.getD l[j].toNat 0 + 1 then lv.getD l[j].toNat 0 + 1 else a := by
        rw [ltInt_dec]; by_cases h : a < lv.getD l[j].toNat 0 + 1 <;> simp [h]
      obtain ⟨h1', e1, o1, b1, n1⟩ := store_own1 ho (i := i.toNat) (by simp; omega) (AV.int .i64 (if a < lv.getD l[j].toNat 0 + 1 then lv.getD l[j].toNat 0 + 1 else a))
      rw [ho.one.ixz (x := i) hi0 (by simp; omega)]
      simp only [nat_i, hj, decide_true, cond_true, ew2, hmax, e1, need_some, ew, hd, List.foldl_cons]
      refine ih (j + 1) h1' _ (by omega) (by omega) (hk.trans (b1.keep (by omega) (fun A hA => (ho.ge A hA).1))) ?_
      rw [← List.map_set, List.set_set] at o1
      exact o1
    · have : j = l.length := by omega
      subst this
      exact ⟨h, by simp [nat_i], hk, by simpa using ho⟩
end Go.Proofs.Ythpplekbeecdfaa.Gb

open Go Go.Proofs.Ythpplekbeecdfaa.Ai Go.Proofs
namespace Go.Proofs.Ythpplekbeecdfaa.Gb
variable {N : Nat} {s : SL} {l : List Int} {ss : List SL} {ll : List (List Int)} {B : Nat} {h0 : Heap}
/-! needs of any kind: which are refused -/
def errV (h : Heap) : AV := .iface 69 (.ptr (some (h.next, 0)))
def errH (h : Heap) (c a : Int) : Heap := h.push (.row [.int .i64 c, .int .i64 a, .iface 71 (.int .i64 c)] .own)
theorem f46_2 (a : Int) (h : Heap) : f46 N 2 a h = some (errV h, errH h 2 a) := rfl
theorem f46_5 (a : Int) (h : Heap) : f46 N 5 a h = some (errV h, errH h 5 a) := rfl
theorem f46_13 (a : Int) (h : Heap) : f46 N 13 a h = some (errV h, errH h 13 a) := rfl
theorem isErr_of (h : Heap) (c a : Int) : isErr (errH h c a) (errV h) c a := ⟨h.next, rfl, by simp [errH], g_push_eq _ rfl⟩
/-- the first place where something holds -/
def fstI {α : Type} (p : α → Bool) : Nat → List α → Option Nat
  | _, [] => none
  | i, x :: r => if p x then some i else fstI p (i + 1) r
theorem fstI_none {α : Type} {p : α → Bool} : ∀ {r : List α} {i : Nat}, fstI p i r = none ↔ ∀ x ∈ r, p x = false
  | [], i => by simp [fstI]
  | x :: r, i => by
    simp only [fstI]
    cases hx : p x with
    | true => simp [hx]
    | false => simp [hx, fstI_none (r := r) (i := i + 1)]
def rowBad (n : Nat) (l : List Int) : Bool := l.any fun x => decide (x < 0) || decide ((n : Int) ≤ x)
/-- the error of some needs, but for rings: its code and place -/
def badOf (ll : List (List Int)) : Option (Int × Nat) :=
  if 64 < ll.length then some (5, 0) else
  match fstI (fun l : List Int => decide (64 < l.length)) 0 ll with
  | some i => some (5, i)
  | none => match fstI (rowBad ll.length) 0 ll with
    | some i => some (2, i)
    | none => none
theorem badOf_none : badOf ll = none ↔ Fine ll := by
  unfold badOf
  constructor
  · intro hx
    split at hx
    · cases hx
    · split at hx
      · cases hx
      · split at hx
        · cases hx
        · rename_i h1 _ h2 _ h3
          rw [fstI_none] at h2 h3
          refine ⟨by omega, fun i hi => ?_, fun i hi x hx => ?_⟩
          · rw [getD_lt _ _ hi]
            have := h2 _ (List.getElem_mem hi)
            simp at this; omega
          · rw [getD_lt _ _ hi] at hx
            have := h3 _ (List.getElem_mem hi)
            simp only [rowBad, List.any_eq_false, Bool.or_eq_true, decide_eq_true_eq, not_or] at this
            have := this x hx
            omega
  · intro hf
    have h1 := hf.len
    have h2 : fstI (fun l : List Int => decide (64 < l.length)) 0 ll = none := by
      rw [fstI_none]
      intro x hx
      obtain ⟨i, hi, rfl⟩ := List.getElem_of_mem hx
      have := hf.row i hi
      rw [getD_lt _ _ hi] at this
      simp; omega
    have h3 : fstI (rowBad ll.length) 0 ll = none := by
      rw [fstI_none]
      intro x hx
      obtain ⟨i, hi, rfl⟩ := List.getElem_of_mem hx
      have := hf.inr i hi
      rw [getD_lt _ _ hi] at this
      simp only [rowBad, List.any_eq_false, Bool.or_eq_true, decide_eq_true_eq, not_or]
      intro y hy
      have := this y hy
      omega
    rw [if_neg (by omega), h2, h3]
theorem may1x {h : Heap} (hr : Rows h s ss ll) (hl : ll.length ≤ 64) (v : AV) : ∀ (M i : Nat), i ≤ ll.length → ll.length - i < M →
    f38_l1 N M s v s (ll.length : Int) (i : Int) h = match fstI (fun l : List Int => decide (64 < l.length)) i (ll.drop i) with | none => some (.exit 0, (s, v, ()), h) | some j => some (.ret, (s, errV h, ()), errH h 5 j) := by
  intro M
  induction M with
  | zero => intro i h1 h2; omega
  | succ M ih =>
    intro i h1 h2
    rw [f38_l1_succ]
    unfold f38_l1_b
    by_cases hi : i < ll.length
    · have ew : wrapA .i64 ((i : Int) + 1) = ((i + 1 : Nat) : Int) := wrapA_small (by omega) (by omega)
      have hd : ll.drop i = ll[i] :: ll.drop (i + 1) := List.drop_eq_getElem_cons hi
      have hrow := hr.row i hi
      have hlen := Ints.len hrow
      rw [getD_lt _ [] hi] at hlen
      rw [hr.top.sl (x := (i : Int)) (by omega) (by rw [hr.len]; omega)]
      have hlt : ltInt 64 (ll[i].length : Int) = decide (64 < ll[i].length) := by rw [ltInt_dec]; congr 1; apply propext; omega
      simp only [nat_i, hi, decide_true, cond_true, Int.toNat_natCast, hlen, Int.ofNat_eq_natCast, hlt, hd, fstI, ew]
      cases hb : decide (64 < ll[i].length) with
      | true => simp only [cond_true, if_true, f46_2, f46_5, bind2_some]
      | false =>
        simp only [cond_false, Bool.false_eq_true, if_false]
        exact ih (i + 1) (by omega) (by omega)
    · have : i = ll.length := by omega
      subst this
      simp [nat_i, fstI]
theorem may3x {h : Heap} (hs : Ints h s l) (hl : l.length ≤ 1000) {s0 : SL} {n : Nat} (hn : s0.len = n) (v : AV) (a b c : Int) (t : SL) : ∀ (M i : Nat), i ≤ l.length → l.length - i < M →
    f38_l3 N M s0 v a t b c s (l.length : Int) (i : Int) h = if rowBad n (l.drop i) then some (.ret, (s0, errV h, t, b, c, ()), errH h 2 a) else some (.exit 4, (s0, v, t, b, c, ()), h) := by
  intro M
  induction M with
  | zero => intro i h1 h2; omega
  | succ M ih =>
    intro i h1 h2
    rw [f38_l3_succ]
    unfold f38_l3_b
    by_cases hi : i < l.length
    · have ew : wrapA .i64 ((i : Int) + 1) = ((i + 1 : Nat) : Int) := wrapA_small (by omega) (by omega)
      have hd : l.drop i = l[i] :: l.drop (i + 1) := List.drop_eq_getElem_cons hi
      rw [hs.int (x := (i : Int)) (by omega) (by omega)]
      simp only [Int.ofNat_lt, hi, decide_true, cond_true, Int.toNat_natCast, getD_lt _ _ hi, ltInt_dec, leInt_dec, hn, Int.ofNat_eq_natCast, ew, f46_2, f46_5, bind2_some, hd, rowBad, List.any_cons]
      by_cases h3 : l[i] < 0
      · simp [h3]
      · by_cases h4 : (n : Int) ≤ l[i]
        · simp [h4]
        · simp only [h3, h4, decide_false, cond_false, Bool.false_or]
          exact ih (i + 1) (by omega) (by omega)
    · have : i = l.length := by omega
      subst this
      simp [nat_i, rowBad]
theorem may2x {h : Heap} (hr : Rows h s ss ll) (hl : ll.length ≤ 64) (hrl : ∀ i, i < ll.length → (ll.getD i []).length ≤ 64) (hN : 100 ≤ N) (v : AV) : ∀ (M i : Nat), i ≤ ll.length → ll.length - i < M →
    f38_l2 N M s v s (ll.length : Int) (i : Int) h = match fstI (rowBad ll.length) i (ll.drop i) with | none => some (.exit 2, (v, ()), h) | some j => some (.ret, (errV h, ()), errH h 2 j) := by
  intro M
  induction M with
  | zero => intro i h1 h2; omega
  | succ M ih =>
    intro i h1 h2
    rw [f38_l2_succ]
    unfold f38_l2_b
    by_cases hi : i < ll.length
    · have ew : wrapA .i64 ((i : Int) + 1) = ((i + 1 : Nat) : Int) := wrapA_small (by omega) (by omega)
      have hd : ll.drop i = ll[i] :: ll.drop (i + 1) := List.drop_eq_getElem_cons hi
      have hrow := hr.row i hi
      have hlen := Ints.len hrow
      have hll := hrl i hi
      rw [getD_lt _ [] hi] at hlen hll hrow
      have h3 := may3x (N := N) hrow (by omega) hr.slen v (i : Int) (ll.length : Int) (i : Int) s N 0 (by omega) (by omega)
      simp only [Int.ofNat_zero, List.drop_zero] at h3
      rw [hr.top.sl (x := (i : Int)) (by omega) (by rw [hr.len]; omega)]
      simp only [nat_i, hi, decide_true, cond_true, Int.toNat_natCast, hlen, Int.ofNat_eq_natCast, h3, hd, fstI, ew]
      cases hb : rowBad ll.length ll[i] with
      | true => rfl
      | false =>
        simp only [Bool.false_eq_true, if_false, bind3_some, eqOut_exit, decide_true, cond_true, ew]
        exact ih (i + 1) (by omega) (by omega)
    · have : i = ll.length := by omega
      subst this
      simp [nat_i, fstI]
theorem may_any {h : Heap} (hr : Rows h s ss ll) (hN : 100 ≤ N) : f38 N s h = match badOf ll with | none => some (.nilIface, h) | some (c, j) => some (errV h, errH h c j) := by
  unfold f38 badOf
  by_cases hl : 64 < ll.length
  · have : ltInt 64 (ll.length : Int) = true := by rw [ltInt_dec]; simp; omega
    simp only [hr.slen, Int.ofNat_eq_natCast, this, cond_true, f46_2, f46_5, bind2_some, if_pos hl]
    rfl
  · have : ltInt 64 (ll.length : Int) = false := by rw [ltInt_dec]; simp; omega
    have h1 := may1x (N := N) hr (by omega) AV.nilIface N 0 (by omega) (by omega)
    simp only [Int.ofNat_zero, List.drop_zero] at h1
    simp only [hr.slen, Int.ofNat_eq_natCast, this, cond_false, if_neg hl, h1]
    cases hf : fstI (fun l : List Int => decide (64 < l.length)) 0 ll with
    | some j => rfl
    | none =>
      have hrl : ∀ i, i < ll.length → (ll.getD i []).length ≤ 64 := by
        intro i hi
        have := fstI_none.1 hf _ (List.getElem_mem hi)
        rw [getD_lt _ _ hi]; simp at this; omega
      have h2 := may2x (N := N) hr (by omega) hrl hN AV.nilIface N 0 (by omega) (by omega)
      simp only [Int.ofNat_zero, List.drop_zero] at h2
      simp only [bind3_some, eqOut_exit, decide_true, cond_true, hr.slen, Int.ofNat_eq_natCast, h2]
      cases hg : fstI (rowBad ll.length) 0 ll with
      | some j => rfl
      | none => rfl
theorem nn7e (v : AV) : binA E .neq 32 (.tmp 7) (.const .nilIface) (.iface 69 v) AV.nilIface = some (.bool true) := by kernel_rfl
/-- the program's order refuses such needs -/
theorem Order_bad {h : Heap} (hN : 1000 ≤ N) (hr : Rows h s ss ll) {c : Int} {j : Nat} (hb : badOf ll = some (c, j)) : f14 N s h = some ((nilS, errV h, ()), errH h c j) := by
  have h1 := may_any (N := N) hr (by omega)
  simp only [hb] at h1
  have h2 : f40 N s h = some (errV h, errH h c j) := by
    unfold f40
    simp only [h1, bind2_some, errV, nn7e, bindV_some, cast_bool, cond_true]
  unfold f14
  simp only [h2, bind2_some, errV, nn15e, bindV_some, cast_bool, cond_true]
end Go.Proofs.Ythpplekbeecdfaa.Gb

open Go Go.Proofs.Ythpplekbeecdfaa.Ai Go.Proofs
namespace Go.Proofs.Ythpplekbeecdfaa.Gb
variable {N : Nat} {s : SL} {l : List Int} {ss : List SL} {ll : List (List Int)} {B : Nat} {h0 : Heap}
theorem few_loop {h : Heap} (hr : Rows h s ss ll) : ∀ (M i : Nat) (v2 : Bool), i ≤ ll.length → i ≤ 20 → 20 - i < M →
    f24_l1 N M s v2 (i : Int) h = some (.ret, (s, false, ()), h) ∨ (f24_l1 N M s v2 (i : Int) h = some (.exit 0, (s, v2, ()), h) ∧ ∀ j, i ≤ j → j < ll.length → j < 20 → (ll.getD j []).length ≤ 20) := by
  intro M
  induction M with
  | zero => intro i v2 h1 h2; omega
  | succ M ih =>
    intro i v2 h1 h2 h3
    rw [f24_l1_succ]
    unfold f24_l1_b
    by_cases hi : i < ll.length
    · by_cases h20 : i < 20
      · have ew : wrapA .i64 ((i : Int) + 1) = ((i + 1 : Nat) : Int) := wrapA_small (by omega) (by omega)
        have hrow := hr.row i hi
        have hlen := Ints.len hrow
        have c20 : ltInt (i : Int) 20 = true := by rw [ltInt_dec]; simp only [decide_eq_true_eq]; omega
        rw [hr.top.sl (x := (i : Int)) (by omega) (by rw [hr.len]; omega)]
        simp only [hr.slen, nat_i, hi, decide_true, cond_true, Int.toNat_natCast, hlen, Int.ofNat_eq_natCast, c20, ew]
        by_cases hb : 20 < (ll.getD i []).length
        · have : ltInt 20 ((ll.getD i []).length : Int) = true := by rw [ltInt_dec]; simp only [decide_eq_true_eq]; omega
          left; simp only [this, cond_true]
        · have : ltInt 20 ((ll.getD i []).length : Int) = false := by rw [ltInt_dec]; simp only [decide_eq_false_iff_not]; omega
          simp only [this, cond_false]
          rcases ih (i + 1) v2 (by omega) (by omega) (by omega) with e | ⟨e, hx⟩
          · exact .inl e
          · refine .inr ⟨e, fun j h4 h5 h6 => ?_⟩
            by_cases hj : j = i
            · subst hj; omega
            · exact hx j (by omega) h5 h6
      · have c20 : ltInt (i : Int) 20 = false := by rw [ltInt_dec]; simp only [decide_eq_false_iff_not]; omega
        right
        refine ⟨by simp only [hr.slen, nat_i, hi, decide_true, cond_true, Int.ofNat_eq_natCast, c20, cond_false], fun j h4 h5 h6 => by omega⟩
    · right
      refine ⟨by simp only [hr.slen, nat_i, hi, decide_false, cond_false, Int.ofNat_eq_natCast], fun j h4 h5 h6 => by omega⟩
theorem few_spec {h : Heap} (hN : 1000 ≤ N) (hr : Rows h s ss ll) : ∃ b, f24 N s h = some (b, h) ∧ (b = true → ll.length ≤ 20 ∧ ∀ j, j < ll.length → (ll.getD j []).length ≤ 20) := by
  unfold f24
  rcases few_loop (N := N) hr N 0 false (by omega) (by omega) (by omega) with e | ⟨e, hx⟩
  · simp only [Int.ofNat_zero] at e
    exact ⟨false, by simp only [e, bind3_some, eqOut]; rfl, by simp⟩
  · simp only [Int.ofNat_zero] at e
    refine ⟨leInt (ll.length : Int) 20, by simp only [e, bind3_some, eqOut_exit, decide_true, cond_true, hr.slen, Int.ofNat_eq_natCast], fun hb => ?_⟩
    rw [leInt_dec] at hb
    simp at hb
    exact ⟨by omega, fun j hj => hx j (by omega) hj (by omega)⟩
/-- a plan: what things need, and their states -/
structure Pl (B : Nat) (h : Heap) (P : Nat) (dv sv : SL) (ss : List SL) (ll : List (List Int)) (st : List Int) : Prop where
  lo : B ≤ P
  hi : P < h.next
  g : h.g P = some (.row [.slice dv.a dv.len dv.cap dv.sz, .slice sv.a sv.len sv.cap sv.sz] .own)
  s : Own1 B h sv (st.map (AV.int .i64))
  d : Own1 B h dv (ss.map SL.av)
  dl : ss.length = ll.length
  r : ∀ i, i < ll.length → Own1 B h (ss.getD i nilS) ((ll.getD i []).map (AV.int .i64))
  n1 : sv.blk ≠ some P
  n2 : ∀ A, sv.blk = some A → dv.blk ≠ some A
  n3 : ∀ i, i < ll.length → ∀ A, sv.blk = some A → (ss.getD i nilS).blk ≠ some A
  n4 : dv.blk ≠ some P
  n5 : ∀ i, i < ll.length → ∀ A, dv.blk = some A → (ss.getD i nilS).blk ≠ some A
  n6 : ∀ i, i < ll.length → (ss.getD i nilS).blk ≠ some P
theorem Pl.keep {h h' : Heap} {P : Nat} {dv sv : SL} {st : List Int} (hp : Pl B h P dv sv ss ll st) (hb : But none h h') : Pl B h' P dv sv ss ll st :=
  ⟨hp.lo, Nat.lt_of_lt_of_le hp.hi hb.next, by rw [hb.g P hp.hi (by simp)]; exact hp.g, hp.s.but hb (by simp), hp.d.but hb (by simp), hp.dl, fun i hi => (hp.r i hi).but hb (by simp), hp.n1, hp.n2, hp.n3, hp.n4, hp.n5, hp.n6⟩
theorem Pl.store {h h' : Heap} {P : Nat} {dv sv : SL} {st st' : List Int} (hp : Pl B h P dv sv ss ll st) (hb : But sv.blk h h') (hs : Own1 B h' sv (st'.map (AV.int .i64))) : Pl B h' P dv sv ss ll st' :=
  ⟨hp.lo, Nat.lt_of_lt_of_le hp.hi hb.next, by rw [hb.g P hp.hi hp.n1]; exact hp.g, hs, hp.d.but hb (fun A hA e => hp.n2 A e hA), hp.dl, fun i hi => (hp.r i hi).but hb (fun A hA e => hp.n3 i hi A e hA), hp.n1, hp.n2, hp.n3, hp.n4, hp.n5, hp.n6⟩
theorem Pl.c0 {h : Heap} {P : Nat} {dv sv : SL} {st : List Int} (hp : Pl B h P dv sv ss ll st) : h.cell (P, 0 + 0) = some (.slice dv.a dv.len dv.cap dv.sz) := by
  rw [Heap.cell_g, hp.g]; rfl
theorem Pl.c1 {h : Heap} {P : Nat} {dv sv : SL} {st : List Int} (hp : Pl B h P dv sv ss ll st) : h.cell (P, 0 + 1) = some (.slice sv.a sv.len sv.cap sv.sz) := by
  rw [Heap.cell_g, hp.g]; rfl
theorem nn14 : binA E .neq 32 (.tmp 14) (.const .nilIface) AV.nilIface AV.nilIface = some (.bool false) := by kernel_rfl
theorem nn14e (v : AV) : binA E .neq 32 (.tmp 14) (.const .nilIface) (.iface 69 v) AV.nilIface = some (.bool true) := by kernel_rfl
theorem new_loop (hr : RowsB B h0 s ss ll) (hf : Fine ll) {P : Nat} {sv : SL} {st : List Int} (hbn : B ≤ h0.next) : ∀ (M i : Nat) (h : Heap) (dv : SL) (ds : List SL), i ≤ ll.length → ll.length - i < M → Keep B h0 h → Pl B h P dv sv ds (ll.take i) st →
    ∃ h' dv' ds', f26_l1 N M (some (P, 0)) s (ll.length : Int) (i : Int) h = some (.exit 0, (some (P, 0), ()), h') ∧ Keep B h0 h' ∧ Pl B h' P dv' sv ds' ll st := by
  intro M
  induction M with
  | zero => intro i h dv ds h1 h2; omega
  | succ M ih =>
    intro i h dv ds h1 h2 hk hp
    have hlen := hf.len
    rw [f26_l1_succ]
    unfold f26_l1_b
    by_cases hi : i < ll.length
    · have ew : wrapA .i64 ((i : Int) + 1) = ((i + 1 : Nat) : Int) := wrapA_small (by omega) (by omega)
      have hrk := hr.keep hk
      have hrow := hrk.r.row i hi
      have hrl := hf.row i hi
      have hnx := hk.next
      rw [hrk.r.top.sl (x := (i : Int)) (by omega) (by rw [hrk.r.len]; omega)]
      simp only [nat_i, hi, decide_true, cond_true, Int.toNat_natCast, need_some, hp.c0, bindV_some, cast_slice]
      obtain ⟨rv, h13, e13, o13, b13, c13⟩ := append_ownN (B := B) (s := nilS) (vs := []) app26 hrow (by simp [AV.single]) (Own1.nil _ _ _) (by omega) (by simp only [List.length_nil, List.length_map]; omega)
      rw [e13]
      simp only [bindT_some, cast_slice]
      have b13n : But none h h13 := b13
      have hp13 := hp.keep b13n
      have hk13 : Keep B h h13 := b13.keep (by omega) (fun A hA => by simp [SL.blk] at hA)
      have hrv : ∀ A, rv.blk = some A → h.next ≤ A ∧ A < h13.next := by
        intro A hA
        refine ⟨?_, (o13.ge A hA).2⟩
        rcases c13 with c | ⟨A', c, hc⟩
        · rw [c] at hA; simp [SL.blk] at hA
        · rw [c] at hA; cases hA; exact hc
      obtain ⟨dv', h16, e16, o16, b16, c16⟩ := append_own1 app22 (v := .slice rv.a rv.len rv.cap rv.sz) rfl hp13.d (by have := hk13.next; omega) (by simp [hp.dl]; omega)
      have hn16 := b16.next
      have hn13 := b13.next
      have g13 : h13.g P = _ := hp13.g
      have g16 : h16.g P = _ := (b16.g P hp13.hi hp.n4).trans g13
      have gp : ∀ b, (h13.push b).cell (P, 0 + 0) = some (.slice dv.a dv.len dv.cap dv.sz) := by
        intro b
        rw [Heap.cell_g, g_push_ne _ (by have := hp13.hi; omega), g13]; rfl
      have s1 : ∀ v, sameO (some v) v = true := sameO_some
      have es : h16.store (P, 0 + 0) [.slice dv'.a dv'.len dv'.cap dv'.sz] = some (h16.put P (.row [.slice dv'.a dv'.len dv'.cap dv'.sz, .slice sv.a sv.len sv.cap sv.sz] .own)) := by
        rw [Heap.store_g, g16]; rfl
      rw [e16]
      simp only [bindT_some, cast_slice, need_some, es, gp, hp13.c0, hp.c0, s1, cond_true, guardB, ew]
      have bP : But (some P) h16 (h16.put P (.row [.slice dv'.a dv'.len dv'.cap dv'.sz, .slice sv.a sv.len sv.cap sv.sz] .own)) := ⟨fun A hA hne => g_put_ne _ (fun e => hne (by rw [e])), Nat.le_refl _⟩
      have hdv : ∀ A, dv'.blk = some A → dv.blk = some A ∨ h13.next ≤ A := by
        intro A hA
        rcases c16 with c | ⟨A', c, hc⟩
        · exact .inl (c ▸ hA)
        · rw [c] at hA; cases hA; exact .inr hc
      have hloP := hp.lo
      have hhiP := hp.hi
      have hdvP : dv'.blk ≠ some P := by
        intro e
        rcases hdv P e with e | e
        · exact hp.n4 e
        · omega
      have hdl : ds.length = i := by rw [hp.dl, List.length_take]; omega
      have htl : (ll.take i).length = i := by rw [List.length_take]; omega
      have htl1 : (ll.take (i + 1)).length = i + 1 := by rw [List.length_take]; omega
      have gd1 : ∀ j, j < i → (ds ++ [rv]).getD j nilS = ds.getD j nilS := by
        intro j hj
        rw [getD_lt _ _ (by simp; omega), getD_lt _ _ (by omega), List.getElem_append_left (by omega)]
      have gd2 : (ds ++ [rv]).getD i nilS = rv := by
        rw [getD_lt _ _ (by simp; omega), List.getElem_append_right (by omega)]; simp
      have gl1 : ∀ j, j < i → (ll.take (i + 1)).getD j [] = (ll.take i).getD j [] := by
        intro j hj
        rw [getD_lt _ _ (by omega), getD_lt _ _ (by omega)]; simp
      have gl2 : (ll.take (i + 1)).getD i [] = ll.getD i [] := by
        rw [getD_lt _ _ (by omega), getD_lt _ _ (by omega)]; simp
      have hs13 := hp13.s
      have hs16 := hs13.but b16 (fun A hA e => hp.n2 A hA e)
      have hrow13 : ∀ j, j < i + 1 → Own1 B h13 ((ds ++ [rv]).getD j nilS) (((ll.take (i + 1)).getD j []).map (AV.int .i64)) := by
        intro j hj
        by_cases hji : j = i
        · subst hji; rw [gd2, gl2]; exact o13
        · rw [gd1 j (by omega), gl1 j (by omega)]; exact hp13.r j (by omega)
      have hrne : ∀ j, j < i + 1 → ∀ A, ((ds ++ [rv]).getD j nilS).blk = some A → dv.blk ≠ some A ∧ A ≠ P ∧ sv.blk ≠ some A ∧ A < h13.next := by
        intro j hj A hA
        by_cases hji : j = i
        · subst hji
          rw [gd2] at hA
          have h3 := hrv A hA
          refine ⟨fun e => ?_, by omega, fun e => ?_, h3.2⟩
          · have := (hp.d.ge A e).2; omega
          · have := (hp.s.ge A e).2; omega
        · rw [gd1 j (by omega)] at hA
          refine ⟨fun e => hp.n5 j (by omega) A e hA, fun e => hp.n6 j (by omega) (e ▸ hA), fun e => hp.n3 j (by omega) A e hA, ?_⟩
          exact ((hp13.r j (by omega)).ge A hA).2
      have hrow16 : ∀ j, j < i + 1 → Own1 B h16 ((ds ++ [rv]).getD j nilS) (((ll.take (i + 1)).getD j []).map (AV.int .i64)) := fun j hj => (hrow13 j hj).but b16 (fun A hA => (hrne j hj A hA).1)
      refine ih (i + 1) _ dv' (ds ++ [rv]) (by omega) (by omega) (hk.trans (hk13.trans ((b16.keep (by omega) (fun A hA => (hp13.d.ge A hA).1)).trans (bP.keep (by omega) (fun A hA => by cases hA; exact hloP))))) ?_
      refine ⟨hloP, by simp; omega, g_put_eq _ rfl, hs16.but bP (fun A hA e => by cases e; exact hp.n1 hA), ?_, by rw [List.length_append, htl1, hdl]; rfl, fun j hj => (hrow16 j (by omega)).but bP (fun A hA e => by cases e; exact (hrne j (by omega) _ hA).2.1 rfl), hp.n1, ?_, fun j hj A hA e => (hrne j (by omega) A e).2.2.1 hA, hdvP, ?_, fun j hj e => (hrne j (by omega) P e).2.1 rfl⟩
      · rw [List.map_append]; exact o16.but bP (fun A hA e => by cases e; exact hdvP hA)
      · intro A hA e
        rcases hdv A e with e | e
        · exact hp.n2 A hA e
        · have := (hp13.s.ge A hA).2; omega
      · intro j hj A hA e
        have hx := hrne j (by omega) A e
        rcases hdv A hA with e2 | e2
        · exact hx.1 e2
        · omega
    · have : i = ll.length := by omega
      subst this
      rw [List.take_length] at hp
      exact ⟨h, dv, ds, by simp [nat_i], hk, hp⟩
/-- a new plan, where the needs have an order -/
theorem New_spec {h : Heap} (hf : Fine ll) (hN : 1000 ≤ N) (hr : RowsB B h s ss ll) (hb : B ≤ h.next) :
    (∃ h' P dv sv ds, f26 N s h = some ((some (P, 0), .nilIface, ()), h') ∧ Keep B h h' ∧ Pl B h' P dv sv ds ll (List.replicate ll.length 0) ∧ Acyclic ll) ∨
    (∃ (h' : Heap) (v : AV) (j : Nat), f26 N s h = some ((none, .iface 69 v, ()), h') ∧ Keep B h h' ∧ j < ll.length ∧ Reach ll (j : Int) (j : Int)) := by
  have hlen := hf.len
  rcases Order_spec (N := N) hf hN hr hb with ⟨s1, h1, out, e1, k1, _, ha, _⟩ | ⟨h1, v, j, e1, k1, ⟨A, rfl, _⟩, hj, hx, _⟩
  · left
    have hnx := k1.next
    obtain ⟨m1, m2⟩ := make1 app26 (.int .i64 0) app26z rfl ll.length (by omega) h1
    generalize hh5 : h1.push (.row (List.replicate ll.length (.int .i64 0)) .own) = h5 at m1 m2
    have hn5 : h5.next = h1.next + 1 := by rw [← hh5]; simp
    have k5 : Keep B h h5 := by rw [← hh5]; exact k1.push hb _
    have hp : Pl B (h5.push (.row [.slice none 0 0 0, .slice (some (h1.next, 0)) ll.length ll.length 1] .own)) h5.next nilS ⟨some (h1.next, 0), ll.length, ll.length, 1⟩ [] (ll.take 0) (List.replicate ll.length 0) := by
      refine ⟨by omega, by simp, g_push_eq _ rfl, ?_, Own1.nil _ _ _, rfl, fun i hi => by simp at hi, by simp [SL.blk]; omega, fun A hA => by simp [SL.blk], fun i hi => by simp at hi, by simp [SL.blk], fun i hi => by simp at hi, fun i hi => by simp at hi⟩
      rw [List.map_replicate]
      refine Own1.push ?_ _
      rcases m2 with ⟨h2, _⟩ | ⟨A, cs, st, h2, h3, h4, h6⟩
      · cases h2
      · exact .inr ⟨A, cs, st, h2, h3, by omega, h6⟩
    obtain ⟨h', dv, ds, e2, k2, hp2⟩ := new_loop (N := N) hr hf (by omega) N 0 _ nilS [] (by omega) (by omega) (k5.push hb _) hp
    simp only [Int.ofNat_zero] at e2
    refine ⟨h', h5.next, dv, _, ds, ?_, k2, hp2, ha⟩
    unfold f26
    simp only [e1, bind2_some, nn14, bindV_some, cast_bool, cond_false, hr.r.slen, Int.ofNat_eq_natCast, m1, bindT_some, cast_slice, e2, bind3_some]
  · right
    refine ⟨h1, .ptr (some (A, 0)), j, ?_, k1, hj, hx⟩
    unfold f26
    simp only [e1, bind2_some, nn14e, bindV_some, cast_bool, cond_true]
theorem New_bad {h : Heap} (hN : 1000 ≤ N) (hr : Rows h s ss ll) {c : Int} {j : Nat} (hb : badOf ll = some (c, j)) : f26 N s h = some ((none, errV h, ()), errH h c j) := by
  have h1 := Order_bad hN hr hb
  unfold f26
  simp only [h1, bind2_some, errV, nn14e, bindV_some, cast_bool, cond_true]
end Go.Proofs.Ythpplekbeecdfaa.Gb

open Go Go.Proofs.Ythpplekbeecdfaa.Ai Go.Proofs
namespace Go.Proofs.Ythpplekbeecdfaa.Gb
variable {N : Nat} {s : SL} {l : List Int} {ss : List SL} {ll : List (List Int)} {B : Nat} {h0 : Heap} {P : Nat} {dv sv : SL} {st : List Int}
theorem Keep.but {h h' : Heap} (k : Keep h.next h h') : But none h h' := ⟨fun A hA _ => k.g A hA, k.next⟩
theorem eqI (a b : Int) : eqInt a b = decide (a = b) := eqInt_dec a b
/-- what may be done with a thing -/
def nowM (ll : List (List Int)) (st : List Int) (i : Nat) : Int :=
  if st.getD i 0 = 2 then 3 else if st.getD i 0 = 1 then 3 else
  if (ll.getD i []).any (fun k => decide (st.getD k.toNat 0 = 2)) then 2 else if (ll.getD i []).any (fun k => decide (st.getD k.toNat 0 = 0)) then 0 else 1
def allM (ll : List (List Int)) (st : List Int) (w : Int) (i m : Nat) : List Int := ((List.range' i m).filter fun i => decide (nowM ll st i = w)).map Int.ofNat
theorem now_loop {h : Heap} (hp : Pl B h P dv sv ss ll st) (hs : Ints h s l) (hl : l.length ≤ 1000) (hin : ∀ x ∈ l, 0 ≤ x ∧ x < st.length) (v1 : Int) : ∀ (M i : Nat) (a b : Bool), i ≤ l.length → l.length - i < M →
    f47_l1 N M (some (P, 0)) v1 a b s (l.length : Int) (i : Int) h = some (.exit 0, (some (P, 0), v1, a || (l.drop i).any (fun k => decide (st.getD k.toNat 0 = 0)), b || (l.drop i).any (fun k => decide (st.getD k.toNat 0 = 2)), ()), h) := by
  intro M
  induction M with
  | zero => intro i a b h1 h2; omega
  | succ M ih =>
    intro i a b h1 h2
    rw [f47_l1_succ]
    unfold f47_l1_b
    by_cases hi : i < l.length
    · have ew : wrapA .i64 ((i : Int) + 1) = ((i + 1 : Nat) : Int) := wrapA_small (by omega) (by omega)
      have hd : l.drop i = l[i] :: l.drop (i + 1) := List.drop_eq_getElem_cons hi
      have hx := hin l[i] (List.getElem_mem hi)
      have rd : ∀ {β : Type} (K : Int → Option β), (ixK sv.a sv.len l[i] 1 fun q => bindV (.val (.one (.int .i64))) (h.cell q) K) = K (st.getD l[i].toNat 0) := fun K => hp.s.one.int hx.1 (by omega) K
      rw [hs.int (x := (i : Int)) (by omega) (by omega)]
      simp only [nat_i, hi, decide_true, cond_true, Int.toNat_natCast, getD_lt _ _ hi, ew, hd, List.any_cons, need_some, hp.c1, bindV_some, cast_slice, rd, eqI]
      cases a <;> cases b <;> simp only [cond_true, cond_false, Bool.true_or, Bool.false_or]
      · rw [ih (i + 1) _ _ (by omega) (by omega)]
      · rw [ih (i + 1) _ _ (by omega) (by omega)]; simp
      · rw [ih (i + 1) _ _ (by omega) (by omega)]; simp
      · rw [ih (i + 1) _ _ (by omega) (by omega)]; simp
    · have : i = l.length := by omega
      subst this
      simp [nat_i]
theorem now_spec {h : Heap} (hf : Fine ll) (hN : 1000 ≤ N) (hp : Pl B h P dv sv ss ll st) (hsl : st.length = ll.length) {i : Nat} (hi : i < ll.length) : f47 N (some (P, 0)) (i : Int) h = some (nowM ll st i, h) := by
  have hrow : Ints h (ss.getD i nilS) (ll.getD i []) := (hp.r i hi).one
  have hl := now_loop (N := N) hp hrow (by have := hf.row i hi; omega) (fun x hx => by rw [hsl]; exact hf.inr i hi x hx) (i : Int) N 0 false false (by omega) (by have := hf.row i hi; omega)
  simp only [Int.ofNat_zero, List.drop_zero, Bool.false_or] at hl
  have rs : ∀ {β : Type} (K : SL → Option β), (ixK dv.a dv.len (i : Int) 1 fun q => bindV (.val (.one .slice)) (h.cell q) K) = K (ss.getD i nilS) := fun K => by
    rw [hp.d.one.sl (x := (i : Int)) (by omega) (by rw [hp.dl]; omega)]; simp only [Int.toNat_natCast]
  have rd : ∀ {β : Type} (K : Int → Option β), (ixK sv.a sv.len (i : Int) 1 fun q => bindV (.val (.one (.int .i64))) (h.cell q) K) = K (st.getD i 0) := fun K => by
    rw [hp.s.one.int (x := (i : Int)) (by omega) (by omega)]; simp only [Int.toNat_natCast]
  unfold f47
  simp only [need_some, hp.c0, hp.c1, bindV_some, cast_slice, rs, Ints.len hrow, Int.ofNat_eq_natCast, hl, bind3_some, rd, eqI]
  unfold nowM
  by_cases h1 : st.getD i 0 = 2
  · simp only [h1, decide_true, cond_true, if_true]
  · by_cases h2 : st.getD i 0 = 1
    · simp only [h1, h2, decide_true, decide_false, cond_true, cond_false, if_true, if_false]
      rfl
    · simp only [h1, h2, decide_false, cond_false, if_false]
      cases (ll.getD i []).any (fun k => decide (st.getD k.toNat 0 = 2)) <;> cases (ll.getD i []).any (fun k => decide (st.getD k.toNat 0 = 0)) <;> rfl
theorem all_loop (hf : Fine ll) (hN : 1000 ≤ N) (hp : Pl B h0 P dv sv ss ll st) (hsl : st.length = ll.length) (w : Int) : ∀ (M i : Nat) (h : Heap) (ov : SL) (out : List Int), i ≤ ll.length → ll.length - i < M → out.length ≤ i → Keep h0.next h0 h → Own1 h0.next h ov (out.map (AV.int .i64)) →
    ∃ h' ov', f45_l1 N M (some (P, 0)) w ov (ll.length : Int) (i : Int) h = some (.exit 0, (ov', ()), h') ∧ Keep h0.next h0 h' ∧ Own1 h0.next h' ov' ((out ++ allM ll st w i (ll.length - i)).map (AV.int .i64)) := by
  intro M
  induction M with
  | zero => intro i h ov out h1 h2; omega
  | succ M ih =>
    intro i h ov out h1 h2 hoi hk ho
    have hlen := hf.len
    rw [f45_l1_succ]
    unfold f45_l1_b
    by_cases hi : i < ll.length
    · have ew : wrapA .i64 ((i : Int) + 1) = ((i + 1 : Nat) : Int) := wrapA_small (by omega) (by omega)
      have hnx := hk.next
      have en := now_spec (N := N) hf hN (hp.keep (Keep.but hk)) hsl hi
      have ha : allM ll st w i (ll.length - i) = (if nowM ll st i = w then [(i : Int)] else []) ++ allM ll st w (i + 1) (ll.length - (i + 1)) := by
        rw [show ll.length - i = (ll.length - (i + 1)) + 1 by omega]
        simp only [allM, List.range'_succ, List.filter_cons, decide_eq_true_eq]
        split <;> simp
      simp only [nat_i, hi, decide_true, cond_true, en, bind2_some, eqI, ew, ha]
      by_cases hw : nowM ll st i = w
      · obtain ⟨ov1, h1', e1, o1, b1, c1⟩ := append_own1 app26 (v := AV.int .i64 (i : Int)) rfl ho (by omega) (by rw [List.length_map]; omega)
        simp only [hw, decide_true, cond_true, if_true]
        rw [e1]
        simp only [bindT_some, cast_slice]
        obtain ⟨h2', ov2, e2, k2, o2⟩ := ih (i + 1) h1' ov1 (out ++ [(i : Int)]) (by omega) (by omega) (by simp; omega) (hk.trans (b1.keep (by omega) (fun A hA => (ho.ge A hA).1))) (by rw [List.map_append]; exact o1)
        exact ⟨h2', ov2, e2, k2, by rw [← List.append_assoc]; exact o2⟩
      · simp only [hw, decide_false, cond_false, if_false, List.nil_append]
        exact ih (i + 1) h ov out (by omega) (by omega) (by omega) hk ho
    · have : i = ll.length := by omega
      subst this
      exact ⟨h, ov, by simp [nat_i], hk, by simpa [allM] using ho⟩
theorem all_spec {h : Heap} (hf : Fine ll) (hN : 1000 ≤ N) (hp : Pl B h P dv sv ss ll st) (hsl : st.length = ll.length) (w : Int) :
    ∃ s' h', f45 N (some (P, 0)) w h = some (s', h') ∧ But none h h' ∧ Own1 h.next h' s' ((allM ll st w 0 ll.length).map (AV.int .i64)) := by
  have hlen := hf.len
  obtain ⟨h', ov, e, k, o⟩ := all_loop (N := N) hf hN hp hsl w N 0 h nilS [] (by omega) (by omega) (by simp) (Keep.refl _ _) (Own1.nil _ _ _)
  simp only [Int.ofNat_zero, List.nil_append, Nat.sub_zero] at e o
  have hl : sv.len = ll.length := by have := hp.s.len; rw [List.length_map] at this; omega
  refine ⟨ov, h', ?_, Keep.but k, o⟩
  unfold f45
  simp only [Option.isNone_some, cond_false, need_some, hp.c1, bindV_some, cast_slice, hl, Int.ofNat_eq_natCast, e, bind3_some]
theorem Ready_spec {h : Heap} (hf : Fine ll) (hN : 1000 ≤ N) (hp : Pl B h P dv sv ss ll st) (hsl : st.length = ll.length) :
    ∃ s' h', f28 N (some (P, 0)) h = some (s', h') ∧ But none h h' ∧ Own1 h.next h' s' ((allM ll st 1 0 ll.length).map (AV.int .i64)) := by
  obtain ⟨s', h', e, x⟩ := all_spec (N := N) hf hN hp hsl 1
  exact ⟨s', h', by simp only [f28, e, bind2_some], x⟩
theorem Blocked_spec {h : Heap} (hf : Fine ll) (hN : 1000 ≤ N) (hp : Pl B h P dv sv ss ll st) (hsl : st.length = ll.length) :
    ∃ s' h', f33 N (some (P, 0)) h = some (s', h') ∧ But none h h' ∧ Own1 h.next h' s' ((allM ll st 2 0 ll.length).map (AV.int .i64)) := by
  obtain ⟨s', h', e, x⟩ := all_spec (N := N) hf hN hp hsl 2
  exact ⟨s', h', by simp only [f33, e, bind2_some], x⟩
theorem left_loop {h : Heap} (hs : Ints h s l) (hl : l.length ≤ 1000) : ∀ (M i : Nat) (v : Nat), i ≤ l.length → l.length - i < M → v ≤ i →
    f29_l1 N M (v : Int) s (l.length : Int) (i : Int) h = some (.exit 0, (((v + (l.drop i).count 0 : Nat) : Int), ()), h) := by
  intro M
  induction M with
  | zero => intro i v h1 h2; omega
  | succ M ih =>
    intro i v h1 h2 hv
    rw [f29_l1_succ]
    unfold f29_l1_b
    by_cases hi : i < l.length
    · have ew : wrapA .i64 ((i : Int) + 1) = ((i + 1 : Nat) : Int) := wrapA_small (by omega) (by omega)
      have ew2 : wrapA .i64 ((v : Int) + 1) = ((v + 1 : Nat) : Int) := wrapA_small (by omega) (by omega)
      have hd : l.drop i = l[i] :: l.drop (i + 1) := List.drop_eq_getElem_cons hi
      rw [hs.int (x := (i : Int)) (by omega) (by omega)]
      simp only [nat_i, hi, decide_true, cond_true, Int.toNat_natCast, getD_lt _ _ hi, ew, ew2, hd, eqI, List.count_cons]
      by_cases h0 : l[i] = 0
      · simp only [h0, decide_true, cond_true]
        rw [ih (i + 1) (v + 1) (by omega) (by omega) (by omega)]
        simp; omega
      · simp only [h0, decide_false, cond_false]
        rw [ih (i + 1) v (by omega) (by omega) (by omega)]
        simp [h0]
    · have : i = l.length := by omega
      subst this
      simp [nat_i]
theorem Left_spec {h : Heap} (hf : Fine ll) (hN : 1000 ≤ N) (hp : Pl B h P dv sv ss ll st) (hsl : st.length = ll.length) : f29 N (some (P, 0)) h = some ((st.count 0 : Int), h) := by
  have hlen := hf.len
  have hl : sv.len = st.length := by have := hp.s.len; rw [List.length_map] at this; omega
  have e := left_loop (N := N) (hp.s.one : Ints h sv st) (by omega) N 0 0 (by omega) (by omega) (by omega)
  simp only [Int.ofNat_zero, List.drop_zero, Nat.zero_add] at e
  rw [← hl] at e
  unfold f29
  simp only [Option.isNone_some, Bool.not_false, cond_true, need_some, hp.c1, bindV_some, cast_slice, Int.ofNat_eq_natCast]
  exact (congrArg (fun o => bind3 o fun _ (j12 : Int × Unit) h13 => some (j12.1, h13)) e).trans rfl
theorem State_spec {h : Heap} (hp : Pl B h P dv sv ss ll st) {i : Int} (h0 : 0 ≤ i) (h1 : i < st.length) : f36 N (some (P, 0)) i h = some ((!decide (st.getD i.toNat 0 = 0), decide (st.getD i.toNat 0 = 1), ()), h) := by
  have hl : sv.len = st.length := by have := hp.s.len; rw [List.length_map] at this; omega
  have rd : ∀ {β : Type} (K : Int → Option β), (ixK sv.a sv.len i 1 fun q => bindV (.val (.one (.int .i64))) (h.cell q) K) = K (st.getD i.toNat 0) := fun K => hp.s.one.int h0 h1 K
  have c1 : ltInt i 0 = false := by rw [ltInt_dec]; simp only [decide_eq_false_iff_not]; omega
  have c2 : leInt (st.length : Int) i = false := by rw [leInt_dec]; simp only [decide_eq_false_iff_not]; omega
  rw [← hl] at c2
  unfold f36
  simp only [Option.isNone_some, c1, c2, cond_false, need_some, hp.c1, bindV_some, cast_slice, Int.ofNat_eq_natCast, rd, eqI]
/-- a thing is done: the plan after it, or an error -/
theorem Done_ok {h : Heap} (hf : Fine ll) (hN : 1000 ≤ N) (hp : Pl B h P dv sv ss ll st) (hsl : st.length = ll.length) {i : Int} (h0 : 0 ≤ i) (h1 : i < st.length) (ok : Bool) (hn : nowM ll st i.toNat = 1 ∨ nowM ll st i.toNat = 2 ∧ ok = false) :
    ∃ h', f30 N (some (P, 0)) i ok h = some (.nilIface, h') ∧ But sv.blk h h' ∧ Pl B h' P dv sv ss ll (st.set i.toNat (if ok then 1 else 2)) := by
  have hl : sv.len = st.length := by have := hp.s.len; rw [List.length_map] at this; omega
  have c1 : ltInt i 0 = false := by rw [ltInt_dec]; simp only [decide_eq_false_iff_not]; omega
  have c2 : leInt (sv.len : Int) i = false := by rw [leInt_dec, hl]; simp only [decide_eq_false_iff_not]; omega
  have hnow := now_spec (N := N) hf hN hp hsl (i := i.toNat) (by omega)
  rw [show ((i.toNat : Nat) : Int) = i by omega] at hnow
  obtain ⟨h32, e32, o32, b32, n32⟩ := store_own1 hp.s (i := i.toNat) (by rw [List.length_map]; omega) (AV.int .i64 2)
  have ix : ∀ {β : Type} (K : Nat × Nat → Option β), ixK sv.a sv.len i 1 K = K (sv.at i.toNat 1) := fun K => hp.s.one.ixz h0 (by rw [List.length_map]; omega) K
  have p32 : Pl B h32 P dv sv ss ll (st.set i.toNat 2) := hp.store b32 (by rw [List.map_set]; exact o32)
  obtain ⟨h36, e36, o36, b36, n36⟩ := store_own1 p32.s (i := i.toNat) (by rw [List.length_map, List.length_set]; omega) (AV.int .i64 1)
  have p36 : Pl B h36 P dv sv ss ll (st.set i.toNat 1) := p32.store b36 (by rw [← List.set_set (2 : Int), List.map_set]; exact o36)
  unfold f30
  simp only [Option.isNone_some, c1, c2, cond_false, need_some, hp.c1, bindV_some, cast_slice, Int.ofNat_eq_natCast, hnow, bind2_some, eqI, ix, e32, p32.c1, e36]
  rcases hn with hn | ⟨hn, rfl⟩
  · simp only [hn, decide_true, Bool.not_true, cond_false]
    cases ok with
    | true => exact ⟨h36, rfl, b32.trans b36, p36⟩
    | false => exact ⟨h32, rfl, b32, p32⟩
  · simp only [hn, show ¬ ((2 : Int) = 1) by omega, decide_false, Bool.not_false, cond_true, decide_true, Bool.not_true, cond_false]
    exact ⟨h32, rfl, b32, p32⟩
theorem Done_err {h : Heap} (hf : Fine ll) (hN : 1000 ≤ N) (hp : Pl B h P dv sv ss ll st) (hsl : st.length = ll.length) {i : Int} (h0 : 0 ≤ i) (h1 : i < st.length) (hn : nowM ll st i.toNat ≠ 1) :
    f30 N (some (P, 0)) i true h = some (errV h, errH h 13 0) := by
  have hl : sv.len = st.length := by have := hp.s.len; rw [List.length_map] at this; omega
  have c1 : ltInt i 0 = false := by rw [ltInt_dec]; simp only [decide_eq_false_iff_not]; omega
  have c2 : leInt (sv.len : Int) i = false := by rw [leInt_dec, hl]; simp only [decide_eq_false_iff_not]; omega
  have hnow := now_spec (N := N) hf hN hp hsl (i := i.toNat) (by omega)
  rw [show ((i.toNat : Nat) : Int) = i by omega] at hnow
  unfold f30
  simp only [Option.isNone_some, c1, c2, cond_false, need_some, hp.c1, bindV_some, cast_slice, Int.ofNat_eq_natCast, hnow, bind2_some, eqI, hn, decide_false, Bool.not_false, cond_true, f46_13]
  cases decide (nowM ll st i.toNat = 2) <;> rfl
end Go.Proofs.Ythpplekbeecdfaa.Gb

open Go Go.Proofs.Ythpplekbeecdfaa.Ai Go.Proofs
namespace Go.Proofs.Ythpplekbeecdfaa.Gb
variable {ll : List (List Int)} {bd : Nat → Bool} {st st1 st2 : List Int} {B : Nat}
/-- a plan of which some is done rightly -/
structure Good (ll : List (List Int)) (bd : Nat → Bool) (st : List Int) : Prop where
  len : st.length = ll.length
  v : ∀ i, i < ll.length → st.getD i 0 = 0 ∨ st.getD i 0 = 1 ∨ st.getD i 0 = 2
  w : ∀ i, i < ll.length → st.getD i 0 = 1 → bd i = false ∧ ∀ k ∈ ll.getD i [], st.getD k.toNat 0 = 1
  x : ∀ i, i < ll.length → st.getD i 0 = 2 → bd i = true ∨ ∃ k ∈ ll.getD i [], st.getD k.toNat 0 = 2
theorem getD_rep (n i : Nat) : (List.replicate n (0 : Int)).getD i 0 = 0 := by
  rw [List.getD_eq_getElem?_getD, List.getElem?_replicate]; split <;> rfl
theorem Good.start : Good ll bd (List.replicate ll.length 0) := by
  refine ⟨by simp, fun i _ => .inl (getD_rep _ _), fun i _ h => ?_, fun i _ h => ?_⟩ <;> rw [getD_rep] at h <;> omega
theorem now1 {i : Nat} (h : nowM ll st i = 1) : st.getD i 0 ≠ 1 ∧ st.getD i 0 ≠ 2 ∧ ∀ k ∈ ll.getD i [], st.getD k.toNat 0 ≠ 2 ∧ st.getD k.toNat 0 ≠ 0 := by
  unfold nowM at h
  split at h
  · omega
  · split at h
    · omega
    · split at h
      · omega
      · split at h
        · omega
        · rename_i h1 h2 h3 h4
          simp only [List.any_eq_true, decide_eq_true_eq, not_exists, not_and] at h3 h4
          exact ⟨h2, h1, fun k hk => ⟨h3 k hk, h4 k hk⟩⟩
theorem now2 {i : Nat} (h : nowM ll st i = 2) : st.getD i 0 ≠ 1 ∧ st.getD i 0 ≠ 2 ∧ ∃ k ∈ ll.getD i [], st.getD k.toNat 0 = 2 := by
  unfold nowM at h
  split at h
  · omega
  · split at h
    · omega
    · split at h
      · rename_i h1 h2 h3
        simp only [List.any_eq_true, decide_eq_true_eq] at h3
        exact ⟨h2, h1, h3⟩
      · split at h <;> omega
theorem now_open {i : Nat} (h0 : st.getD i 0 = 0) (hd : ∀ k ∈ ll.getD i [], st.getD k.toNat 0 ≠ 0) : nowM ll st i = 1 ∨ nowM ll st i = 2 := by
  unfold nowM
  rw [if_neg (by omega), if_neg (by omega)]
  split
  · exact .inr rfl
  · split
    · rename_i h
      simp only [List.any_eq_true, decide_eq_true_eq] at h
      obtain ⟨k, hk, e⟩ := h
      exact absurd e (hd k hk)
    · exact .inl rfl
theorem Good.zero (hg : Good ll bd st) {i : Nat} (hi : i < ll.length) (h : nowM ll st i = 1 ∨ nowM ll st i = 2) : st.getD i 0 = 0 := by
  rcases hg.v i hi with e | e | e
  · exact e
  · rcases h with h | h
    · exact absurd e (now1 h).1
    · exact absurd e (now2 h).1
  · rcases h with h | h
    · exact absurd e (now1 h).2.1
    · exact absurd e (now2 h).2.1
theorem set_getD (st : List Int) (i j : Nat) (v : Int) (hi : i < st.length) : (st.set i v).getD j 0 = if j = i then v else st.getD j 0 := by
  simp only [List.getD_eq_getElem?_getD, List.getElem?_set]
  by_cases h : i = j
  · subst h; simp [hi]
  · rw [if_neg h, if_neg (fun e => h e.symm)]
theorem Good.next (hf : Fine ll) (hg : Good ll bd st) {i : Nat} {ok : Bool} (hi : i < ll.length) (hn : nowM ll st i = 1 ∧ ok = !bd i ∨ nowM ll st i = 2 ∧ ok = false) : Good ll bd (st.set i (if ok then 1 else 2)) := by
  have hl := hg.len
  have h0 := hg.zero hi (by rcases hn with h | h; exact .inl h.1; exact .inr h.1)
  have hset := fun j => set_getD st i j (if ok then 1 else 2) (by omega)
  refine ⟨by simpa using hl, fun j hj => ?_, fun j hj e => ?_, fun j hj e => ?_⟩
  · rw [hset]
    split
    · cases ok <;> simp
    · exact hg.v j hj
  · rw [hset] at e
    by_cases hji : j = i
    · subst hji
      rw [if_pos rfl] at e
      rcases hn with ⟨h1, h2⟩ | ⟨h1, h2⟩
      · cases hb : bd j with
        | true => rw [hb] at h2; subst h2; simp at e
        | false =>
          refine ⟨rfl, fun k hk => ?_⟩
          have hx := (now1 h1).2.2 k hk
          have hr := hf.inr j hi k hk
          rw [hset]
          split
          · rename_i e3; rw [e3] at hx; exact absurd h0 hx.2
          · rcases hg.v k.toNat (by omega) with e4 | e4 | e4
            · exact absurd e4 hx.2
            · exact e4
            · exact absurd e4 hx.1
      · subst h2; simp at e
    · rw [if_neg hji] at e
      have hx := hg.w j hj e
      refine ⟨hx.1, fun k hk => ?_⟩
      rw [hset]
      split
      · rename_i e3
        have := hx.2 k hk
        rw [e3] at this; omega
      · exact hx.2 k hk
  · rw [hset] at e
    have up : ∀ j, (∃ k ∈ ll.getD j [], st.getD k.toNat 0 = 2) → ∃ k ∈ ll.getD j [], (st.set i (if ok then 1 else 2)).getD k.toNat 0 = 2 := by
      rintro j ⟨k, hk, e4⟩
      refine ⟨k, hk, ?_⟩
      rw [hset]
      split
      · rename_i e3; rw [e3] at e4; omega
      · exact e4
    by_cases hji : j = i
    · subst hji
      rw [if_pos rfl] at e
      rcases hn with ⟨h1, h2⟩ | ⟨h1, h2⟩
      · left
        cases hb : bd j with
        | true => rfl
        | false => rw [hb] at h2; subst h2; simp at e
      · exact .inr (up j (now2 h1).2.2)
    · rw [if_neg hji] at e
      rcases hg.x j hj e with h | h
      · exact .inl h
      · exact .inr (up j h)
theorem count_set0 (st : List Int) {i : Nat} (hi : i < st.length) (h0 : st.getD i 0 = 0) {v : Int} (hv : v ≠ 0) : (st.set i v).count 0 + 1 = st.count 0 := by
  rw [List.count_set hi]
  have h1 : st[i] = 0 := by rw [getD_lt _ _ hi] at h0; exact h0
  have h2 : 0 < st.count 0 := List.count_pos_iff.2 (by rw [← h1]; exact List.getElem_mem hi)
  simp [h1, hv]
  omega
theorem mem_allM {n : Nat} {w x : Int} : x ∈ allM ll st w 0 n ↔ 0 ≤ x ∧ x < n ∧ nowM ll st x.toNat = w := by
  simp only [allM, List.mem_map, List.mem_filter, List.mem_range'_1, decide_eq_true_eq]
  constructor
  · rintro ⟨i, ⟨⟨_, h1⟩, h2⟩, rfl⟩
    simp only [Int.ofNat_eq_natCast, Int.toNat_natCast]
    exact ⟨by omega, by omega, h2⟩
  · rintro ⟨h1, h2, h3⟩
    exact ⟨x.toNat, ⟨⟨by omega, by omega⟩, h3⟩, by simp; omega⟩
theorem some_open (hf : Fine ll) (ha : Acyclic ll) (hl : st.length = ll.length) (hc : 0 < st.count 0) : ∃ i, i < ll.length ∧ (nowM ll st i = 1 ∨ nowM ll st i = 2) := by
  obtain ⟨i, hi, e⟩ := List.getElem_of_mem (List.count_pos_iff.1 hc)
  have hd : ∀ j, j < st.length → (st.map fun x => decide (x ≠ 0)).getD j false = decide (st.getD j 0 ≠ 0) := by
    intro j hj
    rw [getD_lt _ _ (by simpa using hj), getD_lt _ _ hj, List.getElem_map]
  obtain ⟨j, hj, hr⟩ := ready_exists hf ha (st.map fun x => decide (x ≠ 0)) _ i (Nat.le_refl _) (by omega) (by rw [hd i hi, getD_lt _ _ hi]; simp [e])
  refine ⟨j, hj, now_open ?_ ?_⟩
  · simp only [ready, Bool.and_eq_true, Bool.not_eq_true'] at hr
    have := hr.1
    rw [hd j (by omega)] at this
    simpa using this
  · intro k hk
    simp only [ready, Bool.and_eq_true, List.all_eq_true] at hr
    have h1 := hr.2 k hk
    have hin := hf.inr j hj k hk
    rw [hd _ (by omega)] at h1
    simpa using h1
theorem allM_len {w : Int} {n : Nat} : (allM ll st w 0 n).length ≤ n := by
  simp only [allM, List.length_map]
  exact Nat.le_trans (List.length_filter_le _ _) (by simp)
theorem Good.want (hg : Good ll bd st) (hc : st.count 0 = 0) {i : Nat} (hi : i < ll.length) : st.getD i 0 = 1 ↔ bd i = false ∧ ∀ k ∈ ll.getD i [], st.getD k.toNat 0 = 1 := by
  constructor
  · exact hg.w i hi
  · rintro ⟨h1, h2⟩
    rcases hg.v i hi with e | e | e
    · have hl := hg.len
      have : (0 : Int) ∈ st := by
        rw [getD_lt _ _ (by omega)] at e
        rw [← e]; exact List.getElem_mem _
      exact absurd (List.count_pos_iff.2 this) (by omega)
    · exact e
    · rcases hg.x i hi e with h3 | ⟨k, hk, h3⟩
      · rw [h1] at h3; cases h3
      · have := h2 k hk; omega
theorem Good.uniq (hf : Fine ll) (ha : Acyclic ll) (h1 : Good ll bd st1) (h2 : Good ll bd st2) (c1 : st1.count 0 = 0) (c2 : st2.count 0 = 0) : ∀ (m i : Nat), need' ll (i : Int) ≤ m → i < ll.length → (st1.getD i 0 = 1 ↔ st2.getD i 0 = 1) := by
  intro m
  induction m with
  | zero =>
    intro i hm hi
    have hno : ∀ k, k ∉ ll.getD i [] := by
      intro k hk
      have := need_lt hf ha (i := (i : Int)) (k := k) (by simpa using hk)
      omega
    rw [h1.want c1 hi, h2.want c2 hi]
    constructor <;> exact fun h => ⟨h.1, fun k hk => absurd hk (hno k)⟩
  | succ m ih =>
    intro i hm hi
    rw [h1.want c1 hi, h2.want c2 hi]
    have hk : ∀ k ∈ ll.getD i [], (st1.getD k.toNat 0 = 1 ↔ st2.getD k.toNat 0 = 1) := by
      intro k hk
      have hin := hf.inr i hi k hk
      have := need_lt hf ha (i := (i : Int)) (k := k) (by simpa using hk)
      exact ih k.toNat (by rw [show ((k.toNat : Nat) : Int) = k by omega]; omega) (by omega)
    constructor
    · exact fun h => ⟨h.1, fun k h3 => (hk k h3).1 (h.2 k h3)⟩
    · exact fun h => ⟨h.1, fun k h3 => (hk k h3).2 (h.2 k h3)⟩
end Go.Proofs.Ythpplekbeecdfaa.Gb

open Go Go.Proofs.Ythpplekbeecdfaa.Ai Go.Proofs
namespace Go.Proofs.Ythpplekbeecdfaa.Gb
variable {N : Nat} {s : SL} {l : List Int} {ss : List SL} {ll : List (List Int)} {B : Nat} {h0 : Heap} {P : Nat} {dv sv : SL} {st : List Int} {bd : List Bool}
/-- a run's step, once its place in the list is known -/
noncomputable def runTail (N : Nat) (go : Option (Nat × Nat) → SL → SL → Int → Bool → Int → Heap → Option (Out × (Bool × Unit) × Heap)) (v0 : Option (Nat × Nat)) (v1 v2 : SL) (v3 : Int) (v8 : Bool) (v9 : Int) (x9 : SL) (k : Int) (h10 : Heap) : Option (Out × (Bool × Unit) × Heap) :=
  (bind2 (f28 N v0 h10) fun (x47 : SL) h48 =>
  (bif ltInt k (Int.ofNat x47.len) then
    (ixK x9.a x9.len k 1 fun q50 =>
    (bindV (.val (.one (.int .i64))) (h48.cell q50) fun (x51 : Int) =>
    (bif ltInt x51 (Int.ofNat v1.len) then
      (ixK x9.a x9.len k 1 fun q53 =>
      (bindV (.val (.one (.int .i64))) (h48.cell q53) fun (x54 : Int) =>
      (ixK v1.a v1.len x54 1 fun q55 =>
      (bindV (.val (.one .bool)) (h48.cell q55) fun (x56 : Bool) =>
      (ixK x9.a x9.len k 1 fun q58 =>
      (bindV (.val (.one (.int .i64))) (h48.cell q58) fun (x59 : Int) =>
      (bind2 (f30 N v0 x59 (!x56) h48) fun (x60 : AV) h61 =>
      (bindV (.val (.one .bool)) (binA E .neq 32 (.tmp 75) (.const .nilIface) x60 AV.nilIface) fun (x62 : Bool) =>
      (bif x62 then some (Out.ret, (false, ()), h61) else go v0 v1 v2 v3 v8 (wrapA .i64 (v9 + 1)) h61)))))))))
    else
      (ixK x9.a x9.len k 1 fun q64 =>
      (bindV (.val (.one (.int .i64))) (h48.cell q64) fun (x65 : Int) =>
      (bind2 (f30 N v0 x65 true h48) fun (x66 : AV) h67 =>
      (bindV (.val (.one .bool)) (binA E .neq 32 (.tmp 75) (.const .nilIface) x66 AV.nilIface) fun (x68 : Bool) =>
      (bif x68 then some (Out.ret, (false, ()), h67) else go v0 v1 v2 v3 v8 (wrapA .i64 (v9 + 1)) h67))))))))
  else
    (ixK x9.a x9.len k 1 fun q70 =>
    (bindV (.val (.one (.int .i64))) (h48.cell q70) fun (x71 : Int) =>
    (bind2 (f30 N v0 x71 false h48) fun (x72 : AV) h73 =>
    (bindV (.val (.one .bool)) (binA E .neq 32 (.tmp 75) (.const .nilIface) x72 AV.nilIface) fun (x74 : Bool) =>
    (bif x74 then some (Out.ret, (false, ()), h73) else go v0 v1 v2 v3 v8 (wrapA .i64 (v9 + 1)) h73)))))))
theorem run_eq (N : Nat) (go : Option (Nat × Nat) → SL → SL → Int → Bool → Int → Heap → Option (Out × (Bool × Unit) × Heap)) (v0 : Option (Nat × Nat)) (v1 v2 : SL) (v3 : Int) (v8 : Bool) (v9 : Int) (h : Heap) : f37_l1_b N go v0 v1 v2 v3 v8 v9 h =
  (bif ltInt v9 v3 then
    (bind2 (f28 N v0 (h.push (.row [] .own))) fun (x3 : SL) h4 =>
    (bindT (.val (.one .slice)) (appendA E 26 26 (.slice (some (h.next, 0)) 0 0 1) (.slice x3.a x3.len x3.cap x3.sz) h4) fun (x5 : SL) h6 =>
    (bind2 (f33 N v0 h6) fun (x7 : SL) h8 =>
    (bindT (.val (.one .slice)) (appendA E 26 26 (.slice x5.a x5.len x5.cap x5.sz) (.slice x7.a x7.len x7.cap x7.sz) h8) fun (x9 : SL) h10 =>
    (bif eqInt (Int.ofNat x9.len) 0 then some (Out.ret, (false, ()), h10)
    else (bif ltInt v9 (Int.ofNat v2.len) then
      (ixK v2.a v2.len v9 1 fun q13 =>
      (bindV (.val (.one (.int .i64))) (h10.cell q13) fun (x14 : Int) =>
      (bindV (.val (.one (.int .i64))) (binInt .rem .i64 x14 (Int.ofNat x9.len)) fun (x15 : Int) =>
      (bindV (.val (.one (.int .i64))) (binInt .rem .i64 (wrapA .i64 (x15 + (Int.ofNat x9.len))) (Int.ofNat x9.len)) fun (x17 : Int) => runTail N go v0 v1 v2 v3 v8 v9 x9 x17 h10))))
      else runTail N go v0 v1 v2 v3 v8 v9 x9 0 h10))))))
  else some ((Out.exit 0), (v8, ()), h)) := rfl
theorem nn75 : binA E .neq 32 (.tmp 75) (.const .nilIface) AV.nilIface AV.nilIface = some (.bool false) := by kernel_rfl
/-- a rest that is brought into the range -/
theorem rem2 {n : Nat} (hn : 0 < n) (h1 : n ≤ 1000) (x : Int) : ∃ r k : Int, binInt .rem .i64 x (n : Int) = some (.int .i64 r) ∧ binInt .rem .i64 (wrapA .i64 (r + n)) (n : Int) = some (.int .i64 k) ∧ 0 ≤ k ∧ k < n := by
  have e0 : eqInt (n : Int) 0 = false := by rw [eqI]; simp only [decide_eq_false_iff_not]; omega
  have hb1 : x.tmod n < n := Int.tmod_lt_of_pos _ (by omega)
  have hb2 : -(n : Int) < x.tmod n := by
    have := Int.lt_tmod_of_pos x (show (0 : Int) < n by omega)
    omega
  have ew : wrapA .i64 (x.tmod n + n) = x.tmod n + n := wrapA_small (by omega) (by omega)
  refine ⟨x.tmod n, (x.tmod n + n).tmod n, by simp only [binInt, e0, cond_false], by simp only [binInt, e0, cond_false, ew], Int.tmod_nonneg _ (by omega), Int.tmod_lt_of_pos _ (by omega)⟩
theorem runTail_spec {h : Heap} (hf : Fine ll) (hN : 1000 ≤ N) (hp : Pl B h P dv sv ss ll st) (hg : Good ll (fun i => bd.getD i false) st) {v1 v2 x9 : SL} (hv1 : One h v1 (bd.map AV.bool)) (hu1 : v1.under B) {C : Nat} (hx9 : Own1 C h x9 ((allM ll st 1 0 ll.length ++ allM ll st 2 0 ll.length).map (AV.int .i64))) (hbn : B ≤ h.next)
    {k : Int} (hk0 : 0 ≤ k) (hk1 : k < (allM ll st 1 0 ll.length ++ allM ll st 2 0 ll.length).length) (go : Option (Nat × Nat) → SL → SL → Int → Bool → Int → Heap → Option (Out × (Bool × Unit) × Heap)) (v3 : Int) (v8 : Bool) (v9 : Int) :
    ∃ h' st', runTail N go (some (P, 0)) v1 v2 v3 v8 v9 x9 k h = go (some (P, 0)) v1 v2 v3 v8 (wrapA .i64 (v9 + 1)) h' ∧ But sv.blk h h' ∧ Pl B h' P dv sv ss ll st' ∧ Good ll (fun i => bd.getD i false) st' ∧ st'.count 0 + 1 = st.count 0 := by
  obtain ⟨rs, h1, e1, b1, o1⟩ := Ready_spec (N := N) hf hN hp hg.len
  have hp1 := hp.keep b1
  have hx := hx9.but b1 (by simp)
  have hrl : rs.len = (allM ll st 1 0 ll.length).length := by have := o1.len; rw [List.length_map] at this; exact this
  have rd : ∀ {β : Type} (K : Int → Option β), (ixK x9.a x9.len k 1 fun q => bindV (.val (.one (.int .i64))) (h1.cell q) K) = K ((allM ll st 1 0 ll.length ++ allM ll st 2 0 ll.length).getD k.toNat 0) := fun K => hx.one.int hk0 hk1 K
  have k1 : Keep B h h1 := b1.keep hbn (by simp)
  have hv := hv1.keep k1 hu1
  have hvl : v1.len = bd.length := by have := hv1.1; rw [List.length_map] at this; exact this
  rw [List.length_append] at hk1
  have hlt : ltInt k (rs.len : Int) = decide (k < ((allM ll st 1 0 ll.length).length : Int)) := by rw [ltInt_dec, hrl]
  unfold runTail
  simp only [e1, bind2_some, Int.ofNat_eq_natCast, hlt, rd]
  generalize hxe : (allM ll st 1 0 ll.length ++ allM ll st 2 0 ll.length).getD k.toNat 0 = x
  have fin : ∀ (ok : Bool), 0 ≤ x → x < ll.length → (nowM ll st x.toNat = 1 ∧ ok = !(bd.getD x.toNat false) ∨ nowM ll st x.toNat = 2 ∧ ok = false) →
      ∃ h' st', f30 N (some (P, 0)) x ok h1 = some (.nilIface, h') ∧ But sv.blk h h' ∧ Pl B h' P dv sv ss ll st' ∧ Good ll (fun i => bd.getD i false) st' ∧ st'.count 0 + 1 = st.count 0 := by
    intro ok hx0 hx1 hn
    obtain ⟨h', e, b, p⟩ := Done_ok (N := N) hf hN hp1 hg.len hx0 (by rw [hg.len]; exact hx1) ok (by rcases hn with ⟨a, _⟩ | ⟨a, b⟩; exact .inl a; exact .inr ⟨a, b⟩)
    refine ⟨h', _, e, ⟨fun A hA hne => (b.g A (Nat.lt_of_lt_of_le hA b1.next) hne).trans (b1.g A hA (by simp)), Nat.le_trans b1.next b.next⟩, p, hg.next hf (by omega) hn, ?_⟩
    refine count_set0 st (by rw [hg.len]; omega) (hg.zero (by omega) (by rcases hn with ⟨a, _⟩ | ⟨a, _⟩; exact .inl a; exact .inr a)) ?_
    cases ok <;> simp
  by_cases hr : k < ((allM ll st 1 0 ll.length).length : Int)
  · have hm : x ∈ allM ll st 1 0 ll.length := by
      rw [← hxe, getD_lt _ _ (by rw [List.length_append]; omega), List.getElem_append_left (by omega)]
      exact List.getElem_mem _
    obtain ⟨hx0, hx1, hn⟩ := mem_allM.1 hm
    simp only [hr, decide_true, cond_true]
    by_cases hb : x < (bd.length : Int)
    · have rb : ∀ {β : Type} (K : Bool → Option β), (ixK v1.a v1.len x 1 fun q => bindV (.val (.one .bool)) (h1.cell q) K) = K (bd.getD x.toNat false) := fun K => hv.bool hx0 hb K
      obtain ⟨h', st', e, b, p, g, c⟩ := fin (!(bd.getD x.toNat false)) hx0 hx1 (.inl ⟨hn, rfl⟩)
      have hlb : ltInt x (v1.len : Int) = true := by rw [ltInt_dec, hvl]; simp only [decide_eq_true_eq]; omega
      simp only [hlb, cond_true, rb, e, bind2_some, nn75, bindV_some, cast_bool, cond_false]
      exact ⟨h', st', rfl, b, p, g, c⟩
    · have hbf : bd.getD x.toNat false = false := by
        rw [List.getD_eq_getElem?_getD, List.getElem?_eq_none (by omega)]; rfl
      obtain ⟨h', st', e, b, p, g, c⟩ := fin true hx0 hx1 (.inl ⟨hn, by rw [hbf]; rfl⟩)
      have hlb : ltInt x (v1.len : Int) = false := by rw [ltInt_dec, hvl]; simp only [decide_eq_false_iff_not]; omega
      simp only [hlb, cond_false, e, bind2_some, nn75, bindV_some, cast_bool]
      exact ⟨h', st', rfl, b, p, g, c⟩
  · have hm : x ∈ allM ll st 2 0 ll.length := by
      rw [← hxe, getD_lt _ _ (by rw [List.length_append]; omega), List.getElem_append_right (by omega)]
      exact List.getElem_mem _
    obtain ⟨hx0, hx1, hn⟩ := mem_allM.1 hm
    obtain ⟨h', st', e, b, p, g, c⟩ := fin false hx0 hx1 (.inr ⟨hn, rfl⟩)
    simp only [hr, decide_false, cond_false, e, bind2_some, nn75, bindV_some, cast_bool]
    exact ⟨h', st', rfl, b, p, g, c⟩
end Go.Proofs.Ythpplekbeecdfaa.Gb

open Go Go.Proofs.Ythpplekbeecdfaa.Ai Go.Proofs
namespace Go.Proofs.Ythpplekbeecdfaa.Gb
variable {N : Nat} {s : SL} {l : List Int} {ss : List SL} {ll : List (List Int)} {B : Nat} {h0 : Heap} {P : Nat} {dv sv : SL} {st : List Int} {bd : List Bool}
/-- the list of what is ready and what is blocked -/
theorem list_spec {h : Heap} (hf : Fine ll) (hN : 1000 ≤ N) (hp : Pl B h P dv sv ss ll st) (hsl : st.length = ll.length) : ∃ (x3 : SL) (h4 : Heap) (x5 : SL) (h6 : Heap) (x7 : SL) (h8 : Heap) (x9 : SL) (h10 : Heap),
    f28 N (some (P, 0)) (h.push (.row [] .own)) = some (x3, h4) ∧ appendA E 26 26 (.slice (some (h.next, 0)) 0 0 1) (.slice x3.a x3.len x3.cap x3.sz) h4 = some (.slice x5.a x5.len x5.cap x5.sz, h6) ∧
    f33 N (some (P, 0)) h6 = some (x7, h8) ∧ appendA E 26 26 (.slice x5.a x5.len x5.cap x5.sz) (.slice x7.a x7.len x7.cap x7.sz) h8 = some (.slice x9.a x9.len x9.cap x9.sz, h10) ∧
    But none h h10 ∧ Own1 h.next h10 x9 ((allM ll st 1 0 ll.length ++ allM ll st 2 0 ll.length).map (AV.int .i64)) := by
  have hlen := hf.len
  have b2 : But none h (h.push (.row [] .own)) := But.push h _ _
  have n2 : (h.push (.row [] .own)).next = h.next + 1 := by simp
  obtain ⟨x3, h4, e4, b4, o4⟩ := Ready_spec (N := N) hf hN (hp.keep b2) hsl
  have n4 := b4.next
  have o0 : Own1 h.next h4 ⟨some (h.next, 0), 0, 0, 1⟩ [] := by
    refine Own1.but b4 (by simp) (.inr ⟨h.next, [], .own, rfl, rfl, Nat.le_refl _, by simp, g_push_eq _ rfl, rfl, by simp, rfl, Nat.le_refl _, .inr ⟨rfl, rfl⟩⟩)
  have hl1 : (allM ll st 1 0 ll.length).length ≤ ll.length := allM_len
  have hl2 : (allM ll st 2 0 ll.length).length ≤ ll.length := allM_len
  obtain ⟨x5, h6, e6, o6, b6, c6⟩ := append_ownN app26 o4.one (by simp [AV.single]) o0 (by omega) (by rw [List.length_map]; simp; omega)
  have n6 := b6.next
  have k6 : Keep h.next h h6 := (b2.keep (Nat.le_refl _) (by simp)).trans ((b4.keep (by omega) (by simp)).trans (b6.keep (by omega) (fun A hA => (o0.ge A hA).1)))
  obtain ⟨x7, h8, e8, b8, o8⟩ := Blocked_spec (N := N) hf hN (hp.keep (Keep.but k6)) hsl
  have n8 := b8.next
  have o6' := o6.but b8 (by simp)
  obtain ⟨x9, h10, e10, o10, b10, c10⟩ := append_ownN app26 o8.one (by simp [AV.single]) o6' (by omega) (by simp only [List.length_append, List.length_map, List.length_nil]; omega)
  refine ⟨x3, h4, x5, h6, x7, h8, x9, h10, e4, e6, e8, e10, Keep.but (k6.trans ((b8.keep (by omega) (by simp)).trans (b10.keep (by omega) (fun A hA => (o6'.ge A hA).1)))), ?_⟩
  rw [List.map_append]
  exact o10
theorem run_loop (hf : Fine ll) (ha : Acyclic ll) (hN : 1000 ≤ N) {v1 v2 : SL} {ord : List Int} : ∀ (M i : Nat) (h : Heap) (st : List Int), i ≤ ll.length → ll.length - i < M → st.count 0 = ll.length - i → Pl B h P dv sv ss ll st → Good ll (fun i => bd.getD i false) st → One h v1 (bd.map AV.bool) → v1.under B → Ints h v2 ord → v2.under B → B ≤ h.next →
    ∃ h' st', f37_l1 N M (some (P, 0)) v1 v2 (ll.length : Int) false (i : Int) h = some (.exit 0, (false, ()), h') ∧ But sv.blk h h' ∧ Pl B h' P dv sv ss ll st' ∧ Good ll (fun i => bd.getD i false) st' ∧ st'.count 0 = 0 := by
  intro M
  induction M with
  | zero => intro i h st h1 h2; omega
  | succ M ih =>
    intro i h st h1 h2 hc hp hg hv1 hu1 hv2 hu2 hbn
    have hlen := hf.len
    rw [f37_l1_succ, run_eq]
    by_cases hi : i < ll.length
    · have ew : wrapA .i64 ((i : Int) + 1) = ((i + 1 : Nat) : Int) := wrapA_small (by omega) (by omega)
      obtain ⟨x3, h4, x5, h6, x7, h8, x9, h10, e4, e6, e8, e10, b10, o10⟩ := list_spec (N := N) hf hN hp hg.len
      have n10 := b10.next
      have k10 : Keep B h h10 := b10.keep hbn (by simp)
      have hp10 := hp.keep b10
      have hv10 := hv1.keep k10 hu1
      have hw10 : Ints h10 v2 ord := hv2.keep k10 hu2
      have hl1 : (allM ll st 1 0 ll.length).length ≤ ll.length := allM_len
      have hl2 : (allM ll st 2 0 ll.length).length ≤ ll.length := allM_len
      obtain ⟨j, hj, hjo⟩ := some_open hf ha hg.len (by omega)
      have hmem : (j : Int) ∈ allM ll st 1 0 ll.length ++ allM ll st 2 0 ll.length := by
        rw [List.mem_append]
        rcases hjo with hjo | hjo
        · exact .inl (mem_allM.2 ⟨by omega, by omega, by simpa using hjo⟩)
        · exact .inr (mem_allM.2 ⟨by omega, by omega, by simpa using hjo⟩)
      have hpos := List.length_pos_of_mem hmem
      generalize hL : allM ll st 1 0 ll.length ++ allM ll st 2 0 ll.length = L at o10 hpos
      have hLl : L.length ≤ 1000 := by rw [← hL, List.length_append]; omega
      have hx9 : x9.len = L.length := by have := o10.len; rw [List.length_map] at this; exact this
      have e0 : eqInt (L.length : Int) 0 = false := by rw [eqI]; simp only [decide_eq_false_iff_not]; omega
      have step : ∀ k : Int, 0 ≤ k → k < L.length → ∃ h' st', runTail N (f37_l1 N M) (some (P, 0)) v1 v2 (ll.length : Int) false (i : Int) x9 k h10 = some (.exit 0, (false, ()), h') ∧ But sv.blk h h' ∧ Pl B h' P dv sv ss ll st' ∧ Good ll (fun i => bd.getD i false) st' ∧ st'.count 0 = 0 := by
        intro k hk0 hk1
        obtain ⟨h', st', e, b, p, g, c⟩ := runTail_spec (N := N) (v1 := v1) (v2 := v2) hf hN hp10 hg hv10 hu1 (by rw [hL]; exact o10) (by omega) hk0 (by rw [hL]; exact hk1) (f37_l1 N M) (ll.length : Int) false (i : Int)
        have hb1 : But sv.blk h h' := ⟨fun A hA hne => (b.g A (by omega) hne).trans (b10.g A hA (by simp)), Nat.le_trans n10 b.next⟩
        have kb : Keep B h10 h' := b.keep (by omega) (fun A hA => (hp10.s.ge A hA).1)
        obtain ⟨h'', st'', e2, b2, r⟩ := ih (i + 1) h' st' (by omega) (by omega) (by omega) p g (hv10.keep kb hu1) hu1 (hw10.keep kb hu2) hu2 (by have := b.next; omega)
        exact ⟨h'', st'', by rw [e, ew]; exact e2, hb1.trans b2, r⟩
      have hw := Ints.len hw10
      have hxe : (⟨x9.a, L.length, x9.cap, x9.sz⟩ : SL) = x9 := by rw [← hx9]
      simp only [nat_i, hi, decide_true, cond_true, e4, bind2_some, e6, bindT_some, cast_slice, e8, e10, hx9, Int.ofNat_eq_natCast, e0, cond_false, hw, hxe]
      by_cases ho : i < ord.length
      · obtain ⟨r, k, r1, r2, hk0, hk1⟩ := rem2 hpos hLl (ord.getD i 0)
        have ro : ∀ {β : Type} (K : Int → Option β), (ixK v2.a ord.length (i : Int) 1 fun q => bindV (.val (.one (.int .i64))) (h10.cell q) K) = K (ord.getD i 0) := fun K => by
          rw [← hw, hw10.int (x := (i : Int)) (by omega) (by omega)]; simp only [Int.toNat_natCast]
        simp only [ho, decide_true, cond_true, ro, r1, bindV_some, cast_int, r2]
        exact step k hk0 hk1
      · simp only [ho, decide_false, cond_false]
        exact step 0 (by omega) (by omega)
    · have : i = ll.length := by omega
      subst this
      exact ⟨h, st, by simp [nat_i], But.refl _ _, hp, hg, by omega⟩
theorem run_spec (hf : Fine ll) (ha : Acyclic ll) (hN : 1000 ≤ N) {v1 v2 : SL} {ord : List Int} {h : Heap} (hp : Pl B h P dv sv ss ll (List.replicate ll.length 0)) (hv1 : One h v1 (bd.map AV.bool)) (hu1 : v1.under B) (hv2 : Ints h v2 ord) (hu2 : v2.under B) (hbn : B ≤ h.next) :
    ∃ h' st', f37 N (some (P, 0)) v1 v2 (ll.length : Int) h = some (true, h') ∧ But sv.blk h h' ∧ Pl B h' P dv sv ss ll st' ∧ Good ll (fun i => bd.getD i false) st' ∧ st'.count 0 = 0 := by
  have hlen := hf.len
  obtain ⟨h', st', e, r⟩ := run_loop (N := N) (bd := bd) hf ha hN N 0 h (List.replicate ll.length 0) (by omega) (by omega) (by simp) hp Good.start hv1 hu1 hv2 hu2 hbn
  simp only [Int.ofNat_zero] at e
  refine ⟨h', st', ?_, r⟩
  unfold f37
  simp only [e, bind3_some, eqOut_exit, decide_true, cond_true]
/-- another plan stays as it is -/
theorem Pl.other {h h' : Heap} {o : Option Nat} (hp : Pl B h P dv sv ss ll st) (hb : But o h h') (ho : ∀ A, o = some A → A ≠ P ∧ sv.blk ≠ some A ∧ dv.blk ≠ some A ∧ ∀ i, i < ll.length → (ss.getD i nilS).blk ≠ some A) : Pl B h' P dv sv ss ll st :=
  ⟨hp.lo, Nat.lt_of_lt_of_le hp.hi hb.next, by rw [hb.g P hp.hi (fun e => (ho P e).1 rfl)]; exact hp.g, hp.s.but hb (fun A hA e => (ho A e).2.1 hA), hp.d.but hb (fun A hA e => (ho A e).2.2.1 hA), hp.dl, fun i hi => (hp.r i hi).but hb (fun A hA e => (ho A e).2.2.2 i hi hA), hp.n1, hp.n2, hp.n3, hp.n4, hp.n5, hp.n6⟩
theorem Pl.lt {h : Heap} (hp : Pl B h P dv sv ss ll st) {A : Nat} (hA : A < B ∨ h.next ≤ A) : A ≠ P ∧ sv.blk ≠ some A ∧ dv.blk ≠ some A ∧ ∀ i, i < ll.length → (ss.getD i nilS).blk ≠ some A := by
  have h1 := hp.lo
  have h2 := hp.hi
  refine ⟨by omega, fun e => ?_, fun e => ?_, fun i hi e => ?_⟩
  · have := hp.s.ge A e; omega
  · have := hp.d.ge A e; omega
  · have := (hp.r i hi).ge A e; omega
end Go.Proofs.Ythpplekbeecdfaa.Gb

open Go Go.Proofs.Ythpplekbeecdfaa.Ai Go.Proofs Go.ChangeShapes Go.WideShapes
namespace Go.Proofs.Ythpplekbeecdfaa.Gb
variable {N : Nat} {s : SL} {l : List Int} {ss : List SL} {ll : List (List Int)} {B : Nat} {h0 : Heap} {P : Nat} {dv sv : SL} {st : List Int} {bd : List Bool}
theorem want2 {h : Heap} (hf : Fine ll) (hr : Rows h s ss ll) {ss' : List SL} (hp : Pl B h P dv sv ss' ll st) (hsl : st.length = ll.length) {i : Nat} (hi : i < ll.length) (v1 : SL) (v8 : Bool) (q : Option (Nat × Nat)) (x y : Bool) : ∀ (M j : Nat) (w : Bool), j ≤ (ll.getD i []).length → (ll.getD i []).length - j < M →
    f8_l2 N M s v1 v8 (some (P, 0)) q (i : Int) x y w (j : Int) h = some (.exit 2, (s, v1, v8, some (P, 0), q, (i : Int), x, y, w && ((ll.getD i []).drop j).all (fun k => decide (st.getD k.toNat 0 = 1)), ()), h) := by
  intro M
  induction M with
  | zero => intro j w h1 h2; omega
  | succ M ih =>
    intro j w h1 h2
    have hrl := hf.row i hi
    have hrow := hr.row i hi
    have hlen := hf.len
    rw [f8_l2_succ]
    unfold f8_l2_b
    have rs : ∀ {β : Type} (K : SL → Option β), (ixK s.a s.len (i : Int) 1 fun q => bindV (.val (.one .slice)) (h.cell q) K) = K (ss.getD i nilS) := fun K => by
      rw [hr.top.sl (x := (i : Int)) (by omega) (by rw [hr.len]; omega)]; simp only [Int.toNat_natCast]
    simp only [rs, Ints.len hrow, Int.ofNat_eq_natCast, nat_i]
    by_cases hj : j < (ll.getD i []).length
    · have ew : wrapA .i64 ((j : Int) + 1) = ((j + 1 : Nat) : Int) := wrapA_small (by omega) (by omega)
      have hd : (ll.getD i []).drop j = (ll.getD i [])[j] :: (ll.getD i []).drop (j + 1) := List.drop_eq_getElem_cons hj
      have hin := hf.inr i hi _ (List.getElem_mem hj)
      have ri : ∀ {β : Type} (K : Int → Option β), (ixK (ss.getD i nilS).a (ll.getD i []).length (j : Int) 1 fun q => bindV (.val (.one (.int .i64))) (h.cell q) K) = K (ll.getD i [])[j] := fun K => by
        rw [← Ints.len hrow, hrow.int (x := (j : Int)) (by omega) (by omega)]; simp only [Int.toNat_natCast, getD_lt _ _ hj]
      have es := State_spec (N := N) hp (i := (ll.getD i [])[j]) hin.1 (by omega)
      simp only [hj, decide_true, cond_true, ri, es, bind2_some, ew, hd, List.all_cons]
      cases w with
      | true =>
        simp only [cond_true, Bool.true_and]
        exact ih (j + 1) _ (by omega) (by omega)
      | false =>
        simp only [cond_false, Bool.false_and]
        rw [ih (j + 1) _ (by omega) (by omega)]; simp
    · have : j = (ll.getD i []).length := by omega
      subst this
      simp
theorem want3 {h : Heap} (hf : Fine ll) (hr : Rows h s ss ll) {ss' : List SL} (hp : Pl B h P dv sv ss' ll st) (hsl : st.length = ll.length) {i : Nat} (hi : i < ll.length) (v1 : SL) (v8 : Bool) (q : Option (Nat × Nat)) (x y : Bool) : ∀ (M j : Nat) (w : Bool), j ≤ (ll.getD i []).length → (ll.getD i []).length - j < M →
    f8_l3 N M s v1 v8 (some (P, 0)) q (i : Int) x y w (j : Int) h = some (.exit 2, (s, v1, v8, some (P, 0), q, (i : Int), x, y, w && ((ll.getD i []).drop j).all (fun k => decide (st.getD k.toNat 0 = 1)), ()), h) := by
  intro M
  induction M with
  | zero => intro j w h1 h2; omega
  | succ M ih =>
    intro j w h1 h2
    have hrl := hf.row i hi
    have hrow := hr.row i hi
    have hlen := hf.len
    rw [f8_l3_succ]
    unfold f8_l3_b
    have rs : ∀ {β : Type} (K : SL → Option β), (ixK s.a s.len (i : Int) 1 fun q => bindV (.val (.one .slice)) (h.cell q) K) = K (ss.getD i nilS) := fun K => by
      rw [hr.top.sl (x := (i : Int)) (by omega) (by rw [hr.len]; omega)]; simp only [Int.toNat_natCast]
    simp only [rs, Ints.len hrow, Int.ofNat_eq_natCast, nat_i]
    by_cases hj : j < (ll.getD i []).length
    · have ew : wrapA .i64 ((j : Int) + 1) = ((j + 1 : Nat) : Int) := wrapA_small (by omega) (by omega)
      have hd : (ll.getD i []).drop j = (ll.getD i [])[j] :: (ll.getD i []).drop (j + 1) := List.drop_eq_getElem_cons hj
      have hin := hf.inr i hi _ (List.getElem_mem hj)
      have ri : ∀ {β : Type} (K : Int → Option β), (ixK (ss.getD i nilS).a (ll.getD i []).length (j : Int) 1 fun q => bindV (.val (.one (.int .i64))) (h.cell q) K) = K (ll.getD i [])[j] := fun K => by
        rw [← Ints.len hrow, hrow.int (x := (j : Int)) (by omega) (by omega)]; simp only [Int.toNat_natCast, getD_lt _ _ hj]
      have es := State_spec (N := N) hp (i := (ll.getD i [])[j]) hin.1 (by omega)
      simp only [hj, decide_true, cond_true, ri, es, bind2_some, ew, hd, List.all_cons]
      cases w with
      | true =>
        simp only [cond_true, Bool.true_and]
        exact ih (j + 1) _ (by omega) (by omega)
      | false =>
        simp only [cond_false, Bool.false_and]
        rw [ih (j + 1) _ (by omega) (by omega)]; simp
    · have : j = (ll.getD i []).length := by omega
      subst this
      simp
theorem ends_loop {h : Heap} (hf : Fine ll) (ha : Acyclic ll) (hN : 1000 ≤ N) (hr : Rows h s ss ll) {v1 : SL} (hv1 : One h v1 (bd.map AV.bool)) {P1 P2 : Nat} {dv1 sv1 dv2 sv2 : SL} {ss1 ss2 : List SL} {st1 st2 : List Int} {B1 B2 : Nat} (hp1 : Pl B1 h P1 dv1 sv1 ss1 ll st1) (hp2 : Pl B2 h P2 dv2 sv2 ss2 ll st2)
    (hg1 : Good ll (fun i => bd.getD i false) st1) (hg2 : Good ll (fun i => bd.getD i false) st2) (c1 : st1.count 0 = 0) (c2 : st2.count 0 = 0) : ∀ (M i : Nat), i ≤ ll.length → ll.length - i < M →
    f8_l1 N M s v1 false (some (P1, 0)) (some (P2, 0)) (i : Int) h = some (.exit 0, (false, ()), h) := by
  intro M
  induction M with
  | zero => intro i h1 h2; omega
  | succ M ih =>
    intro i h1 h2
    rw [f8_l1_succ]
    unfold f8_l1_b
    have hlen := hf.len
    have hvl : v1.len = bd.length := by have := hv1.1; rw [List.length_map] at this; exact this
    by_cases hi : i < ll.length
    · have ew : wrapA .i64 ((i : Int) + 1) = ((i + 1 : Nat) : Int) := wrapA_small (by omega) (by omega)
      have hrl := hf.row i hi
      have e1 := State_spec (N := N) hp1 (i := (i : Int)) (by omega) (by rw [hg1.len]; omega)
      have e2 := State_spec (N := N) hp2 (i := (i : Int)) (by omega) (by rw [hg2.len]; omega)
      simp only [Int.toNat_natCast] at e1 e2
      have hu := hg1.uniq hf ha hg2 c1 c2 _ i (Nat.le_refl _) hi
      have hw := hg1.want c1 hi
      have hxy : decide (st2.getD i 0 = 1) = decide (st1.getD i 0 = 1) := by
        by_cases h3 : st1.getD i 0 = 1
        · simp only [h3, hu.1 h3]
        · have h4 : ¬ st2.getD i 0 = 1 := fun e => h3 (hu.2 e)
          simp only [h3, h4]
      have hxw : (!(bd.getD i false) && (ll.getD i []).all (fun k => decide (st1.getD k.toNat 0 = 1))) = decide (st1.getD i 0 = 1) := by
        cases hq : (!(bd.getD i false) && (ll.getD i []).all (fun k => decide (st1.getD k.toNat 0 = 1))) with
        | true =>
          simp only [Bool.and_eq_true, Bool.not_eq_true', List.all_eq_true, decide_eq_true_eq] at hq
          simp only [hw.2 hq, decide_true]
        | false =>
          symm
          rw [decide_eq_false_iff_not]
          intro e
          have := hw.1 e
          have h5 : (!(bd.getD i false) && (ll.getD i []).all (fun k => decide (st1.getD k.toNat 0 = 1))) = true := by
            simp only [Bool.and_eq_true, Bool.not_eq_true', List.all_eq_true, decide_eq_true_eq]; exact this
          rw [h5] at hq; cases hq
      have w2 := fun w => want2 (N := N) hf hr hp1 hg1.len hi v1 false (some (P2, 0)) (decide (st1.getD i 0 = 1)) (decide (st1.getD i 0 = 1)) N 0 w (by omega) (by omega)
      have w3 := fun w => want3 (N := N) hf hr hp1 hg1.len hi v1 false (some (P2, 0)) (decide (st1.getD i 0 = 1)) (decide (st1.getD i 0 = 1)) N 0 w (by omega) (by omega)
      simp only [Int.ofNat_zero, List.drop_zero] at w2 w3
      have hnn : ∀ b : Bool, (!(bif b then b else !b)) = false := by intro b; cases b <;> rfl
      simp only [hr.slen, Int.ofNat_eq_natCast, nat_i, hi, decide_true, cond_true, e1, e2, bind2_some, hxy, hvl]
      by_cases hb : i < bd.length
      · have rb : ∀ {β : Type} (K : Bool → Option β), (ixK v1.a bd.length (i : Int) 1 fun q => bindV (.val (.one .bool)) (h.cell q) K) = K (bd.getD i false) := fun K => by
          rw [← hvl, hv1.bool (x := (i : Int)) (by omega) (by omega)]; simp only [Int.toNat_natCast]
        simp only [hb, decide_true, cond_true, rb, w2, bind3_some, hxw, hnn, cond_false, ew]
        exact ih (i + 1) (by omega) (by omega)
      · have hbf : bd.getD i false = false := by
          rw [List.getD_eq_getElem?_getD, List.getElem?_eq_none (by omega)]; rfl
        rw [hbf, Bool.not_false] at hxw
        simp only [hb, decide_false, cond_false, w3, bind3_some, hxw, hnn, ew]
        exact ih (i + 1) (by omega) (by omega)
    · have : i = ll.length := by omega
      subst this
      simp [nat_i, hr.slen]
end Go.Proofs.Ythpplekbeecdfaa.Gb

open Go Go.Proofs.Ythpplekbeecdfaa.Ai Go.Proofs Go.ChangeShapes Go.WideShapes
namespace Go.Proofs.Ythpplekbeecdfaa.Gb
variable {s : SL} {ss : List SL} {ll : List (List Int)} {bd : List Bool}
theorem nn36 : binA E .neq 32 (.tmp 36) (.const .nilIface) AV.nilIface AV.nilIface = some (.bool false) := by kernel_rfl
theorem nn36e (v : AV) : binA E .neq 32 (.tmp 36) (.const .nilIface) (.iface 69 v) AV.nilIface = some (.bool true) := by kernel_rfl
theorem nn39 : binA E .neq 32 (.tmp 39) (.const .nilIface) AV.nilIface AV.nilIface = some (.bool false) := by kernel_rfl
theorem nn39e (v : AV) : binA E .neq 32 (.tmp 39) (.const .nilIface) (.iface 69 v) AV.nilIface = some (.bool true) := by kernel_rfl
theorem ends_law {h : Heap} (hr : RowsB h.next h s ss ll) {v1 v2 v3 : SL} {o1 o2 : List Int} (hv1 : One h v1 (bd.map AV.bool)) (hv2 : Ints h v2 o1) (hv3 : Ints h v3 o2) : ∃ h', f8 2000000 s v1 v2 v3 h = some (true, h') := by
  obtain ⟨b, e0, hfew⟩ := few_spec (N := 2000000) (by omega) hr.r
  cases b with
  | false => exact ⟨h, by simp only [f8, e0, bind2_some, Bool.not_false, cond_true, f25]⟩
  | true =>
    obtain ⟨hl1, hl2⟩ := hfew rfl
    cases hb : badOf ll with
    | some cj =>
      obtain ⟨c, j⟩ := cj
      have e1 := New_bad (N := 2000000) (by omega) hr.r hb
      have k1 : Keep h.next h (errH h c j) := (Keep.refl _ _).push (Nat.le_refl _) _
      have hr1 := hr.keep k1
      have e2 := New_bad (N := 2000000) (by omega) hr1.r hb
      exact ⟨errH (errH h c j) c j, by simp only [f8, e0, bind2_some, Bool.not_true, cond_false, e1, e2, errV, nn36e, bindV_some, cast_bool, cond_true, f25]⟩
    | none =>
      have hf := badOf_none.1 hb
      have u1 := hv1.2.2.under
      have u2 := hv2.2.2.under
      have u3 := hv3.2.2.under
      rcases New_spec (N := 2000000) hf (by omega) hr (Nat.le_refl _) with ⟨h7, P1, dv1, sv1, ds1, e1, k7, p1, ha⟩ | ⟨h7, v, j, e1, k7, _⟩
      · have n7 := k7.next
        have hr7 : RowsB h7.next h7 s ss ll := (hr.keep k7).mono k7.next
        rcases New_spec (N := 2000000) hf (by omega) hr7 (Nat.le_refl _) with ⟨h9, P2, dv2, sv2, ds2, e2, k9, p2, _⟩ | ⟨h9, v, j, e2, k9, _⟩
        · have n9 := k9.next
          have k9' : Keep h.next h h9 := k7.trans (k9.mono n7)
          have p1' := p1.keep (Keep.but k9)
          obtain ⟨h21, st1, e3, b21, q1, g1, c1⟩ := run_spec (N := 2000000) hf ha (by omega) p1' (hv1.keep k9' u1) u1 (hv2.keep k9' u2 : Ints h9 v2 o1) u2 (by omega)
          have n21 := b21.next
          have k21 : Keep h.next h9 h21 := b21.keep (by omega) (fun A hA => (p1.s.ge A hA).1)
          have k21' := k9'.trans k21
          have p2' := p2.other b21 (fun A hA => p2.lt (.inl (p1.s.ge A hA).2))
          have up : ∀ {v : SL}, v.under h.next → v.under h7.next := fun u A off ha => Nat.lt_of_lt_of_le (u A off ha) n7
          obtain ⟨h24, st2, e4, b24, q2, g2, c2⟩ := run_spec (N := 2000000) hf ha (by omega) p2' (hv1.keep k21' u1) (up u1) (hv3.keep k21' u3 : Ints h21 v3 o2) (up u3) (by omega)
          have n24 := b24.next
          have k24 : Keep h7.next h21 h24 := b24.keep (by omega) (fun A hA => (p2.s.ge A hA).1)
          have k24' := k21'.trans (k24.mono n7)
          have q1' := q1.other b24 (fun A hA => p1.lt (.inr (p2.s.ge A hA).1))
          have l1 := Left_spec (N := 2000000) hf (by omega) q1' g1.len
          have l2 := Left_spec (N := 2000000) hf (by omega) q2 g2.len
          have el := ends_loop (N := 2000000) hf ha (by omega) (hr.keep k24').r (hv1.keep k24' u1) q1' q2 g1 g2 c1 c2 2000000 0 (by omega) (by omega)
          simp only [Int.ofNat_zero] at el
          have e00 : eqInt ((0 : Nat) : Int) 0 = true := rfl
          refine ⟨h24, ?_⟩
          simp only [f8, e0, bind2_some, Bool.not_true, cond_false, e1, e2, nn36, nn39, bindV_some, cast_bool, Option.isNone_some, hr.r.slen, Int.ofNat_eq_natCast, e3, e4, l1, l2, c1, c2, e00, el, bind3_some, eqOut_exit, decide_true, cond_true, f25]
        · exact ⟨h9, by simp only [f8, e0, bind2_some, Bool.not_true, cond_false, e1, e2, nn36, nn39e, bindV_some, cast_bool, cond_true, f25]⟩
      · have hr7 : RowsB h7.next h7 s ss ll := (hr.keep k7).mono k7.next
        rcases New_spec (N := 2000000) hf (by omega) hr7 (Nat.le_refl _) with ⟨h9, P2, dv2, sv2, ds2, e2, k9, p2, _⟩ | ⟨h9, v, j, e2, k9, _⟩
        · exact ⟨h9, by simp only [f8, e0, bind2_some, Bool.not_true, cond_false, e1, e2, nn36e, bindV_some, cast_bool, cond_true, f25]⟩
        · exact ⟨h9, by simp only [f8, e0, bind2_some, Bool.not_true, cond_false, e1, e2, nn36e, bindV_some, cast_bool, cond_true, f25]⟩
theorem undP43 : Try.prog.underlying 43 = some (.slice 4) := by kernel_rfl
theorem undP4 : Try.prog.underlying 4 = some .bool := by kernel_rfl
theorem cellsP4 : Try.prog.cellsOf 4 = 1 := by kernel_rfl
theorem cellsP3 : Try.prog.cellsOf 3 = 1 := by kernel_rfl
theorem ends_true {H : Type} (h : Heap) (vs : List AV) (ds : List (DataW H)) (hr : RdArgs Try.prog h [22, 43, 26, 26] vs ds) : ∃ xs : vdens [.one .slice, .one .slice, .one .slice, .one .slice], ∃ h', VTy.tos _ xs = vs ∧ (fun (x : vdens [.one .slice, .one .slice, .one .slice, .one .slice]) h => f8 2000000 x.1 x.2.1 x.2.2.1 x.2.2.2.1 h) xs h = some (true, h') := by
  obtain ⟨c0, d0, _, _, rfl, rfl, r0, hr⟩ := hr.cons_inv
  obtain ⟨c1, d1, _, _, rfl, rfl, r1, hr⟩ := hr.cons_inv
  obtain ⟨c2, d2, _, _, rfl, rfl, r2, hr⟩ := hr.cons_inv
  obtain ⟨c3, d3, _, _, rfl, rfl, r3, hr⟩ := hr.cons_inv
  obtain ⟨rfl, rfl⟩ := hr.nil_inv
  obtain ⟨s, ss, d, rfl, hrow⟩ := rows_of r0
  obtain ⟨s1, bs, rfl, k1, k2, k3, k4⟩ := Rd.bools undP43 undP4 cellsP4 r1
  obtain ⟨s2, l2, rfl, m1, m2, m3, m4, _⟩ := Rd.ints undP26 undP3 cellsP3 r2
  obtain ⟨s3, l3, rfl, n1, n2, n3, n4, _⟩ := Rd.ints undP26 undP3 cellsP3 r3
  obtain ⟨h', e⟩ := ends_law (bd := bs) (o1 := l2) (o2 := l3) hrow ⟨by rw [List.length_map]; exact k3.symm, k1, k4⟩ ⟨by rw [List.length_map]; exact m3.symm, m1, m4⟩ ⟨by rw [List.length_map]; exact n3.symm, n1, n4⟩
  refine ⟨(s, s1, s2, s3, ()), h', ?_, e⟩
  simp [VTy.tos, VTy.to, CTy.to, argOf, undP22, undP43, undP26]
end Go.Proofs.Ythpplekbeecdfaa.Gb
