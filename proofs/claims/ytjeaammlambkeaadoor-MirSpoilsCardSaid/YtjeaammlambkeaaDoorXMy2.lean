import Derived.Test.YtjeaammlambkeaaDoorXMy1
import Derived.Test.YtjeaammlambkeaaDoorAi3
/- Functions of the program as plain functions, and what they come to; part 2. -/
set_option linter.unusedVariables false
set_option linter.unusedSimpArgs false
set_option linter.unusedVariables false
set_option linter.unusedSimpArgs false
set_option maxRecDepth 100000
open Go Go.Proofs.YtjeaammlambkeaaDoor.Ai Go.Proofs
namespace Go.Proofs.YtjeaammlambkeaaDoor.My
/-! mir.May -/
section
variable {N : Nat} {h : Heap} {V : Nat → Prop}
theorem u60 : E.und 60 = some (.array 2 3) := by kernel_rfl
theorem z3 : E.size 3 = some 1 := by kernel_rfl
abbrev PrV := Int × Int × Unit
def prc (x : PrV) : List AV := [.int .i64 x.1, .int .i64 x.2.1]
def prD (a b : Int) : D := .t [.i a, .i b]
def isPr (d : D) : Prop := ∃ a b, d = prD a b
theorem inv_pr {a b : Int} {cs : List AV} (x : Dt h V (prD a b) cs) : cs = prc (a, b, ()) := by
  simp only [prD, Dt, Dp] at x
  obtain ⟨c1, r1, rfl, rfl, c2, r2, rfl, rfl, rfl⟩ := x
  rfl
theorem recPr : Rec [(.int .i64), (.int .i64)] 2 prc isPr := ⟨fun _ => rfl, fun r K => by obtain ⟨x1, x2, _⟩ := r; simp [prc], fun t x => by
  obtain ⟨a, b, rfl⟩ := t
  exact ⟨_, inv_pr x⟩⟩
theorem own_row {A : Nat} {cs : List AV} (o : h.own A cs) : h.row A = some cs := by
  have := o.1
  unfold Heap.g at this
  unfold Heap.row
  rw [this]
theorem own_two {A : Nat} {a b : Int} (o : h.own A [.int .i64 a, .int .i64 b]) : Sl h (fun _ => True) ⟨some (A, 0), 2, 2, 1⟩ ([a, b].map D.i) := by
  refine ⟨rfl, Nat.le_refl _, fun _ _ => trivial, [.int .i64 a, .int .i64 b], ⟨rfl, (fun h => by cases h), fun A' off e => ?_⟩, ?_⟩
  · cases e
    exact ⟨o.2, _, by rw [o.1]; rfl, rfl⟩
  · simp only [List.map_cons, List.map_nil, De, Dt]
    exact ⟨_, [.int .i64 b], rfl, rfl, rfl, _, [], rfl, rfl, rfl, rfl⟩
theorem slice_two {A : Nat} {x y : AV} (o : h.own A [x, y]) : sliceA E h 60 (.ptr (some (A, 0))) none none = some (.slice (some (A, 0)) 2 2 1) := by
  unfold sliceA
  rw [u60]
  simp only [sliceArr, z3, own_row o]
  rfl
theorem known_loop (hN : 1000001 ≤ N) {A : Nat} {m : MiV} {s : SL} {xs : List D} (hl : xs.length ≤ 1000000) (ht : ∀ o ∈ xs, isPr o) : ∀ (M i : Nat) (h : Heap), h.own A (mic m) → Sl h V s xs → i ≤ xs.length → xs.length - i < M → ∃ h', Chg [] h h' ∧
    (((xs.drop i).all (pairB m.2.1) = true ∧ f20_l1 N M (some (A, 0)) false s (xs.length : Int) (i : Int) h = some (.exit 0, (some (A, 0), false, ()), h')) ∨
    ((xs.drop i).all (pairB m.2.1) = false ∧ f20_l1 N M (some (A, 0)) false s (xs.length : Int) (i : Int) h = some (.ret, (some (A, 0), false, ()), h'))) := by
  intro M
  induction M with
  | zero => intro i h _ _ _ h; omega
  | succ M ih =>
    intro i h o x hi hM
    rw [f20_l1_succ]
    unfold f20_l1_b
    simp only [lt_nat']
    by_cases w : i < xs.length
    · simp only [w, decide_true, cond_true]
      have hp := ht _ (List.getElem_mem w)
      obtain ⟨r, hr, d⟩ := recPr.elt x w hp
      rw [x.ix w 2, hr, recPr.agg]
      obtain ⟨a, b, hab⟩ := hp
      rw [hab] at d
      obtain rfl := recPr.inj (inv_pr d)
      obtain ⟨H, p, c, o1⟩ := recPr.park (z := [(.int .i64 0), (.int .i64 0)]) rfl h (a, b, ())
      have p' : ∀ {β : Type} (K : Heap → Option β), need ((h.push (.row [(.int .i64 0), (.int .i64 0)] .own)).store (h.next, 0) [(.int .i64 a), (.int .i64 b)]) K = K H := p
      rw [p']
      have o := o.chg c (by simp)
      have x := x.chg c (by simp)
      have a1 : H.cell (A, 1) = some (.int .i64 m.2.1) := o.cell 1
      rw [slice_two o1]
      simp only [bindV_some, cast_slice, need_some, Nat.zero_add, a1, cast_int]
      obtain ⟨H1, e, c1⟩ := f35_eq (N := N) m.2.1 (own_two o1) (by simp) hN
      rw [e, bind2_some, List.drop_eq_getElem_cons w, List.all_cons]
      have o := o.chg c1 (by simp)
      have x := x.chg c1 (by simp)
      have e2 : ([a, b].map D.i).all (wiD m.2.1) = pairB m.2.1 xs[i] := by
        rw [hab]
        simp only [List.map_cons, List.map_nil, List.all_cons, List.all_nil, Bool.and_true]
        rfl
      rw [e2]
      cases hw : pairB m.2.1 xs[i] with
      | true =>
        rw [Bool.true_and]
        simp only [Bool.not_true, cond_false]
        rw [wrap_succ (by omega)]
        obtain ⟨h', c', d'⟩ := ih (i + 1) H1 o x w (by omega)
        exact ⟨h', (c.trans c1).trans c', d'⟩
      | false =>
        rw [Bool.false_and]
        exact ⟨H1, c.trans c1, .inr ⟨rfl, rfl⟩⟩
    · rw [List.drop_eq_nil_of_le (by omega)]
      have z : decide (i < xs.length) = false := decide_eq_false w
      rw [z]
      exact ⟨h, Chg.refl _ _, .inl ⟨rfl, rfl⟩⟩
abbrev rowL (x : LoV) : List AV := [(.str x.1), (.int .i64 x.2.1), (.str x.2.2.1), (.slice x.2.2.2.1.a x.2.2.2.1.len x.2.2.2.1.cap x.2.2.2.1.sz), (.slice x.2.2.2.2.1.a x.2.2.2.2.1.len x.2.2.2.2.1.cap x.2.2.2.2.1.sz), (.bool x.2.2.2.2.2.1)]
abbrev zeroL : List AV := [(.str []), (.int .i64 0), (.str []), (.slice none 0 0 0), (.slice none 0 0 0), (.bool false)]
theorem locals_loop (hN : 1000001 ≤ N) {A : Nat} {m : MiV} {s : SL} {xs : List D} (hl : xs.length ≤ 1000000) (ht : ∀ o ∈ xs, isLo o) : ∀ (M i : Nat) (h : Heap), h.own A (mic m) → Sl h V s xs → i ≤ xs.length → xs.length - i < M → ∃ h', Chg [] h h' ∧
    (((xs.drop i).all (locB m.2.2.1) = true ∧ f20_l2 N M (some (A, 0)) false s (xs.length : Int) (i : Int) h = some (.exit 2, (some (A, 0), false, ()), h')) ∨
    ((xs.drop i).all (locB m.2.2.1) = false ∧ f20_l2 N M (some (A, 0)) false s (xs.length : Int) (i : Int) h = some (.ret, (some (A, 0), false, ()), h'))) := by
  intro M
  induction M with
  | zero => intro i h _ _ _ h; omega
  | succ M ih =>
    intro i h o x hi hM
    rw [f20_l2_succ]
    unfold f20_l2_b
    simp only [lt_nat']
    by_cases w : i < xs.length
    · simp only [w, decide_true, cond_true]
      have hp := ht _ (List.getElem_mem w)
      obtain ⟨r, hr, d⟩ := recLo.elt x w hp
      rw [x.ix w 6, hr, recLo.agg]
      obtain ⟨nm, ty, pm, hab, tt⟩ := hp
      rw [hab] at d
      obtain ⟨rt, hc, dt⟩ := inv_lo tt d
      obtain rfl := recLo.inj hc
      obtain ⟨H, p, c, o1⟩ := recLo.park (z := zeroL) rfl h (nm, rt.1, rt.2.1, rt.2.2.1, rt.2.2.2.1, pm, ())
      have p' : ∀ {β : Type} (K : Heap → Option β), need ((h.push (.row zeroL .own)).store (h.next, 0) (rowL (nm, rt.1, rt.2.1, rt.2.2.1, rt.2.2.2.1, pm, ()))) K = K H := p
      rw [p']
      have o := o.chg c (by simp)
      have x := x.chg c (by simp)
      have dt := Dt.chg c (by simp) dt
      have a2 : H.cell (A, 2) = some (.int .i64 m.2.2.1) := o.cell 2
      have at_ : H.cells (h.next, 1) 4 = some (.agg (tyc rt)) := o1.cells (j := 1) (m := 4) (show 1 + 4 ≤ 6 by decide)
      simp only [Nat.zero_add, at_, (recTy 67).agg, need_some, a2, bindV_some, cast_int]
      obtain ⟨H1, e, c1⟩ := f36_eq hN m.2.2.1 64 N 67 ty H rt V (by omega) (by omega) tt dt
      have e' : f36 N N (rt.1, rt.2.1, rt.2.2.1, rt.2.2.2.1, ()) m.2.2.1 1 H = some (tyB m.2.2.1 64 ty, H1) := e
      rw [e', bind2_some, List.drop_eq_getElem_cons w, List.all_cons]
      have o := o.chg c1 (by simp)
      have x := x.chg c1 (by simp)
      have e2 : tyB m.2.2.1 64 ty = locB m.2.2.1 xs[i] := by rw [hab]; rfl
      rw [e2]
      cases hw : locB m.2.2.1 xs[i] with
      | true =>
        rw [Bool.true_and]
        simp only [Bool.not_true, cond_false]
        rw [wrap_succ (by omega)]
        obtain ⟨h', c', d'⟩ := ih (i + 1) H1 o x w (by omega)
        exact ⟨h', (c.trans c1).trans c', d'⟩
      | false =>
        rw [Bool.false_and]
        exact ⟨H1, c.trans c1, .inr ⟨rfl, rfl⟩⟩
    · rw [List.drop_eq_nil_of_le (by omega)]
      have z : decide (i < xs.length) = false := decide_eq_false w
      rw [z]
      exact ⟨h, Chg.refl _ _, .inl ⟨rfl, rfl⟩⟩
theorem wi_len (n : Nat) (hn : n ≤ 4000000) : wi (wrapA .i64 ((n : Int) - 1)) 6000 = decide (1 ≤ n ∧ n ≤ 6000) := by
  rw [wrapA_small (by omega) (by omega)]
  unfold wi
  rw [← Bool.decide_and]
  congr 1
  exact propext ⟨fun h => by omega, fun h => by omega⟩
/-- what a point's table may be -/
structure isMi (kn lo co : List D) : Prop where
  p1 : ∀ d ∈ kn, isPr d
  p2 : ∀ d ∈ lo, isLo d
  p3 : ∀ d ∈ co, isIn d
  l1 : kn.length ≤ 1000000
  l2 : lo.length ≤ 1000000
  l3 : co.length ≤ 1000000
theorem f20_eq (hN : 1000001 ≤ N) {a f r : Int} {kn lo co : List D} (t : isMi kn lo co) {m : MiV} (x : Dt h V (miD a f r kn lo co) (mic m)) : ∃ h', f20 N m h = some (miB (miD a f r kn lo co), h') ∧ Chg [] h h' := by
  obtain ⟨s1, s2, s3, hc, x1, x2, x3⟩ := inv_mi x
  have hm : m = (a, f, r, s1, s2, s3, ()) := by
    have h1 := aggM m (fun x => some x)
    rw [hc, aggM] at h1
    exact (Option.some.inj h1).symm
  unfold f20
  have o := own_push h (mic m)
  have c := chg_push h (.row (mic m) .own)
  have e1 : h.push (.row [(.int .i64 m.1), (.int .i64 m.2.1), (.int .i64 m.2.2.1), (.slice m.2.2.2.1.a m.2.2.2.1.len m.2.2.2.1.cap m.2.2.2.1.sz), (.slice m.2.2.2.2.1.a m.2.2.2.2.1.len m.2.2.2.2.1.cap m.2.2.2.2.1.sz), (.slice m.2.2.2.2.2.1.a m.2.2.2.2.2.1.len m.2.2.2.2.2.1.cap m.2.2.2.2.2.1.sz)] .own) = h.push (.row (mic m) .own) := rfl
  dsimp only
  rw [e1]
  have x1 := x1.chg c (by simp)
  have x2 := x2.chg c (by simp)
  have x3 := x3.chg c (by simp)
  generalize h.push (.row (mic m) .own) = H at *
  subst hm
  have a1 : H.cell (h.next, 1) = some (.int .i64 f) := o.cell 1
  have a2 : H.cell (h.next, 2) = some (.int .i64 r) := o.cell 2
  have a4 : H.cell (h.next, 4) = some (.slice s2.a s2.len s2.cap s2.sz) := o.cell 4
  have a5 : H.cell (h.next, 5) = some (.slice s3.a s3.len s3.cap s3.sz) := o.cell 5
  have a3 : H.cell (h.next, 3) = some (.slice s1.a s1.len s1.cap s1.sz) := o.cell 3
  have i2 : ∀ n : Nat, Int.ofNat n = (n : Int) := fun _ => rfl
  have y2 := t.l2
  have y3 := t.l3
  simp only [Nat.zero_add, a1, a2, a4, a5, a3, bindV_some, cast_int, cast_slice, f34_eq, bind2_some, x2.len, x3.len, x1.len, i2, wi_len _ (Nat.le_trans y2 (by decide)), wi_len _ (Nat.le_trans y3 (by decide)), ltI]
  simp only [miD, miB]
  by_cases h1 : 0 ≤ f
  case neg =>
    have q1 : decide (f < 0) = true := decide_eq_true (by omega)
    have q2 : decide (0 ≤ f) = false := decide_eq_false h1
    simp only [q1, q2, cond_true, Bool.false_and]
    exact ⟨H, rfl, c⟩
  have q1 : decide (f < 0) = false := decide_eq_false (by omega)
  have q1' : decide (0 ≤ f) = true := decide_eq_true h1
  simp only [q1, q1', cond_false, Bool.true_and]
  by_cases h2 : f ≤ r
  case neg =>
    have q1 : decide (r < f) = true := decide_eq_true (by omega)
    have q2 : decide (f ≤ r) = false := decide_eq_false h2
    simp only [q1, q2, cond_true, Bool.false_and]
    exact ⟨H, rfl, c⟩
  have q2 : decide (r < f) = false := decide_eq_false (by omega)
  have q2' : decide (f ≤ r) = true := decide_eq_true h2
  simp only [q2, q2', cond_false, Bool.true_and]
  by_cases h3 : r ≤ 1048576
  case neg =>
    have q1 : decide (1048576 < r) = true := decide_eq_true (by omega)
    have q2 : decide (r ≤ 1048576) = false := decide_eq_false h3
    simp only [q1, q2, cond_true, Bool.false_and]
    exact ⟨H, rfl, c⟩
  have q3 : decide (1048576 < r) = false := decide_eq_false (by omega)
  have q3' : decide (r ≤ 1048576) = true := decide_eq_true h3
  simp only [q3, q3', cond_false, Bool.true_and]
  cases h4 : decide (1 ≤ lo.length ∧ lo.length ≤ 6000) with
  | false => exact ⟨H, by simp, c⟩
  | true =>
    simp only [Bool.not_true, cond_false, Bool.true_and]
    cases h5 : decide (1 ≤ co.length ∧ co.length ≤ 6000) with
    | false => exact ⟨H, by simp, c⟩
    | true =>
      simp only [Bool.not_true, cond_false, Bool.true_and]
      obtain ⟨H1, c1, d1⟩ := known_loop hN t.l1 t.p1 N 0 H o x1 (Nat.zero_le _) (by have := t.l1; omega)
      rw [List.drop_zero, show ((0 : Nat) : Int) = 0 from rfl] at d1
      have c01 := c.trans c1
      rcases d1 with ⟨k1, e⟩ | ⟨k1, e⟩
      case inr =>
        have e' : f20_l1 N N (some (h.next, 0)) false ⟨s1.a, kn.length, s1.cap, s1.sz⟩ (kn.length : Int) 0 H = some (.ret, (some (h.next, 0), false, ()), H1) := by rw [← e, ← x1.len]
        rw [e', show kn.all (pairB f) = false from k1]
        exact ⟨H1, by simp [bind3_some, show eqOut .ret (.exit 0) = false from rfl], c01⟩
      have e' : f20_l1 N N (some (h.next, 0)) false ⟨s1.a, kn.length, s1.cap, s1.sz⟩ (kn.length : Int) 0 H = some (.exit 0, (some (h.next, 0), false, ()), H1) := by rw [← e, ← x1.len]
      rw [e', show kn.all (pairB f) = true from k1]
      have o1 := o.chg c1 (by simp)
      have b4 : H1.cell (h.next, 4) = some (.slice s2.a s2.len s2.cap s2.sz) := o1.cell 4
      simp only [bind3_some, eqOut_exit, decide_true, cond_true, need_some, b4, bindV_some, cast_slice, x2.len, i2, Bool.true_and]
      obtain ⟨H2, c2, d2⟩ := locals_loop hN t.l2 t.p2 N 0 H1 o1 (x2.chg c1 (by simp)) (Nat.zero_le _) (by omega)
      rw [List.drop_zero, show ((0 : Nat) : Int) = 0 from rfl] at d2
      have c02 := c01.trans c2
      rcases d2 with ⟨k2, e⟩ | ⟨k2, e⟩
      case inr =>
        have e' : f20_l2 N N (some (h.next, 0)) false ⟨s2.a, lo.length, s2.cap, s2.sz⟩ (lo.length : Int) 0 H1 = some (.ret, (some (h.next, 0), false, ()), H2) := by rw [← e, ← x2.len]
        rw [e', show lo.all (locB r) = false from k2]
        exact ⟨H2, by simp [bind3_some, show eqOut .ret (.exit 2) = false from rfl], c02⟩
      have e' : f20_l2 N N (some (h.next, 0)) false ⟨s2.a, lo.length, s2.cap, s2.sz⟩ (lo.length : Int) 0 H1 = some (.exit 2, (some (h.next, 0), false, ()), H2) := by rw [← e, ← x2.len]
      rw [e', show lo.all (locB r) = true from k2]
      have o2 := o1.chg c2 (by simp)
      have b5 : H2.cell (h.next, 5) = some (.slice s3.a s3.len s3.cap s3.sz) := o2.cell 5
      simp only [bind3_some, eqOut_exit, decide_true, cond_true, need_some, b5, bindV_some, cast_slice, Bool.true_and]
      obtain ⟨H3, e, c3⟩ := f37_eq t.l3 t.p3 o2 ((x3.chg c1 (by simp)).chg c2 (by simp)) hN
      have e' : f37c38 N ⟨s3.a, s3.len, s3.cap, s3.sz⟩ (some (h.next, 0), ()) H2 = some (!co.all (inB s2.len r s3.len), H3) := e
      rw [e', bind2_some, Bool.not_not, x2.len, x3.len]
      exact ⟨H3, rfl, c02.trans c3⟩
end
end Go.Proofs.YtjeaammlambkeaaDoor.My

set_option linter.unusedVariables false
set_option linter.unusedSimpArgs false
open Go Go.Proofs.YtjeaammlambkeaaDoor.Ai Go.Proofs
namespace Go.Proofs.YtjeaammlambkeaaDoor.My
/-! ref16.May: types -/
section
variable {N : Nat} {h : Heap} {V : Nat → Prop}
theorem typ_loop {rec30} {A : Nat} {k : Int} {nm : Bs} {s s2 : SL} {xs : List Int} (R d : Int) (o : h.own A (tyc (k, nm, s, s2, ()))) (x : Sl h V s (xs.map D.i)) (hl : xs.length ≤ 1000000) : ∀ (M i : Nat), i ≤ xs.length → xs.length - i < M →
    (((xs.drop i).all fun a => wi a R) = true ∧ f30_l1 N rec30 M R d (some (A, 0)) false (i : Int) h = some (.exit 0, (R, d, some (A, 0), false, ()), h)) ∨
    (((xs.drop i).all fun a => wi a R) = false ∧ f30_l1 N rec30 M R d (some (A, 0)) false (i : Int) h = some (.ret, (R, d, some (A, 0), false, ()), h)) := by
  intro M
  have a2 : h.cell (A, 2) = some (.slice s.a s.len s.cap s.sz) := o.cell 2
  have ln : s.len = xs.length := by rw [x.len, List.length_map]
  induction M with
  | zero => intro i _ h; omega
  | succ M ih =>
    intro i hi hM
    rw [f30_l1_succ]
    unfold f30_l1_b
    simp only [need_some, Nat.zero_add, a2, bindV_some, cast_slice, lt_nat, ln]
    by_cases w : i < xs.length
    · simp only [w, decide_true, cond_true]
      have w' : i < (xs.map D.i).length := by rw [List.length_map]; exact w
      have hix : ∀ {β : Type} (K : Nat × Nat → Option β), ixK s.a xs.length (i : Int) 1 K = K (s.at i 1) := fun K => by
        have := x.ix w' 1 K
        rwa [ln] at this
      rw [hix, sl_int x w]
      simp only [bindV_some, cast_int, ltI]
      rw [List.drop_eq_getElem_cons w, List.all_cons]
      unfold wi
      by_cases h1 : 0 ≤ xs[i]
      case neg =>
        have q1 : decide (xs[i] < 0) = true := decide_eq_true (by omega)
        have q2 : decide (0 ≤ xs[i]) = false := decide_eq_false h1
        simp only [q1, q2, cond_true, Bool.false_and]
        exact .inr ⟨trivial, trivial⟩
      have q1 : decide (xs[i] < 0) = false := decide_eq_false (by omega)
      have q1' : decide (0 ≤ xs[i]) = true := decide_eq_true h1
      simp only [q1, q1', cond_false, Bool.true_and, hix, sl_int x w, bindV_some, cast_int, leI]
      by_cases h2 : xs[i] < R
      case neg =>
        have q1 : decide (R ≤ xs[i]) = true := decide_eq_true (by omega)
        have q2 : decide (xs[i] < R) = false := decide_eq_false h2
        simp only [q1, q2, cond_true, Bool.false_and]
        exact .inr ⟨trivial, trivial⟩
      have q2 : decide (R ≤ xs[i]) = false := decide_eq_false (by omega)
      have q2' : decide (xs[i] < R) = true := decide_eq_true h2
      simp only [q2, q2', cond_false, Bool.true_and]
      rw [wrap_succ (by omega)]
      exact ih (i + 1) w (by omega)
    · rw [List.drop_eq_nil_of_le (by omega)]
      have z : decide (i < xs.length) = false := decide_eq_false w
      rw [z]
      exact .inl ⟨rfl, rfl⟩
theorem f30_eq (hN : 1000001 ≤ N) (R : Int) : ∀ (g M m : Nat) (d : D) (h : Heap) (r : TyV) (V : Nat → Prop), g + 1 ≤ M → g ≤ 64 → isRt m d → Dt h V d (tyc r) → ∃ h', f30 N M r R ((65 - g : Nat) : Int) h = some (tyB R g d, h') ∧ Chg [] h h' := by
  intro g
  induction g with
  | zero =>
    intro M m d h r V hM _ t x
    obtain ⟨M, rfl⟩ : ∃ m, M = m + 1 := ⟨M - 1, by omega⟩
    rw [f30_succ]
    unfold f30_r
    have z : ltInt 64 ((65 - 0 : Nat) : Int) = true := rfl
    simp only [z, cond_true, tyB]
    exact ⟨_, rfl, chg_push _ _⟩
  | succ g ih =>
    intro M m d h r V hM hg t x
    obtain ⟨M, rfl⟩ : ∃ m, M = m + 1 := ⟨M - 1, by omega⟩
    obtain ⟨m, rfl⟩ : ∃ n, m = n + 1 := by
      cases m with
      | zero => cases t
      | succ m => exact ⟨m, rfl⟩
    obtain ⟨k, nm, rs, el, rfl, hrs, hel, tel⟩ := t
    obtain ⟨s1, s2, hc, y1, y2⟩ := inv_rt x
    obtain rfl := (recTy 1).inj hc
    rw [f30_succ]
    unfold f30_r
    have o := own_push h (tyc (k, nm, s1, s2, ()))
    have c := chg_push h (.row (tyc (k, nm, s1, s2, ())) .own)
    have e1 : h.push (.row [(.int .i64 k), (.str nm), (.slice s1.a s1.len s1.cap s1.sz), (.slice s2.a s2.len s2.cap s2.sz)] .own) = h.push (.row (tyc (k, nm, s1, s2, ())) .own) := rfl
    dsimp only
    rw [e1]
    have y1 := y1.chg c (by simp)
    have y2 := y2.chg c (by simp)
    generalize h.push (.row (tyc (k, nm, s1, s2, ())) .own) = H at *
    have z : ltInt 64 ((65 - (g + 1) : Nat) : Int) = false := by rw [ltI, decide_eq_false_iff_not]; omega
    have a2 : H.cell (h.next, 2) = some (.slice s1.a s1.len s1.cap s1.sz) := o.cell 2
    simp only [z, cond_false, Nat.zero_add, a2, bindV_some, cast_slice]
    have l1 : s1.len = rs.length := by rw [y1.len, List.length_map]
    have l2 : s2.len = el.length := y2.len
    have LL := typ_loop (N := N) (rec30 := f30 N M) R ((65 - (g + 1) : Nat) : Int) o y1 (by omega) N 0 (Nat.zero_le _) (by omega)
    rw [List.drop_zero, show ((0 : Nat) : Int) = 0 from rfl] at LL
    rw [tyB_all, all_ints]
    rcases LL with ⟨hall, e⟩ | ⟨hall, e⟩
    case inr =>
      rw [e, hall]
      exact ⟨H, by simp [bind3_some, show eqOut .ret (.exit 0) = false from rfl], c⟩
    · rw [e, hall]
      simp only [bind3_some, eqOut_exit, decide_true, cond_true, need_some]
      have o1 := o
      have c01 := c
      have y2 := y2
      have b0 : H.cell (h.next, 0) = some (.int .i64 k) := o1.cell 0
      have b2 : H.cell (h.next, 2) = some (.slice s1.a s1.len s1.cap s1.sz) := o1.cell 2
      have b3 : H.cell (h.next, 3) = some (.slice s2.a s2.len s2.cap s2.sz) := o1.cell 3
      have q1 : ∀ n : Nat, eqInt (Int.ofNat n) 1 = decide (n = 1) := fun n => lenI n 1
      have q0 : ∀ n : Nat, eqInt (Int.ofNat n) 0 = decide (n = 0) := fun n => lenI n 0
      have ew : wrapA .i64 (((65 - (g + 1) : Nat) : Int) + 1) = ((65 - g : Nat) : Int) := by
        rw [wrap_succ (by omega), show 65 - (g + 1) + 1 = 65 - g by omega]
      simp only [b0, b2, b3, bindV_some, cast_int, cast_slice, Bool.true_and, q1, q0, ltI, ew]
      have emp : ∃ h', some (decide (s2.len = 0), H) = some (el.isEmpty, h') ∧ Chg [] h h' := by
        rw [l2]
        refine ⟨H, ?_, c⟩
        cases el <;> rfl
      -- a reference
      have ref : ∃ h', (bif decide (s2.len = 1) then (bif decide (s1.len = 1) then (ixK s2.a s2.len 0 4 fun q25 => (bindV (.val (.agg [(.int .i64), .str, .slice, .slice])) (H.cells q25 4) fun x26 => (bind2 (f30 N M (x26.1, x26.2.1, x26.2.2.1, x26.2.2.2.1, ()) R ((65 - g : Nat) : Int) H) fun x28 h29 => some (x28, h29)))) else some (false, H)) else some (false, H)) = some (decide (rs.length = 1) && (match el with | [e] => tyB R g e | _ => false), h') ∧ Chg [] h h' := by
        by_cases w2 : el.length = 1
        · obtain ⟨e, rfl⟩ := len1 w2
          have l2' : s2.len = 1 := l2
          simp only [l2', decide_true, cond_true, l1]
          by_cases w1 : rs.length = 1
          · simp only [w1, decide_true, cond_true, Bool.true_and]
            have hi : 0 < [e].length := by simp
            have hix : ∀ {β : Type} (K : Nat × Nat → Option β), ixK s2.a 1 ((0 : Nat) : Int) 4 K = K (s2.at 0 4) := fun K => by
              have := y2.ix hi 4 K
              rwa [l2'] at this
            rw [show (0 : Int) = ((0 : Nat) : Int) from rfl, hix]
            obtain ⟨r1, hr1, d1⟩ := (recTy m).elt y2 hi (tel e (by simp))
            rw [hr1, (recTy m).agg]
            obtain ⟨H2, e2, c2⟩ := ih M m e H r1 V (by omega) (by omega) (tel e (by simp)) d1
            have e2' : f30 N M (r1.1, r1.2.1, r1.2.2.1, r1.2.2.2.1, ()) R ((65 - g : Nat) : Int) H = some (tyB R g e, H2) := e2
            rw [e2', bind2_some]
            exact ⟨H2, rfl, c.trans c2⟩
          · simp only [w1, decide_false, cond_false, Bool.false_and]
            exact ⟨H, rfl, c⟩
        · have : ¬ s2.len = 1 := by rw [l2]; exact w2
          simp only [this, decide_false, cond_false]
          refine ⟨H, ?_, c⟩
          match el, w2 with
          | [], _ => simp
          | [a], w2 => exact absurd rfl w2
          | a :: b :: r, _ => simp
      by_cases k0 : 0 ≤ k
      case neg =>
        have p1 : decide (k < 0) = true := decide_eq_true (by omega)
        have p2 : decide (0 ≤ k ∧ k ≤ 3) = false := decide_eq_false (by omega)
        have hif : (k = 4 ∨ k = 5) = False := eq_false (by omega)
        simp only [p1, p2, cond_true, hif, if_false, Bool.false_and]
        exact ⟨H, rfl, c⟩
      have p1 : decide (k < 0) = false := decide_eq_false (by omega)
      simp only [p1, cond_false]
      by_cases k5 : k ≤ 5
      case neg =>
        have p1 : decide (5 < k) = true := decide_eq_true (by omega)
        have p2 : decide (0 ≤ k ∧ k ≤ 3) = false := decide_eq_false (by omega)
        have hif : (k = 4 ∨ k = 5) = False := eq_false (by omega)
        simp only [p1, p2, cond_true, hif, if_false, Bool.false_and]
        exact ⟨H, rfl, c⟩
      have p2 : decide (5 < k) = false := decide_eq_false (by omega)
      simp only [p2, cond_false]
      by_cases k4 : k = 4
      · have z4 : eqInt k 4 = true := by rw [k4]; rfl
        have hif : (k = 4 ∨ k = 5) = True := eq_true (.inl k4)
        simp only [z4, cond_true, hif, if_true]
        exact ref
      have z4 : eqInt k 4 = false := by rw [eqI, decide_eq_false k4]
      by_cases k5 : k = 5
      · have z5 : eqInt k 5 = true := by rw [k5]; rfl
        have hif : (k = 4 ∨ k = 5) = True := eq_true (.inr k5)
        simp only [z4, z5, cond_true, cond_false, hif, if_true]
        exact ref
      have z5 : eqInt k 5 = false := by rw [eqI, decide_eq_false k5]
      have hif : (k = 4 ∨ k = 5) = False := eq_false (fun h => h.elim k4 k5)
      have hd : decide (0 ≤ k ∧ k ≤ 3) = true := decide_eq_true (by omega)
      simp only [z4, z5, cond_false, hif, if_false, hd, Bool.true_and]
      exact emp
end
end Go.Proofs.YtjeaammlambkeaaDoor.My

set_option linter.unusedVariables false
set_option linter.unusedSimpArgs false
set_option maxRecDepth 100000
open Go Go.Proofs.YtjeaammlambkeaaDoor.Ai Go.Proofs
namespace Go.Proofs.YtjeaammlambkeaaDoor.My
/-! ref16.May: operands, values -/
section
variable {N : Nat} {h : Heap} {V : Nat → Prop}
theorem own_sl {A n : Nat} {cs : List AV} {xs : List D} (o : h.own A cs) (hv : V A) (d : De h V n xs cs) : Sl h V ⟨some (A, 0), xs.length, xs.length, n⟩ xs := by
  refine ⟨rfl, Nat.le_refl _, fun C hC => ?_, cs, ⟨d.length, (fun h => by cases h), fun A' off e => ?_⟩, d⟩
  · simp [SL.blk] at hC; subst hC; exact hv
  · cases e
    exact ⟨o.2, _, by rw [o.1]; rfl, by rw [List.drop_zero, List.take_length]⟩
theorem f33_eq (k n l : Int) (s : SL) (h : Heap) : ∃ h', f33 N (k, n, l, s, ()) h = some (decide (k = 3 ∨ k = 4), h') ∧ Chg [] h h' := by
  unfold f33
  have o := own_push h [(.int .i64 k), (.int .i64 n), (.int .i64 l), (.slice s.a s.len s.cap s.sz)]
  have c := chg_push h (.row [(.int .i64 k), (.int .i64 n), (.int .i64 l), (.slice s.a s.len s.cap s.sz)] .own)
  dsimp only
  generalize h.push (.row [(.int .i64 k), (.int .i64 n), (.int .i64 l), (.slice s.a s.len s.cap s.sz)] .own) = H at *
  have a0 : H.cell (h.next, 0) = some (.int .i64 k) := o.cell 0
  simp only [Nat.zero_add, Nat.add_zero, a0, bindV_some, cast_int, eqI]
  refine ⟨H, ?_, c⟩
  by_cases k3 : k = 3
  · subst k3; rfl
  · simp only [k3, decide_false, cond_false, false_or]
theorem f32_eq (l : Int) (s : SL) (m : MiV) (h : Heap) : ∃ h', f32 N (l, s, ()) m h = some (wi l m.2.2.2.2.1.len, h') ∧ Chg [] h h' := by
  unfold f32
  have o := own_push h [(.int .i64 l), (.slice s.a s.len s.cap s.sz)]
  have c := chg_push h (.row [(.int .i64 l), (.slice s.a s.len s.cap s.sz)] .own)
  dsimp only
  generalize h.push (.row [(.int .i64 l), (.slice s.a s.len s.cap s.sz)] .own) = h1 at *
  have o2 := own_push h1 (mic m)
  have c2 := chg_push h1 (.row (mic m) .own)
  have e1 : h1.push (.row [(.int .i64 m.1), (.int .i64 m.2.1), (.int .i64 m.2.2.1), (.slice m.2.2.2.1.a m.2.2.2.1.len m.2.2.2.1.cap m.2.2.2.1.sz), (.slice m.2.2.2.2.1.a m.2.2.2.2.1.len m.2.2.2.2.1.cap m.2.2.2.2.1.sz), (.slice m.2.2.2.2.2.1.a m.2.2.2.2.2.1.len m.2.2.2.2.2.1.cap m.2.2.2.2.2.1.sz)] .own) = h1.push (.row (mic m) .own) := rfl
  rw [e1]
  have o := o.chg c2 (by simp)
  generalize h1.push (.row (mic m) .own) = H at *
  have a0 : H.cell (h.next, 0) = some (.int .i64 l) := o.cell 0
  have a4 : H.cell (h1.next, 4) = some (.slice m.2.2.2.2.1.a m.2.2.2.2.1.len m.2.2.2.2.1.cap m.2.2.2.2.1.sz) := o2.cell 4
  simp only [Nat.zero_add, Nat.add_zero, a0, a4, bindV_some, cast_int, cast_slice, leI, ltI]
  refine ⟨H, ?_, c.trans c2⟩
  unfold wi
  cases decide (0 ≤ l) <;> rfl
def opsD (k : Int) (a b : D) (ag : List D) : List D := if k = 1 ∨ k = 4 then [a] else if k = 5 then [a, b] else if k = 6 ∨ k = 7 then ag else []
abbrev AllV : Nat → Prop := fun _ => True
theorem opc_len (r : OpV) : (opc r).length = 4 := rfl
theorem f51_eq {k op : Int} {a b : D} {ra rb : OpV} {p : PaV} {rg : Int} {nm : Bs} {s1 s2 : SL} {ag : List D} (xa : Dt h V a (opc ra)) (xb : Dt h V b (opc rb)) (y : Sl h V s2 ag) {r : VaV} (hr : r = vaOf k ra rb op p rg nm s1 s2) : ∃ s h', f51 N r h = some (s, h') ∧ Chg [] h h' ∧ Sl h' AllV s (opsD k a b ag) := by
  unfold f51
  have o := own_push h (vac r)
  have c := chg_push h (.row (vac r) .own)
  have e1 : h.push (.row (rowV r) .own) = h.push (.row (vac r) .own) := rfl
  dsimp only
  rw [e1]
  have y := y.chg c (by simp)
  have xa := Dt.chg c (by simp) xa
  have xb := Dt.chg c (by simp) xb
  generalize h.push (.row (vac r) .own) = H at *
  subst hr
  have a0 : H.cell (h.next, 0) = some (.int .i64 k) := o.cell 0
  have a15 : H.cell (h.next, 15) = some (.slice s2.a s2.len s2.cap s2.sz) := o.cell 15
  have aa : H.cells (h.next, 1) 4 = some (.agg (opc ra)) := o.cells (j := 1) (m := 4) (show 1 + 4 ≤ 16 by decide)
  have ab : H.cells (h.next, 5) 4 = some (.agg (opc rb)) := o.cells (j := 5) (m := 4) (show 5 + 4 ≤ 16 by decide)
  simp only [Nat.zero_add, Nat.add_zero, a0, bindV_some, cast_int]
  have one : ∃ s h', some ((⟨some (H.next, 0), 1, 1, 4⟩ : SL), H.push (.row [(.int .i64 ra.1), (.int .i64 ra.2.1), (.int .i64 ra.2.2.1), (.slice ra.2.2.2.1.a ra.2.2.2.1.len ra.2.2.2.1.cap ra.2.2.2.1.sz)] .own)) = some (s, h') ∧ Chg [] h h' ∧ Sl h' AllV s [a] := by
    have o2 := own_push H (opc ra)
    have c2 := chg_push H (.row (opc ra) .own)
    refine ⟨_, _, rfl, c.trans c2, own_sl (n := 4) (xs := [a]) o2 trivial ?_⟩
    simp only [De]
    exact ⟨opc ra, [], by simp, opc_len ra, Dt.weak (fun _ _ _ => trivial) (Dt.chg c2 (by simp) xa), rfl⟩
  have z : ∀ c : Int, k ≠ c → eqInt k c = false := fun c h => by rw [eqI, decide_eq_false h]
  by_cases k1 : k = 1
  · subst k1
    simp only [show eqInt (1 : Int) 1 = true from rfl, show eqInt (1 : Int) 4 = false from rfl, show eqInt (1 : Int) 5 = false from rfl, show eqInt (1 : Int) 6 = false from rfl, show eqInt (1 : Int) 7 = false from rfl, cond_true, cond_false, bind2_some, need_some, Nat.zero_add, aa, recOp.agg]
    exact one
  by_cases k4 : k = 4
  · subst k4
    simp only [show eqInt (4 : Int) 1 = false from rfl, show eqInt (4 : Int) 4 = true from rfl, show eqInt (4 : Int) 5 = false from rfl, show eqInt (4 : Int) 6 = false from rfl, show eqInt (4 : Int) 7 = false from rfl, cond_true, cond_false, bind2_some, need_some, Nat.zero_add, aa, recOp.agg]
    exact one
  by_cases k5 : k = 5
  · subst k5
    simp only [show eqInt (5 : Int) 1 = false from rfl, show eqInt (5 : Int) 4 = false from rfl, show eqInt (5 : Int) 5 = true from rfl, show eqInt (5 : Int) 6 = false from rfl, show eqInt (5 : Int) 7 = false from rfl, cond_true, cond_false, bind2_some, need_some, Nat.zero_add, aa, ab, recOp.agg]
    have o2 := own_push H (opc ra ++ opc rb)
    have c2 := chg_push H (.row (opc ra ++ opc rb) .own)
    refine ⟨_, _, rfl, c.trans c2, own_sl (n := 4) (xs := [a, b]) o2 trivial ?_⟩
    simp only [De]
    exact ⟨opc ra, opc rb, rfl, opc_len ra, Dt.weak (fun _ _ _ => trivial) (Dt.chg c2 (by simp) xa), opc rb, [], by simp, opc_len rb, Dt.weak (fun _ _ _ => trivial) (Dt.chg c2 (by simp) xb), rfl⟩
  have yy : Sl H AllV s2 ag := y.weak (fun _ _ _ => trivial)
  by_cases k6 : k = 6
  · subst k6
    simp only [show eqInt (6 : Int) 1 = false from rfl, show eqInt (6 : Int) 4 = false from rfl, show eqInt (6 : Int) 5 = false from rfl, show eqInt (6 : Int) 6 = true from rfl, show eqInt (6 : Int) 7 = false from rfl, cond_true, cond_false, bind2_some, need_some, Nat.zero_add, a15, bindV_some, cast_slice]
    exact ⟨_, _, rfl, c, yy⟩
  by_cases k7 : k = 7
  · subst k7
    simp only [show eqInt (7 : Int) 1 = false from rfl, show eqInt (7 : Int) 4 = false from rfl, show eqInt (7 : Int) 5 = false from rfl, show eqInt (7 : Int) 6 = false from rfl, show eqInt (7 : Int) 7 = true from rfl, cond_true, cond_false, bind2_some, need_some, Nat.zero_add, a15, bindV_some, cast_slice]
    exact ⟨_, _, rfl, c, yy⟩
  simp only [z _ k1, z _ k4, z _ k5, z _ k6, z _ k7, cond_false, bind2_some]
  have e : opsD k a b ag = [] := by unfold opsD; simp only [k1, k4, k5, k6, k7, or_self, if_false]
  rw [e]
  exact ⟨_, _, rfl, c, Sl.nil _ _ _⟩
theorem opers_loop {B : Nat} {m : MiV} {v2 : Option (Nat × Nat)} {s : SL} {xs : List D} (hl : xs.length ≤ 1000000) (ht : ∀ o ∈ xs, isOp o) : ∀ (M i : Nat) (h : Heap), h.own B (mic m) → Sl h V s xs → i ≤ xs.length → xs.length - i < M → ∃ h', Chg [] h h' ∧
    (((xs.drop i).all (opB m.2.2.2.2.1.len) = true ∧ f31_l1 N M v2 (some (B, 0)) false s (i : Int) h = some (.exit 0, (v2, some (B, 0), false, ()), h')) ∨
    ((xs.drop i).all (opB m.2.2.2.2.1.len) = false ∧ f31_l1 N M v2 (some (B, 0)) false s (i : Int) h = some (.ret, (v2, some (B, 0), false, ()), h'))) := by
  intro M
  induction M with
  | zero => intro i h _ _ _ h; omega
  | succ M ih =>
    intro i h o x hi hM
    rw [f31_l1_succ]
    unfold f31_l1_b
    simp only [lt_nat, x.len]
    by_cases w : i < xs.length
    · simp only [w, decide_true, cond_true]
      have hp := ht _ (List.getElem_mem w)
      obtain ⟨r, el⟩ := recOp.el x w hp
      have hix : ∀ {β : Type} (K : Nat × Nat → Option β), ixK s.a xs.length (i : Int) 4 K = K (s.at i 4) := fun K => by
        have := x.ix w 4 K
        rwa [x.len] at this
      obtain ⟨k, n, p, hab, l, ss, rfl⟩ := hp
      have d := el.dt
      rw [hab] at d
      obtain ⟨rp, hc, y⟩ := inv_op ⟨l, ss, rfl⟩ d
      obtain rfl := recOp.inj hc
      obtain ⟨sp, hc', _⟩ := inv_pa y
      obtain rfl := recPa.inj hc'
      have b0 : h.cell ((s.at i 4).1, (s.at i 4).2) = some (.int .i64 k) := el.cell 0 (by omega)
      have bw : h.cells (s.at i 4) 4 = some (.agg (opc (k, n, l, sp, ()))) := el.whole
      simp only [hix, Nat.add_zero, b0, bw, bindV_some, cast_int, ltI, recOp.agg]
      rw [List.drop_eq_getElem_cons w, List.all_cons]
      have eop : opB m.2.2.2.2.1.len xs[i] = if k = 3 ∨ k = 4 then wi l m.2.2.2.2.1.len else decide (k = 1 ∨ k = 2) := by rw [hab]; rfl
      by_cases h1 : 1 ≤ k
      case neg =>
        have q1 : decide (k < 1) = true := decide_eq_true (by omega)
        have q2 : opB m.2.2.2.2.1.len xs[i] = false := by
          rw [eop, if_neg (by omega), decide_eq_false (by omega)]
        rw [q1, q2, Bool.false_and]
        exact ⟨h, Chg.refl _ _, .inr ⟨rfl, rfl⟩⟩
      have q1 : decide (k < 1) = false := decide_eq_false (by omega)
      rw [q1]
      simp only [cond_false]
      by_cases h2 : k ≤ 4
      case neg =>
        have q1 : decide (4 < k) = true := decide_eq_true (by omega)
        have q2 : opB m.2.2.2.2.1.len xs[i] = false := by
          rw [eop, if_neg (by omega), decide_eq_false (by omega)]
        rw [q1, q2, Bool.false_and]
        exact ⟨h, Chg.refl _ _, .inr ⟨rfl, rfl⟩⟩
      have q1 : decide (4 < k) = false := decide_eq_false (by omega)
      rw [q1]
      simp only [cond_false]
      obtain ⟨H, e, c⟩ := f33_eq (N := N) k n l sp h
      rw [e, bind2_some]
      have o' := o.chg c (by simp)
      have x' := x.chg c (by simp)
      by_cases h3 : k = 3 ∨ k = 4
      · have q3 : decide (k = 3 ∨ k = 4) = true := decide_eq_true h3
        rw [q3]
        obtain ⟨sq, b2⟩ : ∃ sq, H.cells ((s.at i 4).1, (s.at i 4).2 + 2) 2 = some (.agg (pac (l, sq, ()))) := by
          obtain ⟨r2, el2⟩ := recOp.el x' w ⟨k, n, _, hab, l, ss, rfl⟩
          have d2 := el2.dt
          rw [hab] at d2
          obtain ⟨rp2, hc2, y2⟩ := inv_op ⟨l, ss, rfl⟩ d2
          obtain rfl := recOp.inj hc2
          obtain ⟨sq, hc2', _⟩ := inv_pa y2
          obtain rfl := recPa.inj hc2'
          exact ⟨sq, el2.cells 2 2 (by omega)⟩
        simp only [cond_true, hix, b2, recPa.agg, need_some]
        have ow : H.cells (B, 0) 6 = some (.agg (mic m)) := o'.cells (j := 0) (m := 6) (show 0 + 6 ≤ 6 by decide)
        rw [ow, aggM]
        obtain ⟨H1, e1, c1⟩ := f32_eq (N := N) l sq m H
        have e1' : f32 N (l, sq, ()) (m.1, m.2.1, m.2.2.1, m.2.2.2.1, m.2.2.2.2.1, m.2.2.2.2.2.1, ()) H = some (wi l m.2.2.2.2.1.len, H1) := e1
        rw [e1', bind2_some, eop, if_pos h3]
        cases hw : wi l m.2.2.2.2.1.len with
        | true =>
          rw [Bool.true_and]
          simp only [Bool.not_true, cond_false]
          rw [wrap_succ (by omega)]
          obtain ⟨h', c', d'⟩ := ih (i + 1) H1 (o'.chg c1 (by simp)) (x'.chg c1 (by simp)) w (by omega)
          exact ⟨h', (c.trans c1).trans c', d'⟩
        | false =>
          rw [Bool.false_and]
          exact ⟨H1, c.trans c1, .inr ⟨rfl, rfl⟩⟩
      · have q3 : decide (k = 3 ∨ k = 4) = false := decide_eq_false h3
        have q4 : opB m.2.2.2.2.1.len xs[i] = true := by rw [eop, if_neg h3]; exact decide_eq_true (by omega)
        rw [q3, q4, Bool.true_and]
        simp only [cond_false]
        rw [wrap_succ (by omega)]
        obtain ⟨h', c', d'⟩ := ih (i + 1) H o' x' w (by omega)
        exact ⟨h', c.trans c', d'⟩
    · rw [List.drop_eq_nil_of_le (by omega)]
      have z : decide (i < xs.length) = false := decide_eq_false w
      rw [z]
      exact ⟨h, Chg.refl _ _, .inl ⟨rfl, rfl⟩⟩
theorem regs_loop {A B : Nat} {m : MiV} {r : VaV} {xs : List Int} (o : h.own A (vac r)) (ob : h.own B (mic m)) (x : Sl h V r.2.2.2.2.2.2.2.2.2.2.2.2.2.2.1 (xs.map D.i)) (hl : xs.length ≤ 1000000) : ∀ (M i : Nat), i ≤ xs.length → xs.length - i < M →
    (((xs.drop i).all fun a => wi a m.2.2.1) = true ∧ f31_l2 N M (some (A, 0)) (some (B, 0)) false (i : Int) h = some (.exit 3, (some (A, 0), false, ()), h)) ∨
    (((xs.drop i).all fun a => wi a m.2.2.1) = false ∧ f31_l2 N M (some (A, 0)) (some (B, 0)) false (i : Int) h = some (.ret, (some (A, 0), false, ()), h)) := by
  intro M
  generalize hs : r.2.2.2.2.2.2.2.2.2.2.2.2.2.2.1 = s at x
  have a2 : h.cell (A, 14) = some (.slice s.a s.len s.cap s.sz) := by rw [← hs]; exact o.cell 14
  have b2 : h.cell (B, 2) = some (.int .i64 m.2.2.1) := ob.cell 2
  have ln : s.len = xs.length := by rw [x.len, List.length_map]
  induction M with
  | zero => intro i _ h; omega
  | succ M ih =>
    intro i hi hM
    rw [f31_l2_succ]
    unfold f31_l2_b
    simp only [need_some, Nat.zero_add, a2, bindV_some, cast_slice, lt_nat, ln]
    by_cases w : i < xs.length
    · simp only [w, decide_true, cond_true]
      have w' : i < (xs.map D.i).length := by rw [List.length_map]; exact w
      have hix : ∀ {β : Type} (K : Nat × Nat → Option β), ixK s.a xs.length (i : Int) 1 K = K (s.at i 1) := fun K => by
        have := x.ix w' 1 K
        rwa [ln] at this
      rw [hix, sl_int x w]
      simp only [bindV_some, cast_int, ltI]
      rw [List.drop_eq_getElem_cons w, List.all_cons]
      unfold wi
      by_cases h1 : 0 ≤ xs[i]
      case neg =>
        have q1 : decide (xs[i] < 0) = true := decide_eq_true (by omega)
        have q2 : decide (0 ≤ xs[i]) = false := decide_eq_false h1
        simp only [q1, q2, cond_true, Bool.false_and]
        exact .inr ⟨trivial, trivial⟩
      have q1 : decide (xs[i] < 0) = false := decide_eq_false (by omega)
      have q1' : decide (0 ≤ xs[i]) = true := decide_eq_true h1
      simp only [q1, q1', cond_false, Bool.true_and, hix, sl_int x w, bindV_some, cast_int, leI, b2]
      by_cases h2 : xs[i] < m.2.2.1
      case neg =>
        have q1 : decide (m.2.2.1 ≤ xs[i]) = true := decide_eq_true (by omega)
        have q2 : decide (xs[i] < m.2.2.1) = false := decide_eq_false h2
        simp only [q1, q2, cond_true, Bool.false_and]
        exact .inr ⟨trivial, trivial⟩
      have q2 : decide (m.2.2.1 ≤ xs[i]) = false := decide_eq_false (by omega)
      have q2' : decide (xs[i] < m.2.2.1) = true := decide_eq_true h2
      simp only [q2, q2', cond_false, Bool.true_and]
      rw [wrap_succ (by omega)]
      exact ih (i + 1) w (by omega)
    · rw [List.drop_eq_nil_of_le (by omega)]
      have z : decide (i < xs.length) = false := decide_eq_false w
      rw [z]
      exact .inl ⟨rfl, rfl⟩
theorem vaB_eq {L R k op pl rg : Int} {a b : D} {ss : List Bs} {nm : Bs} {rs : List Int} {ag : List D} : vaB L R (vaD k a b op (paD pl ss) rg nm rs ag) = ((opsD k a b ag).all (opB L) && (if k = 2 ∨ k = 3 then wi pl L && wi rg R else if k = 6 ∨ k = 7 then (rs.map D.i).all (wiD R) else decide (1 ≤ k ∧ k ≤ 7))) := by
  unfold vaD paD opsD
  simp only [vaB]
  by_cases h1 : k = 2 ∨ k = 3
  · have n1 : ¬ (k = 1 ∨ k = 4) := by omega
    have n2 : ¬ k = 5 := by omega
    have n3 : ¬ (k = 6 ∨ k = 7) := by omega
    simp only [h1, n1, n2, n3, if_true, if_false, List.all_nil, Bool.true_and]
  by_cases h2 : k = 5
  · have n1 : ¬ (k = 1 ∨ k = 4) := by omega
    have n3 : ¬ (k = 6 ∨ k = 7) := by omega
    have n4 : decide (1 ≤ k ∧ k ≤ 7) = true := decide_eq_true (by omega)
    simp only [h1, n1, n3, n4, if_false]
    simp only [h2, if_true, List.all_cons, List.all_nil, Bool.and_true]
    cases opB L a <;> cases opB L b <;> rfl
  by_cases h3 : k = 1 ∨ k = 4
  · have n3 : ¬ (k = 6 ∨ k = 7) := by omega
    have n4 : decide (1 ≤ k ∧ k ≤ 7) = true := decide_eq_true (by omega)
    simp only [h1, h2, h3, n3, n4, if_true, if_false, List.all_cons, List.all_nil, Bool.and_true]
  by_cases h4 : k = 6 ∨ k = 7
  · simp only [h1, h2, h3, h4, if_true, if_false, Bool.and_comm]
  · have n4 : decide (1 ≤ k ∧ k ≤ 7) = false := decide_eq_false (by omega)
    simp only [h1, h2, h3, h4, n4, if_false, Bool.and_false]
theorem ops_ok {k : Int} {a b : D} {ag : List D} (ta : isOp a) (tb : isOp b) (tag : ∀ o ∈ ag, isOp o) (hag : ag.length ≤ 20) : (∀ o ∈ opsD k a b ag, isOp o) ∧ (opsD k a b ag).length ≤ 1000000 := by
  unfold opsD
  split
  · exact ⟨by simpa using ta, by simp⟩
  · split
    · refine ⟨?_, by simp⟩
      intro o ho
      simp only [List.mem_cons, List.not_mem_nil, or_false] at ho
      rcases ho with rfl | rfl
      · exact ta
      · exact tb
    · split
      · exact ⟨tag, by omega⟩
      · exact ⟨by simp, by simp⟩
theorem f31_eq (hN : 1000001 ≤ N) {d : D} (t : isVa d) {r : VaV} (m : MiV) (x : Dt h V d (vac r)) : ∃ h', f31 N r m h = some (vaB m.2.2.2.2.1.len m.2.2.1 d, h') ∧ Chg [] h h' := by
  obtain ⟨k, a, b, op, p, rg, nm, rs, ag, rfl, ta, tb, tp, hrs, hag, tag⟩ := t
  obtain ⟨ra, rb, rp, s1, s2, hc, xa, xb, xp, y1, y2⟩ := inv_va ta tb tp x
  have hr := recVa.inj hc
  clear hc x
  obtain ⟨pl, ss, rfl⟩ := tp
  obtain ⟨sp, hcp, _⟩ := inv_pa xp
  obtain rfl := recPa.inj hcp
  unfold f31
  have o := own_push h (vac r)
  have c := chg_push h (.row (vac r) .own)
  have e1 : h.push (.row (rowV r) .own) = h.push (.row (vac r) .own) := rfl
  dsimp only
  rw [e1]
  have y1 := y1.chg c (by simp)
  have y2 := y2.chg c (by simp)
  have xa := Dt.chg c (by simp) xa
  have xb := Dt.chg c (by simp) xb
  generalize h.push (.row (vac r) .own) = h1 at *
  have om := own_push h1 (mic m)
  have cm := chg_push h1 (.row (mic m) .own)
  have e2 : h1.push (.row [(.int .i64 m.1), (.int .i64 m.2.1), (.int .i64 m.2.2.1), (.slice m.2.2.2.1.a m.2.2.2.1.len m.2.2.2.1.cap m.2.2.2.1.sz), (.slice m.2.2.2.2.1.a m.2.2.2.2.1.len m.2.2.2.2.1.cap m.2.2.2.2.1.sz), (.slice m.2.2.2.2.2.1.a m.2.2.2.2.2.1.len m.2.2.2.2.2.1.cap m.2.2.2.2.2.1.sz)] .own) = h1.push (.row (mic m) .own) := rfl
  rw [e2]
  have o := o.chg cm (by simp)
  have y1 := y1.chg cm (by simp)
  have y2 := y2.chg cm (by simp)
  have xa := Dt.chg cm (by simp) xa
  have xb := Dt.chg cm (by simp) xb
  have c := c.trans cm
  generalize h1.push (.row (mic m) .own) = H at *
  have ow : H.cells (h.next, 0) 16 = some (.agg (vac r)) := o.cells (j := 0) (m := 16) (show 0 + 16 ≤ 16 by decide)
  rw [ow, recVa.agg]
  obtain ⟨so, H1, e, c1, yo⟩ := f51_eq (N := N) (k := k) (op := op) xa xb y2 hr
  have e' : f51 N (r.1, r.2.1, r.2.2.1, r.2.2.2.1, r.2.2.2.2.1, r.2.2.2.2.2.1, r.2.2.2.2.2.2.1, r.2.2.2.2.2.2.2.1, r.2.2.2.2.2.2.2.2.1, r.2.2.2.2.2.2.2.2.2.1, r.2.2.2.2.2.2.2.2.2.2.1, r.2.2.2.2.2.2.2.2.2.2.2.1, r.2.2.2.2.2.2.2.2.2.2.2.2.1, r.2.2.2.2.2.2.2.2.2.2.2.2.2.1, r.2.2.2.2.2.2.2.2.2.2.2.2.2.2.1, r.2.2.2.2.2.2.2.2.2.2.2.2.2.2.2.1, ()) H = some (so, H1) := e
  rw [e', bind2_some, vaB_eq]
  obtain ⟨t1, t2⟩ := ops_ok (k := k) ta tb tag hag
  have o1 := o.chg c1 (by simp)
  have om1 := om.chg c1 (by simp)
  obtain ⟨H2, c2, d2⟩ := opers_loop (N := N) (v2 := some (h.next, 0)) t2 t1 N 0 H1 om1 yo (Nat.zero_le _) (by omega)
  rw [List.drop_zero, show ((0 : Nat) : Int) = 0 from rfl] at d2
  have c012 := (c.trans c1).trans c2
  rcases d2 with ⟨ha, e⟩ | ⟨ha, e⟩
  case inr =>
    rw [e, ha]
    exact ⟨H2, by simp [bind3_some, show eqOut .ret (.exit 0) = false from rfl], c012⟩
  rw [e, ha]
  have o2 := o1.chg c2 (by simp)
  have om2 := om1.chg c2 (by simp)
  have y12 := (y1.chg c1 (by simp)).chg c2 (by simp)
  have rg0 := regs_loop (N := N) o2 om2 (xs := rs) (V := V) (by rw [hr]; exact y12) (by omega) N 0 (Nat.zero_le _) (by omega)
  rw [List.drop_zero, show ((0 : Nat) : Int) = 0 from rfl, ← all_ints] at rg0
  subst hr
  have a0 : H2.cell (h.next, 0) = some (.int .i64 k) := o2.cell 0
  have a12 : H2.cell (h.next, 12) = some (.int .i64 rg) := o2.cell 12
  have ap : H2.cells (h.next, 10) 2 = some (.agg (pac (pl, sp, ()))) := o2.cells (j := 10) (m := 2) (show 10 + 2 ≤ 16 by decide)
  have am : H2.cells (h1.next, 0) 6 = some (.agg (mic m)) := om2.cells (j := 0) (m := 6) (show 0 + 6 ≤ 6 by decide)
  simp only [bind3_some, eqOut_exit, decide_true, cond_true, need_some, Nat.zero_add, a0, bindV_some, cast_int, Bool.true_and, eqI]
  have place : ∃ h', (bindV (.val (.agg [(.int .i64), .slice])) (H2.cells (h.next, 10) 2) fun (x36 : (Int × SL × Unit)) =>
    (bindV (.val (.agg [(.int .i64), (.int .i64), (.int .i64), .slice, .slice, .slice])) (H2.cells (h1.next, 0) 6) fun (x38 : (Int × Int × Int × SL × SL × SL × Unit)) =>
    (bind2 (f32 N (x36.1, x36.2.1, ()) (x38.1, x38.2.1, x38.2.2.1, x38.2.2.2.1, x38.2.2.2.2.1, x38.2.2.2.2.2.1, ()) H2) fun (x39 : Bool) h40 =>
    (bif x39 then
     (bindV (.val (.one (.int .i64))) (h40.cell (h.next, 12)) fun (x42 : Int) =>
     (bif leInt 0 x42 then
      (bindV (.val (.one (.int .i64))) (h40.cell (h.next, 12)) fun (x45 : Int) =>
      (bindV (.val (.one (.int .i64))) (h40.cell (h1.next, 2)) fun (x47 : Int) =>
      some (ltInt x45 x47, h40)))
     else
      some (false, h40)))
    else
     some (false, h40))))) = some (wi pl m.2.2.2.2.1.len && wi rg m.2.2.1, h') ∧ Chg [] h h' := by
    rw [ap, recPa.agg, am, aggM]
    obtain ⟨H3, e3, c3⟩ := f32_eq (N := N) pl sp m H2
    have e3' : f32 N (pl, sp, ()) (m.1, m.2.1, m.2.2.1, m.2.2.2.1, m.2.2.2.2.1, m.2.2.2.2.2.1, ()) H2 = some (wi pl m.2.2.2.2.1.len, H3) := e3
    rw [e3', bind2_some]
    cases wi pl m.2.2.2.2.1.len with
    | false => exact ⟨H3, rfl, c012.trans c3⟩
    | true =>
      have b12 : H3.cell (h.next, 12) = some (.int .i64 rg) := (o2.chg c3 (by simp)).cell 12
      have b2 : H3.cell (h1.next, 2) = some (.int .i64 m.2.2.1) := (om2.chg c3 (by simp)).cell 2
      simp only [cond_true, b12, b2, bindV_some, cast_int, leI, ltI, Bool.true_and]
      refine ⟨H3, ?_, c012.trans c3⟩
      unfold wi
      cases decide (0 ≤ rg) <;> rfl
  by_cases k2 : k = 2
  · have hk : (k = 2 ∨ k = 3) = True := eq_true (.inl k2)
    simp only [hk, if_true, k2, decide_true, cond_true, bind2_some, need_some, Nat.zero_add]
    exact place
  by_cases k3 : k = 3
  · have hk : (k = 2 ∨ k = 3) = True := eq_true (.inr k3)
    have z2 : decide (k = 2) = false := decide_eq_false k2
    simp only [hk, if_true, z2, cond_false]
    simp only [k3, decide_true, cond_true, bind2_some, need_some, Nat.zero_add]
    exact place
  have hk : (k = 2 ∨ k = 3) = False := eq_false (by omega)
  have z2 : decide (k = 2) = false := decide_eq_false k2
  have z3 : decide (k = 3) = false := decide_eq_false k3
  have fin : some (decide (1 ≤ k ∧ k ≤ 7), H2) = (bif decide (1 ≤ k) then some (decide (k ≤ 7), H2) else some (false, H2)) := by
    rw [Bool.decide_and]
    cases decide (1 ≤ k) <;> rfl
  simp only [hk, if_false, z2, z3, cond_false, bind2_some]
  by_cases k6 : k = 6 ∨ k = 7
  · have hk6 : (k = 6 ∨ k = 7) = True := eq_true k6
    have f1 : decide (1 ≤ k) = true := decide_eq_true (by omega)
    have f2 : decide (k ≤ 7) = true := decide_eq_true (by omega)
    have lp : ∃ h', (bind3 (f31_l2 N N (some (h.next, 0)) (some (h1.next, 0)) false 0 H2) fun o69 (j70 : (Option (Nat × Nat) × Bool × Unit)) h71 =>
     (bif eqOut o69 (.exit 3) then
      (need j70.1 fun q72 =>
      (bindV (.val (.one (.int .i64))) (h71.cell (q72.1, q72.2 + 0)) fun (x73 : Int) =>
      (bif leInt 1 x73 then
       (need j70.1 fun q75 =>
       (bindV (.val (.one (.int .i64))) (h71.cell (q75.1, q75.2 + 0)) fun (x76 : Int) =>
       some (leInt x76 7, h71)))
      else
       some (false, h71))))
     else
      some (j70.2.1, h71))) = some ((rs.map D.i).all (wiD m.2.2.1), h') ∧ Chg [] h h' := by
      rcases rg0 with ⟨hb, e⟩ | ⟨hb, e⟩
      · rw [e, hb]
        simp only [bind3_some, eqOut_exit, decide_true, cond_true, need_some, Nat.zero_add, a0, bindV_some, cast_int, leI, f1, f2]
        exact ⟨H2, rfl, c012⟩
      · rw [e, hb]
        exact ⟨H2, by simp [bind3_some, show eqOut .ret (.exit 3) = false from rfl], c012⟩
    simp only [hk6, if_true]
    by_cases k66 : k = 6
    · simp only [k66, decide_true, cond_true, bind2_some]
      exact lp
    · have z6 : decide (k = 6) = false := decide_eq_false k66
      have z7 : decide (k = 7) = true := decide_eq_true (by omega)
      simp only [z6, z7, cond_true, cond_false, bind2_some]
      exact lp
  · have hk6 : (k = 6 ∨ k = 7) = False := eq_false k6
    have z6 : decide (k = 6) = false := decide_eq_false (by omega)
    have z7 : decide (k = 7) = false := decide_eq_false (by omega)
    simp only [hk6, if_false, z6, z7, cond_false, bind2_some, need_some, Nat.zero_add, a0, bindV_some, cast_int, leI]
    exact ⟨H2, fin.symm, c012⟩
end
end Go.Proofs.YtjeaammlambkeaaDoor.My

set_option linter.unusedVariables false
set_option linter.unusedSimpArgs false
set_option maxRecDepth 100000
open Go Go.Proofs.YtjeaammlambkeaaDoor.Ai Go.Proofs
namespace Go.Proofs.YtjeaammlambkeaaDoor.My
/-! ref16.May -/
noncomputable def K123 (N : Nat) (j123 : Sum ((Option (Nat × Nat) × Bool × Int × Option (Nat × Nat) × Int × Bool × Unit) × Heap) (Sum ((Bool × Unit) × Heap) (Empty))) : Option (Sum ((Option (Nat × Nat) × Bool × Int × Unit) × Heap) (Sum ((Bool × Unit) × Heap) (Empty))) :=
    (jcase j123 (fun (j124 : (Option (Nat × Nat) × Bool × Int × Option (Nat × Nat) × Int × Bool × Unit)) h125 =>
     (need (α := Sum ((Option (Nat × Nat) × Bool × Int × Option (Nat × Nat) × Int × Unit) × Heap) (Sum ((Bool × Unit) × Heap) (Empty))) (
      let x127 : Bool := !j124.2.2.2.2.2.1
      (bif x127 then
       some (Sum.inr (Sum.inl ((false, ()), h125)))
      else
       (need j124.2.2.2.1 fun q128 =>
       (bindV (.val (.one .slice)) (h125.cell (q128.1, q128.2 + 21)) fun (x129 : SL) =>
       let x130 : Bool := !eqInt (Int.ofNat x129.len) j124.2.2.2.2.1
       (bif x130 then
        some (Sum.inr (Sum.inl ((false, ()), h125)))
       else
        some (Sum.inl ((j124.1, j124.2.1, j124.2.2.1, j124.2.2.2.1, j124.2.2.2.2.1, ()), h125))))))) fun j131 =>
     (jcase j131 (fun (j132 : (Option (Nat × Nat) × Bool × Int × Option (Nat × Nat) × Int × Unit)) h133 =>
      (bind3 (f19_l5 N N j132.1 j132.2.1 j132.2.2.1 j132.2.2.2.1 j132.2.2.2.2.1 0 h133) fun o156 (j157 : (Option (Nat × Nat) × Bool × Int × Unit)) h158 =>
      (bif eqOut o156 (.exit 9) then
       some (Sum.inl ((j157.1, j157.2.1, j157.2.2.1, ()), h158))
      else
       some (Sum.inr (Sum.inl ((j157.2.1, ()), h158)))))) fun j134 =>
     (jcase j134 (fun (j159 : (Bool × Unit)) h160 =>
      some (Sum.inr (Sum.inl ((j159.1, ()), h160)))) fun _ =>
     none)))) fun j126 =>
    (jcase j126 (fun (j162 : (Bool × Unit)) h163 =>
     some (Sum.inr (Sum.inl ((j162.1, ()), h163)))) fun _ =>
    none))
noncomputable def K165 (N : Nat) (go : Option (Nat × Nat) → Bool → Int → Heap → Option (Out × (Bool × Unit) × Heap)) (j165 : Sum ((Option (Nat × Nat) × Bool × Int × Unit) × Heap) (Sum ((Bool × Unit) × Heap) (Empty))) : Option (Out × (Bool × Unit) × Heap) :=
   (jcase j165 (fun (j166 : (Option (Nat × Nat) × Bool × Int × Unit)) h167 =>
    let x169 : Int := wrapA .i64 (j166.2.2.1 + 1)
    go j166.1 j166.2.1 x169 h167) fun j168 =>
   (jcase j168 (fun (j170 : (Bool × Unit)) h171 =>
    some (Out.ret, (j170.1, ()), h171)) fun _ =>
   none))
noncomputable def X123 (N : Nat) (v1 : Option (Nat × Nat)) (v2 : Bool) (v6 : Int) (qq : Nat × Nat) (h78 : Heap) : Option (Sum ((Option (Nat × Nat) × Bool × Int × Option (Nat × Nat) × Int × Bool × Unit) × Heap) (Sum ((Bool × Unit) × Heap) (Empty))) :=
     (bindV (.val (.one (.int .i64))) (h78.cell (qq.1, qq.2 + 0)) fun (x79 : Int) =>
     let x80 : Bool := eqInt x79 1
     (bif x80 then
      (bindV (.val (.agg [(.int .i64), (.int .i64), (.int .i64), (.int .i64), .slice, (.int .i64), (.int .i64), (.int .i64), .slice, (.int .i64), (.int .i64), .slice, (.int .i64), .str, .slice, .slice])) (h78.cells (qq.1, qq.2 + 5) 16) fun (x81 : (Int × Int × Int × Int × SL × Int × Int × Int × SL × Int × Int × SL × Int × List UInt8 × SL × SL × Unit)) =>
      (need v1 fun q82 =>
      (bindV (.val (.agg [(.int .i64), (.int .i64), (.int .i64), .slice, .slice, .slice])) (h78.cells q82 6) fun (x83 : (Int × Int × Int × SL × SL × SL × Unit)) =>
      (bind2 (f31 N (x81.1, x81.2.1, x81.2.2.1, x81.2.2.2.1, x81.2.2.2.2.1, x81.2.2.2.2.2.1, x81.2.2.2.2.2.2.1, x81.2.2.2.2.2.2.2.1, x81.2.2.2.2.2.2.2.2.1, x81.2.2.2.2.2.2.2.2.2.1, x81.2.2.2.2.2.2.2.2.2.2.1, x81.2.2.2.2.2.2.2.2.2.2.2.1, x81.2.2.2.2.2.2.2.2.2.2.2.2.1, x81.2.2.2.2.2.2.2.2.2.2.2.2.2.1, x81.2.2.2.2.2.2.2.2.2.2.2.2.2.2.1, x81.2.2.2.2.2.2.2.2.2.2.2.2.2.2.2.1, ()) (x83.1, x83.2.1, x83.2.2.1, x83.2.2.2.1, x83.2.2.2.2.1, x83.2.2.2.2.2.1, ()) h78) fun (x84 : Bool) h85 =>
      (bif x84 then
       (bindV (.val (.one .bool)) (h85.cell (qq.1, qq.2 + 2)) fun (x86 : Bool) =>
       let x87 : Bool := !x86
       (bif x87 then
        some (Sum.inl ((v1, v2, v6, (some qq), 1, true, ()), h85))
       else
        (bindV (.val (.agg [(.int .i64), .slice])) (h85.cells (qq.1, qq.2 + 3) 2) fun (x88 : (Int × SL × Unit)) =>
        (need v1 fun q89 =>
        (bindV (.val (.agg [(.int .i64), (.int .i64), (.int .i64), .slice, .slice, .slice])) (h85.cells q89 6) fun (x90 : (Int × Int × Int × SL × SL × SL × Unit)) =>
        (bind2 (f32 N (x88.1, x88.2.1, ()) (x90.1, x90.2.1, x90.2.2.1, x90.2.2.2.1, x90.2.2.2.2.1, x90.2.2.2.2.2.1, ()) h85) fun (x91 : Bool) h92 =>
        some (Sum.inl ((v1, v2, v6, (some qq), 1, x91, ()), h92))))))))
      else
       some (Sum.inl ((v1, v2, v6, (some qq), 1, false, ()), h85)))))))
     else
      (bind2 (α := (Option (Nat × Nat) × Bool × Int × Option (Nat × Nat) × Int × Bool × Int × Bool × Unit)) (
       let x93 : Bool := eqInt x79 2
       (bif x93 then
        some ((v1, v2, v6, (some qq), 1, true, x79, x93, ()), h78)
       else
        let x94 : Bool := eqInt x79 3
        some ((v1, v2, v6, (some qq), 1, true, x79, x94, ()), h78))) fun (j95 : (Option (Nat × Nat) × Bool × Int × Option (Nat × Nat) × Int × Bool × Int × Bool × Unit)) h96 =>
      (bif j95.2.2.2.2.2.2.2.1 then
       (need j95.2.2.2.1 fun q97 =>
       (bindV (.val (.agg [(.int .i64), .slice])) (h96.cells (q97.1, q97.2 + 3) 2) fun (x98 : (Int × SL × Unit)) =>
       (need j95.1 fun q99 =>
       (bindV (.val (.agg [(.int .i64), (.int .i64), (.int .i64), .slice, .slice, .slice])) (h96.cells q99 6) fun (x100 : (Int × Int × Int × SL × SL × SL × Unit)) =>
       (bind2 (f32 N (x98.1, x98.2.1, ()) (x100.1, x100.2.1, x100.2.2.1, x100.2.2.2.1, x100.2.2.2.2.1, x100.2.2.2.2.2.1, ()) h96) fun (x101 : Bool) h102 =>
       some (Sum.inl ((j95.1, j95.2.1, j95.2.2.1, j95.2.2.2.1, j95.2.2.2.2.1, x101, ()), h102)))))))
      else
       let x103 : Bool := eqInt j95.2.2.2.2.2.2.1 4
       (bif x103 then
        (need j95.2.2.2.1 fun q104 =>
        (bindV (.val (.agg [(.int .i64), (.int .i64), (.int .i64), .slice])) (h96.cells ((q104.1, q104.2 + 5).1, (q104.1, q104.2 + 5).2 + 1) 4) fun (x105 : (Int × Int × Int × SL × Unit)) =>
        let h106 : Heap := h96.push (.row [(.int .i64 0), (.int .i64 0), (.int .i64 0), (.slice none 0 0 0)] .own)
        (need (h106.store (h96.next, 0) [(.int .i64 x105.1), (.int .i64 x105.2.1), (.int .i64 x105.2.2.1), (.slice x105.2.2.2.1.a x105.2.2.2.1.len x105.2.2.2.1.cap x105.2.2.2.1.sz)]) fun h107 =>
        (bindV (.val (.one (.int .i64))) (h107.cell ((h96.next, 0).1, (h96.next, 0).2 + 0)) fun (x108 : Int) =>
        let x109 : Bool := leInt 1 x108
        (bif x109 then
         (bindV (.val (.one (.int .i64))) (h107.cell ((h96.next, 0).1, (h96.next, 0).2 + 0)) fun (x110 : Int) =>
         let x111 : Bool := leInt x110 4
         (bif x111 then
          (bindV (.val (.agg [(.int .i64), (.int .i64), (.int .i64), .slice])) (h107.cells (h96.next, 0) 4) fun (x112 : (Int × Int × Int × SL × Unit)) =>
          (bind2 (f33 N (x112.1, x112.2.1, x112.2.2.1, x112.2.2.2.1, ()) h107) fun (x113 : Bool) h114 =>
          let x115 : Bool := !x113
          (bif x115 then
           some (Sum.inl ((j95.1, j95.2.1, j95.2.2.1, j95.2.2.2.1, 2, true, ()), h114))
          else
           (bindV (.val (.agg [(.int .i64), .slice])) (h114.cells ((h96.next, 0).1, (h96.next, 0).2 + 2) 2) fun (x116 : (Int × SL × Unit)) =>
           (need j95.1 fun q117 =>
           (bindV (.val (.agg [(.int .i64), (.int .i64), (.int .i64), .slice, .slice, .slice])) (h114.cells q117 6) fun (x118 : (Int × Int × Int × SL × SL × SL × Unit)) =>
           (bind2 (f32 N (x116.1, x116.2.1, ()) (x118.1, x118.2.1, x118.2.2.1, x118.2.2.2.1, x118.2.2.2.2.1, x118.2.2.2.2.2.1, ()) h114) fun (x119 : Bool) h120 =>
           some (Sum.inl ((j95.1, j95.2.1, j95.2.2.1, j95.2.2.2.1, 2, x119, ()), h120)))))))))
         else
          some (Sum.inl ((j95.1, j95.2.1, j95.2.2.1, j95.2.2.2.1, 2, false, ()), h107))))
        else
         some (Sum.inl ((j95.1, j95.2.1, j95.2.2.1, j95.2.2.2.1, 2, false, ()), h107)))))))
       else
        let x121 : Bool := eqInt j95.2.2.2.2.2.2.1 5
        (bif x121 then
         some (Sum.inl ((j95.1, j95.2.1, j95.2.2.1, j95.2.2.2.1, j95.2.2.2.2.1, j95.2.2.2.2.2.1, ()), h96))
        else
         let x122 : Bool := eqInt j95.2.2.2.2.2.2.1 6
         (bif x122 then
          some (Sum.inl ((j95.1, j95.2.1, j95.2.2.1, j95.2.2.2.1, 0, j95.2.2.2.2.2.1, ()), h96))
         else
          some (Sum.inr (Sum.inl ((false, ()), h96))))))))))
noncomputable def f19_l4_c (N : Nat) (go : Option (Nat × Nat) → Bool → Int → Heap → Option (Out × (Bool × Unit) × Heap)) (v1 : Option (Nat × Nat)) (v2 : Bool) (v6 : Int) (h : Heap) : Option (Out × (Bool × Unit) × Heap) :=
  (need v1 fun q70 =>
  (bindV (.val (.one .slice)) (h.cell (q70.1, q70.2 + 5)) fun (x71 : SL) =>
  let x72 : Bool := ltInt v6 (Int.ofNat x71.len)
  (bif x72 then
   (need (α := Sum ((Option (Nat × Nat) × Bool × Int × Unit) × Heap) (Sum ((Bool × Unit) × Heap) (Empty))) (
    (need v1 fun q73 =>
    (bindV (.val (.one .slice)) (h.cell (q73.1, q73.2 + 5)) fun (x74 : SL) =>
    (ixK x74.a x74.len v6 22 fun q75 =>
    (bindV (.val (.agg [(.int .i64), (.int .i64), .bool, (.int .i64), .slice, (.int .i64), (.int .i64), (.int .i64), (.int .i64), .slice, (.int .i64), (.int .i64), (.int .i64), .slice, (.int .i64), (.int .i64), .slice, (.int .i64), .str, .slice, .slice, .slice])) (h.cells q75 22) fun (x76 : (Int × Int × Bool × Int × SL × Int × Int × Int × Int × SL × Int × Int × Int × SL × Int × Int × SL × Int × List UInt8 × SL × SL × SL × Unit)) =>
    let h77 : Heap := h.push (.row [(.int .i64 0), (.int .i64 0), (.bool false), (.int .i64 0), (.slice none 0 0 0), (.int .i64 0), (.int .i64 0), (.int .i64 0), (.int .i64 0), (.slice none 0 0 0), (.int .i64 0), (.int .i64 0), (.int .i64 0), (.slice none 0 0 0), (.int .i64 0), (.int .i64 0), (.slice none 0 0 0), (.int .i64 0), (.str []), (.slice none 0 0 0), (.slice none 0 0 0), (.slice none 0 0 0)] .own)
    (need (h77.store (h.next, 0) [(.int .i64 x76.1), (.int .i64 x76.2.1), (.bool x76.2.2.1), (.int .i64 x76.2.2.2.1), (.slice x76.2.2.2.2.1.a x76.2.2.2.2.1.len x76.2.2.2.2.1.cap x76.2.2.2.2.1.sz), (.int .i64 x76.2.2.2.2.2.1), (.int .i64 x76.2.2.2.2.2.2.1), (.int .i64 x76.2.2.2.2.2.2.2.1), (.int .i64 x76.2.2.2.2.2.2.2.2.1), (.slice x76.2.2.2.2.2.2.2.2.2.1.a x76.2.2.2.2.2.2.2.2.2.1.len x76.2.2.2.2.2.2.2.2.2.1.cap x76.2.2.2.2.2.2.2.2.2.1.sz), (.int .i64 x76.2.2.2.2.2.2.2.2.2.2.1), (.int .i64 x76.2.2.2.2.2.2.2.2.2.2.2.1), (.int .i64 x76.2.2.2.2.2.2.2.2.2.2.2.2.1), (.slice x76.2.2.2.2.2.2.2.2.2.2.2.2.2.1.a x76.2.2.2.2.2.2.2.2.2.2.2.2.2.1.len x76.2.2.2.2.2.2.2.2.2.2.2.2.2.1.cap x76.2.2.2.2.2.2.2.2.2.2.2.2.2.1.sz), (.int .i64 x76.2.2.2.2.2.2.2.2.2.2.2.2.2.2.1), (.int .i64 x76.2.2.2.2.2.2.2.2.2.2.2.2.2.2.2.1), (.slice x76.2.2.2.2.2.2.2.2.2.2.2.2.2.2.2.2.1.a x76.2.2.2.2.2.2.2.2.2.2.2.2.2.2.2.2.1.len x76.2.2.2.2.2.2.2.2.2.2.2.2.2.2.2.2.1.cap x76.2.2.2.2.2.2.2.2.2.2.2.2.2.2.2.2.1.sz), (.int .i64 x76.2.2.2.2.2.2.2.2.2.2.2.2.2.2.2.2.2.1), (.str x76.2.2.2.2.2.2.2.2.2.2.2.2.2.2.2.2.2.2.1), (.slice x76.2.2.2.2.2.2.2.2.2.2.2.2.2.2.2.2.2.2.2.1.a x76.2.2.2.2.2.2.2.2.2.2.2.2.2.2.2.2.2.2.2.1.len x76.2.2.2.2.2.2.2.2.2.2.2.2.2.2.2.2.2.2.2.1.cap x76.2.2.2.2.2.2.2.2.2.2.2.2.2.2.2.2.2.2.2.1.sz), (.slice x76.2.2.2.2.2.2.2.2.2.2.2.2.2.2.2.2.2.2.2.2.1.a x76.2.2.2.2.2.2.2.2.2.2.2.2.2.2.2.2.2.2.2.2.1.len x76.2.2.2.2.2.2.2.2.2.2.2.2.2.2.2.2.2.2.2.2.1.cap x76.2.2.2.2.2.2.2.2.2.2.2.2.2.2.2.2.2.2.2.2.1.sz), (.slice x76.2.2.2.2.2.2.2.2.2.2.2.2.2.2.2.2.2.2.2.2.2.1.a x76.2.2.2.2.2.2.2.2.2.2.2.2.2.2.2.2.2.2.2.2.2.1.len x76.2.2.2.2.2.2.2.2.2.2.2.2.2.2.2.2.2.2.2.2.2.1.cap x76.2.2.2.2.2.2.2.2.2.2.2.2.2.2.2.2.2.2.2.2.2.1.sz)]) fun h78 =>
    (need (α := Sum ((Option (Nat × Nat) × Bool × Int × Option (Nat × Nat) × Int × Bool × Unit) × Heap) (Sum ((Bool × Unit) × Heap) (Empty))) (X123 N v1 v2 v6 (h.next, 0) h78) (K123 N)))))))) (K165 N go))
  else
   some ((Out.exit 6), (v2, ()), h))))

theorem l4_c (N : Nat) (go : Option (Nat × Nat) → Bool → Int → Heap → Option (Out × (Bool × Unit) × Heap)) (v1 : Option (Nat × Nat)) (v2 : Bool) (v6 : Int) (h : Heap) : f19_l4_b N go v1 v2 v6 h = f19_l4_c N go v1 v2 v6 h := rfl
section
variable {N : Nat} {h : Heap} {V : Nat → Prop}
theorem ix0 {β : Type} (q : Nat × Nat) (K : Nat × Nat → Option β) : ixK (some q) 2 0 1 K = K (q.1, q.2 + 0) := rfl
theorem ix1 {β : Type} (q : Nat × Nat) (K : Nat × Nat → Option β) : ixK (some q) 2 1 1 K = K (q.1, q.2 + 1) := rfl
theorem pair_eq {A : Nat} {m : MiV} {xs : List D} (ht : ∀ o ∈ xs, isPr o) (o : h.own A (mic m)) (x : Sl h V m.2.2.2.1 xs) {i : Nat} (w : i < xs.length) (M : Nat) : f19_l2 N (M + 3) (some (A, 0)) false (i : Int) 0 h = if pairB m.2.1 xs[i] then some (.exit 2, (some (A, 0), false, (i : Int), ()), h) else some (.ret, (some (A, 0), false, (i : Int), ()), h) := by
  have hp := ht _ (List.getElem_mem w)
  obtain ⟨r, el⟩ := recPr.el x w hp
  obtain ⟨a, b, hab⟩ := hp
  have d := el.dt
  rw [hab] at d
  obtain rfl := recPr.inj (inv_pr d)
  generalize hs : m.2.2.2.1 = s at x el
  have a3 : h.cell (A, 3) = some (.slice s.a s.len s.cap s.sz) := by rw [← hs]; exact o.cell 3
  have a1 : h.cell (A, 1) = some (.int .i64 m.2.1) := o.cell 1
  have b0 : h.cell ((s.at i 2).1, (s.at i 2).2 + 0) = some (.int .i64 a) := el.cell 0 (by omega)
  have b1 : h.cell ((s.at i 2).1, (s.at i 2).2 + 1) = some (.int .i64 b) := el.cell 1 (by omega)
  have hix : ∀ {β : Type} (K : Nat × Nat → Option β), ixK s.a s.len (i : Int) 2 K = K (s.at i 2) := fun K => x.ix w 2 K
  have e : pairB m.2.1 xs[i] = (wi a m.2.1 && wi b m.2.1) := by rw [hab]; rfl
  have n1 : wrapA .i64 (0 + 1) = 1 := rfl
  have n2 : wrapA .i64 (1 + 1) = 2 := rfl
  rw [e]
  unfold wi
  rw [f19_l2_succ]
  unfold f19_l2_b
  simp only [show ltInt 0 2 = true from rfl, cond_true, need_some, Nat.zero_add, a3, a1, bindV_some, cast_slice, cast_int, hix, ix0, b0, ltI, leI, n1]
  by_cases h1 : 0 ≤ a
  case neg =>
    have q1 : decide (a < 0) = true := decide_eq_true (by omega)
    have q2 : decide (0 ≤ a) = false := decide_eq_false h1
    simp only [q1, q2, cond_true, Bool.false_and, need_some, jcase_inr, jcase_inl]
    rfl
  have q1 : decide (a < 0) = false := decide_eq_false (by omega)
  have q1' : decide (0 ≤ a) = true := decide_eq_true h1
  simp only [q1, q1', cond_false, Bool.true_and]
  by_cases h2 : a < m.2.1
  case neg =>
    have q1 : decide (m.2.1 ≤ a) = true := decide_eq_true (by omega)
    have q2 : decide (a < m.2.1) = false := decide_eq_false h2
    simp only [q1, q2, cond_true, Bool.false_and, need_some, jcase_inr, jcase_inl]
    rfl
  have q2 : decide (m.2.1 ≤ a) = false := decide_eq_false (by omega)
  have q2' : decide (a < m.2.1) = true := decide_eq_true h2
  simp only [q2, q2', cond_false, Bool.true_and, need_some, jcase_inl, n1]
  rw [f19_l2_succ]
  unfold f19_l2_b
  simp only [show ltInt 1 2 = true from rfl, cond_true, need_some, Nat.zero_add, a3, a1, bindV_some, cast_slice, cast_int, hix, ix1, b1, ltI, leI, n2]
  by_cases h3 : 0 ≤ b
  case neg =>
    have q1 : decide (b < 0) = true := decide_eq_true (by omega)
    have q2 : decide (0 ≤ b) = false := decide_eq_false h3
    simp only [q1, q2, cond_true, Bool.false_and, need_some, jcase_inr, jcase_inl]
    rfl
  have q3 : decide (b < 0) = false := decide_eq_false (by omega)
  have q3' : decide (0 ≤ b) = true := decide_eq_true h3
  simp only [q3, q3', cond_false, Bool.true_and]
  by_cases h4 : b < m.2.1
  case neg =>
    have q1 : decide (m.2.1 ≤ b) = true := decide_eq_true (by omega)
    have q2 : decide (b < m.2.1) = false := decide_eq_false h4
    simp only [q1, q2, cond_true, Bool.false_and, need_some, jcase_inr, jcase_inl]
    rfl
  have q4 : decide (m.2.1 ≤ b) = false := decide_eq_false (by omega)
  have q4' : decide (b < m.2.1) = true := decide_eq_true h4
  simp only [q4, q4', cond_false, Bool.true_and, need_some, jcase_inl, n2]
  rw [f19_l2_succ]
  unfold f19_l2_b
  simp only [show ltInt 2 2 = false from rfl, cond_false]
  rfl
theorem kn_loop {A : Nat} {m : MiV} {xs : List D} (hN : 1000001 ≤ N) (hl : xs.length ≤ 1000000) (ht : ∀ o ∈ xs, isPr o) (o : h.own A (mic m)) (x : Sl h V m.2.2.2.1 xs) : ∀ (M i : Nat), i ≤ xs.length → xs.length - i < M →
    ((xs.drop i).all (pairB m.2.1) = true ∧ f19_l1 N M (some (A, 0)) false (i : Int) h = some (.exit 0, (some (A, 0), false, ()), h)) ∨
    ((xs.drop i).all (pairB m.2.1) = false ∧ f19_l1 N M (some (A, 0)) false (i : Int) h = some (.ret, (some (A, 0), false, ()), h)) := by
  intro M
  obtain ⟨K, rfl⟩ : ∃ k, N = k + 3 := ⟨N - 3, by omega⟩
  have a3 : h.cell (A, 3) = some (.slice m.2.2.2.1.a m.2.2.2.1.len m.2.2.2.1.cap m.2.2.2.1.sz) := o.cell 3
  induction M with
  | zero => intro i _ h; omega
  | succ M ih =>
    intro i hi hM
    rw [f19_l1_succ]
    unfold f19_l1_b
    simp only [need_some, Nat.zero_add, a3, bindV_some, cast_slice, lt_nat, x.len]
    by_cases w : i < xs.length
    · simp only [w, decide_true, cond_true]
      rw [pair_eq ht o x w, List.drop_eq_getElem_cons w, List.all_cons]
      cases hw : pairB m.2.1 xs[i] with
      | true =>
        rw [if_pos rfl, Bool.true_and]
        simp only [bind3_some, eqOut_exit, decide_true, cond_true]
        rw [wrap_succ (by omega)]
        exact ih (i + 1) w (by omega)
      | false =>
        rw [if_neg (by simp), Bool.false_and]
        exact .inr ⟨rfl, by simp [bind3_some, show eqOut .ret (.exit 2) = false from rfl]⟩
    · rw [List.drop_eq_nil_of_le (by omega)]
      have z : decide (i < xs.length) = false := decide_eq_false w
      rw [z]
      exact .inl ⟨rfl, rfl⟩
theorem lo_loop (hN : 1000001 ≤ N) {A : Nat} {m : MiV} {xs : List D} (hl : xs.length ≤ 1000000) (ht : ∀ o ∈ xs, isLo o) : ∀ (M i : Nat) (h : Heap), h.own A (mic m) → Sl h V m.2.2.2.2.1 xs → i ≤ xs.length → xs.length - i < M → ∃ h', Chg [] h h' ∧
    (((xs.drop i).all (locB m.2.2.1) = true ∧ f19_l3 N M (some (A, 0)) false (i : Int) h = some (.exit 4, (some (A, 0), false, ()), h')) ∨
    ((xs.drop i).all (locB m.2.2.1) = false ∧ f19_l3 N M (some (A, 0)) false (i : Int) h = some (.ret, (some (A, 0), false, ()), h'))) := by
  intro M
  induction M with
  | zero => intro i h _ _ _ h; omega
  | succ M ih =>
    intro i h o x hi hM
    have a4 : h.cell (A, 4) = some (.slice m.2.2.2.2.1.a m.2.2.2.2.1.len m.2.2.2.2.1.cap m.2.2.2.2.1.sz) := o.cell 4
    have a2 : h.cell (A, 2) = some (.int .i64 m.2.2.1) := o.cell 2
    rw [f19_l3_succ]
    unfold f19_l3_b
    simp only [need_some, Nat.zero_add, a4, bindV_some, cast_slice, lt_nat, x.len]
    by_cases w : i < xs.length
    · simp only [w, decide_true, cond_true]
      have hp := ht _ (List.getElem_mem w)
      obtain ⟨r, el⟩ := recLo.el x w hp
      have hix : ∀ {β : Type} (K : Nat × Nat → Option β), ixK m.2.2.2.2.1.a xs.length (i : Int) 6 K = K (m.2.2.2.2.1.at i 6) := fun K => by
        have := x.ix w 6 K
        rwa [x.len] at this
      obtain ⟨nm, ty, pm, hab, tt⟩ := hp
      have d := el.dt
      rw [hab] at d
      obtain ⟨rt, hc, dt⟩ := inv_lo tt d
      obtain rfl := recLo.inj hc
      have bt : h.cells ((m.2.2.2.2.1.at i 6).1, (m.2.2.2.2.1.at i 6).2 + 1) 4 = some (.agg (tyc rt)) := el.cells 1 4 (by omega)
      simp only [hix, bt, (recTy 67).agg, a2, bindV_some, cast_int]
      obtain ⟨H1, e, c1⟩ := f30_eq hN m.2.2.1 64 N 67 ty h rt V (by omega) (by omega) tt dt
      have e' : f30 N N (rt.1, rt.2.1, rt.2.2.1, rt.2.2.2.1, ()) m.2.2.1 1 h = some (tyB m.2.2.1 64 ty, H1) := e
      rw [e', bind2_some, List.drop_eq_getElem_cons w, List.all_cons]
      have o := o.chg c1 (by simp)
      have x := x.chg c1 (by simp)
      have e2 : tyB m.2.2.1 64 ty = locB m.2.2.1 xs[i] := by rw [hab]; rfl
      rw [e2]
      cases hw : locB m.2.2.1 xs[i] with
      | true =>
        rw [Bool.true_and]
        simp only [Bool.not_true, cond_false]
        rw [wrap_succ (by omega)]
        obtain ⟨h', c', d'⟩ := ih (i + 1) H1 o x w (by omega)
        exact ⟨h', c1.trans c', d'⟩
      | false =>
        rw [Bool.false_and]
        exact ⟨H1, c1, .inr ⟨rfl, rfl⟩⟩
    · rw [List.drop_eq_nil_of_le (by omega)]
      have z : decide (i < xs.length) = false := decide_eq_false w
      rw [z]
      exact ⟨h, Chg.refl _ _, .inl ⟨rfl, rfl⟩⟩
theorem nx_loop {A B : Nat} {m : MiV} {r : InV} {xs : List Int} {v6 : Int} (o : h.own A (itc r)) (ob : h.own B (mic m)) (x : Sl h V r.2.2.2.2.2.2.2.2.2.2.2.2.2.2.2.2.2.2.2.2.2.1 (xs.map D.i)) (hl : xs.length ≤ 1000000) : ∀ (M i : Nat), i ≤ xs.length → xs.length - i < M →
    (((xs.drop i).all fun a => wi a m.2.2.2.2.2.1.len) = true ∧ f19_l5 N M (some (B, 0)) false v6 (some (A, 0)) (xs.length : Int) (i : Int) h = some (.exit 9, (some (B, 0), false, v6, ()), h)) ∨
    (((xs.drop i).all fun a => wi a m.2.2.2.2.2.1.len) = false ∧ f19_l5 N M (some (B, 0)) false v6 (some (A, 0)) (xs.length : Int) (i : Int) h = some (.ret, (some (B, 0), false, v6, ()), h)) := by
  intro M
  generalize hs : r.2.2.2.2.2.2.2.2.2.2.2.2.2.2.2.2.2.2.2.2.2.1 = s at x
  have a2 : h.cell (A, 21) = some (.slice s.a s.len s.cap s.sz) := by rw [← hs]; exact o.cell 21
  have b5 : h.cell (B, 5) = some (.slice m.2.2.2.2.2.1.a m.2.2.2.2.2.1.len m.2.2.2.2.2.1.cap m.2.2.2.2.2.1.sz) := ob.cell 5
  have ln : s.len = xs.length := by rw [x.len, List.length_map]
  induction M with
  | zero => intro i _ h; omega
  | succ M ih =>
    intro i hi hM
    rw [f19_l5_succ]
    unfold f19_l5_b
    simp only [lt_nat']
    by_cases w : i < xs.length
    · have w' : i < (xs.map D.i).length := by rw [List.length_map]; exact w
      have hix : ∀ {β : Type} (K : Nat × Nat → Option β), ixK s.a xs.length (i : Int) 1 K = K (s.at i 1) := fun K => by
        have := x.ix w' 1 K
        rwa [ln] at this
      simp only [w, decide_true, cond_true, need_some, Nat.zero_add, a2, bindV_some, cast_slice, ln, hix, sl_int x w, cast_int, ltI, b5, leI]
      rw [List.drop_eq_getElem_cons w, List.all_cons]
      unfold wi
      by_cases h1 : 0 ≤ xs[i]
      case neg =>
        have q1 : decide (xs[i] < 0) = true := decide_eq_true (by omega)
        have q2 : decide (0 ≤ xs[i]) = false := decide_eq_false h1
        simp only [q1, q2, cond_true, Bool.false_and, need_some, jcase_inr, jcase_inl]
        exact .inr ⟨trivial, trivial⟩
      have q1 : decide (xs[i] < 0) = false := decide_eq_false (by omega)
      have q1' : decide (0 ≤ xs[i]) = true := decide_eq_true h1
      simp only [q1, q1', cond_false, Bool.true_and]
      have i2 : ∀ n : Nat, Int.ofNat n = (n : Int) := fun _ => rfl
      simp only [i2]
      by_cases h2 : xs[i] < m.2.2.2.2.2.1.len
      case neg =>
        have q1 : decide ((m.2.2.2.2.2.1.len : Int) ≤ xs[i]) = true := decide_eq_true (by omega)
        have q2 : decide (xs[i] < m.2.2.2.2.2.1.len) = false := decide_eq_false h2
        simp only [q1, q2, cond_true, Bool.false_and, need_some, jcase_inr, jcase_inl]
        exact .inr ⟨trivial, trivial⟩
      have q2 : decide ((m.2.2.2.2.2.1.len : Int) ≤ xs[i]) = false := decide_eq_false (by omega)
      have q2' : decide (xs[i] < m.2.2.2.2.2.1.len) = true := decide_eq_true h2
      simp only [q2, q2', cond_false, Bool.true_and, need_some, jcase_inl]
      rw [wrap_succ (by omega)]
      exact ih (i + 1) w (by omega)
    · rw [List.drop_eq_nil_of_le (by omega)]
      have z : decide (i < xs.length) = false := decide_eq_false w
      rw [z]
      exact .inl ⟨rfl, rfl⟩
theorem k123_eq (hN : 1000001 ≤ N) {A B : Nat} {m : MiV} {r : InV} {nx : List Int} (o : h.own A (itc r)) (ob : h.own B (mic m)) (x : Sl h V r.2.2.2.2.2.2.2.2.2.2.2.2.2.2.2.2.2.2.2.2.2.1 (nx.map D.i)) (hl : nx.length ≤ 1000) (f : Bool) (c : Nat) {c' : Int} (hc : c' = (c : Int)) (v6 : Int) : K123 N (.inl ((some (B, 0), false, v6, some (A, 0), c', f, ()), h)) = if nxB m.2.2.2.2.2.1.len f c nx then some (.inl ((some (B, 0), false, v6, ()), h)) else some (.inr (.inl ((false, ()), h))) := by
  subst hc
  have a21 : h.cell (A, 21) = some (.slice r.2.2.2.2.2.2.2.2.2.2.2.2.2.2.2.2.2.2.2.2.2.1.a r.2.2.2.2.2.2.2.2.2.2.2.2.2.2.2.2.2.2.2.2.2.1.len r.2.2.2.2.2.2.2.2.2.2.2.2.2.2.2.2.2.2.2.2.2.1.cap r.2.2.2.2.2.2.2.2.2.2.2.2.2.2.2.2.2.2.2.2.2.1.sz) := o.cell 21
  have ln : r.2.2.2.2.2.2.2.2.2.2.2.2.2.2.2.2.2.2.2.2.2.1.len = nx.length := by rw [x.len, List.length_map]
  unfold K123 nxB
  cases f with
  | false =>
    simp only [jcase_inl, Bool.not_false, cond_true, need_some, jcase_inr, Bool.false_and]
    rfl
  | true =>
    have le : ∀ n : Nat, eqInt (Int.ofNat n) (c : Int) = decide (n = c) := fun n => lenI n c
    simp only [jcase_inl, Bool.not_true, cond_false, need_some, Nat.zero_add, a21, bindV_some, cast_slice, ln, le, Bool.true_and]
    by_cases w : nx.length = c
    case neg =>
      have z : decide (nx.length = c) = false := decide_eq_false w
      simp only [z, Bool.not_false, cond_true, need_some, jcase_inl, jcase_inr, Bool.false_and]
      rfl
    have z : decide (nx.length = c) = true := decide_eq_true w
    simp only [z, Bool.not_true, cond_false, need_some, jcase_inl, jcase_inr, Bool.true_and]
    rw [← w, all_ints]
    have L := nx_loop (N := N) (v6 := v6) o ob x (by omega) N 0 (Nat.zero_le _) (by omega)
    rw [List.drop_zero, show ((0 : Nat) : Int) = 0 from rfl] at L
    rcases L with ⟨ha, e⟩ | ⟨ha, e⟩
    · rw [e, ha]
      simp only [bind3_some, eqOut_exit, decide_true, cond_true, need_some, jcase_inl]
      rfl
    · rw [e, ha]
      simp only [bind3_some, show eqOut .ret (.exit 9) = false from rfl, cond_false, need_some, jcase_inl, jcase_inr]
      rfl
theorem x123_eq (hN : 1000001 ≤ N) {A B : Nat} {m : MiV} {d : D} (t : isIn d) {r : InV} (o : h.own A (itc r)) (ob : h.own B (mic m)) (x : Dt h V d (itc r)) (v6 : Int) : ∃ nx : List Int, nx.length ≤ 1000 ∧ Sl h V r.2.2.2.2.2.2.2.2.2.2.2.2.2.2.2.2.2.2.2.2.2.1 (nx.map D.i) ∧
    ((∃ (f : Bool) (c : Nat) (c' : Int) (H : Heap), c' = (c : Int) ∧ Chg [] h H ∧ X123 N (some (B, 0)) false v6 (A, 0) h = some (.inl ((some (B, 0), false, v6, some (A, 0), c', f, ()), H)) ∧ inB m.2.2.2.2.1.len m.2.2.1 m.2.2.2.2.2.1.len d = nxB m.2.2.2.2.2.1.len f c nx) ∨
    (X123 N (some (B, 0)) false v6 (A, 0) h = some (.inr (.inl ((false, ()), h))) ∧ inB m.2.2.2.2.1.len m.2.2.1 m.2.2.2.2.2.1.len d = false)) := by
  obtain ⟨k, a, hs, to, va, nx, rfl, tt, tv, hnx⟩ := t
  obtain ⟨rt, rv, s, hc, xt, xv, y⟩ := inv_it tt tv x
  have hr := recIn.inj hc
  clear hc x
  obtain ⟨tl, ss, rfl⟩ := tt
  obtain ⟨sp, hcp, _⟩ := inv_pa xt
  obtain rfl := recPa.inj hcp
  have tv' := tv
  obtain ⟨vk, va1, vb, vop, vp, vrg, vnm, vrs, vag, hva, ta, tb, tp, _, _, _⟩ := tv'
  have xv' := xv
  rw [hva] at xv'
  obtain ⟨ra, rb, rp, w1, w2, hcv, xa, _, _, _, _⟩ := inv_va ta tb tp xv'
  have hrv := recVa.inj hcv
  clear hcv xv'
  refine ⟨nx, by omega, by rw [hr]; exact y, ?_⟩
  subst hr
  have a0 : h.cell (A, 0) = some (.int .i64 k) := o.cell 0
  have a2 : h.cell (A, 2) = some (.bool hs) := o.cell 2
  have a3 : h.cells (A, 3) 2 = some (.agg (pac (tl, sp, ()))) := o.cells (j := 3) (m := 2) (show 3 + 2 ≤ 22 by decide)
  have av : h.cells (A, 5) 16 = some (.agg (vac rv)) := o.cells (j := 5) (m := 16) (show 5 + 16 ≤ 22 by decide)
  have am : h.cells (B, 0) 6 = some (.agg (mic m)) := ob.cells (j := 0) (m := 6) (show 0 + 6 ≤ 6 by decide)
  have aa : h.cells (A, 6) 4 = some (.agg (opc ra)) := by
    subst hrv
    exact o.cells (j := 6) (m := 4) (show 6 + 4 ≤ 22 by decide)
  have loc : ∀ H, ∃ H', f32 N (tl, sp, ()) (m.1, m.2.1, m.2.2.1, m.2.2.2.1, m.2.2.2.2.1, m.2.2.2.2.2.1, ()) H = some (wi tl m.2.2.2.2.1.len, H') ∧ Chg [] H H' := fun H => f32_eq (N := N) tl sp m H
  unfold X123
  simp only [Nat.zero_add, Nat.add_zero, a0, bindV_some, cast_int]
  by_cases k1 : k = 1
  · subst k1
    rw [inB_1]
    simp only [show eqInt (1 : Int) 1 = true from rfl, show eqInt (1 : Int) 2 = false from rfl, show eqInt (1 : Int) 3 = false from rfl, show eqInt (1 : Int) 4 = false from rfl, show eqInt (1 : Int) 5 = false from rfl, show eqInt (1 : Int) 6 = false from rfl, cond_true, cond_false, av, recVa.agg, need_some, am, aggM]
    obtain ⟨H1, e, c1⟩ := f31_eq (N := N) hN tv m xv
    have e' : f31 N (rv.1, rv.2.1, rv.2.2.1, rv.2.2.2.1, rv.2.2.2.2.1, rv.2.2.2.2.2.1, rv.2.2.2.2.2.2.1, rv.2.2.2.2.2.2.2.1, rv.2.2.2.2.2.2.2.2.1, rv.2.2.2.2.2.2.2.2.2.1, rv.2.2.2.2.2.2.2.2.2.2.1, rv.2.2.2.2.2.2.2.2.2.2.2.1, rv.2.2.2.2.2.2.2.2.2.2.2.2.1, rv.2.2.2.2.2.2.2.2.2.2.2.2.2.1, rv.2.2.2.2.2.2.2.2.2.2.2.2.2.2.1, rv.2.2.2.2.2.2.2.2.2.2.2.2.2.2.2.1, ()) (m.1, m.2.1, m.2.2.1, m.2.2.2.1, m.2.2.2.2.1, m.2.2.2.2.2.1, ()) h = some (vaB m.2.2.2.2.1.len m.2.2.1 va, H1) := e
    rw [e', bind2_some]
    cases vaB m.2.2.2.2.1.len m.2.2.1 va with
    | false => exact .inl ⟨false, 1, 1, H1, rfl, c1, rfl, by rw [Bool.false_and]⟩
    | true =>
      have o1 := o.chg c1 (by simp)
      have b2 : H1.cell (A, 2) = some (.bool hs) := o1.cell 2
      have b3 : H1.cells (A, 3) 2 = some (.agg (pac (tl, sp, ()))) := o1.cells (j := 3) (m := 2) (show 3 + 2 ≤ 22 by decide)
      have bm : H1.cells (B, 0) 6 = some (.agg (mic m)) := (ob.chg c1 (by simp)).cells (j := 0) (m := 6) (show 0 + 6 ≤ 6 by decide)
      simp only [cond_true, b2, bindV_some, cast_bool, Bool.true_and]
      cases hs with
      | false => exact .inl ⟨true, 1, 1, H1, rfl, c1, rfl, rfl⟩
      | true =>
        simp only [Bool.not_true, cond_false, b3, recPa.agg, need_some, bm, aggM, Bool.false_or]
        obtain ⟨H2, e2, c2⟩ := loc H1
        rw [e2, bind2_some]
        exact .inl ⟨_, 1, 1, H2, rfl, c1.trans c2, rfl, rfl⟩
  by_cases k2 : k = 2
  · rw [inB_2 (.inl k2)]
    subst k2
    simp only [show eqInt (2 : Int) 1 = false from rfl, show eqInt (2 : Int) 2 = true from rfl, show eqInt (2 : Int) 3 = false from rfl, show eqInt (2 : Int) 4 = false from rfl, show eqInt (2 : Int) 5 = false from rfl, show eqInt (2 : Int) 6 = false from rfl, cond_true, cond_false, bind2_some, need_some, Nat.zero_add, Nat.add_zero, a3, recPa.agg, am, aggM]
    obtain ⟨H2, e2, c2⟩ := loc h
    rw [e2, bind2_some]
    exact .inl ⟨_, 1, 1, H2, rfl, c2, rfl, rfl⟩
  by_cases k3 : k = 3
  · rw [inB_2 (.inr k3)]
    subst k3
    simp only [show eqInt (3 : Int) 1 = false from rfl, show eqInt (3 : Int) 2 = false from rfl, show eqInt (3 : Int) 3 = true from rfl, show eqInt (3 : Int) 4 = false from rfl, show eqInt (3 : Int) 5 = false from rfl, show eqInt (3 : Int) 6 = false from rfl, cond_true, cond_false, bind2_some, need_some, Nat.zero_add, Nat.add_zero, a3, recPa.agg, am, aggM]
    obtain ⟨H2, e2, c2⟩ := loc h
    rw [e2, bind2_some]
    exact .inl ⟨_, 1, 1, H2, rfl, c2, rfl, rfl⟩
  by_cases k4 : k = 4
  · subst k4
    rw [inB_4]
    simp only [show eqInt (4 : Int) 1 = false from rfl, show eqInt (4 : Int) 2 = false from rfl, show eqInt (4 : Int) 3 = false from rfl, show eqInt (4 : Int) 4 = true from rfl, show eqInt (4 : Int) 5 = false from rfl, show eqInt (4 : Int) 6 = false from rfl, cond_true, cond_false, bind2_some, need_some, Nat.zero_add, Nat.add_zero, show 5 + 1 = 6 from rfl, aa, recOp.agg]
    have ev : vA va = va1 := by rw [hva]; rfl
    rw [ev]
    obtain ⟨H1, p, c1, o1⟩ := recOp.park (z := [(.int .i64 0), (.int .i64 0), (.int .i64 0), (.slice none 0 0 0)]) rfl h ra
    have p' : ∀ {β : Type} (K : Heap → Option β), need ((h.push (.row [(.int .i64 0), (.int .i64 0), (.int .i64 0), (.slice none 0 0 0)] .own)).store (h.next, 0) [(.int .i64 ra.1), (.int .i64 ra.2.1), (.int .i64 ra.2.2.1), (.slice ra.2.2.2.1.a ra.2.2.2.1.len ra.2.2.2.1.cap ra.2.2.2.1.sz)]) K = K H1 := p
    rw [p']
    obtain ⟨ok, on, op, hop, ol, oss, rfl⟩ := ta
    rw [hop] at xa
    obtain ⟨rop, hco, yo⟩ := inv_op ⟨ol, oss, rfl⟩ xa
    obtain rfl := recOp.inj hco
    obtain ⟨so, hco', _⟩ := inv_pa yo
    obtain rfl := recPa.inj hco'
    have b0 : H1.cell (h.next, 0) = some (.int .i64 ok) := o1.cell 0
    have bw : H1.cells (h.next, 0) 4 = some (.agg (opc (ok, on, ol, so, ()))) := o1.cells (j := 0) (m := 4) (show 0 + 4 ≤ 4 by decide)
    have eop : opB m.2.2.2.2.1.len va1 = if ok = 3 ∨ ok = 4 then wi ol m.2.2.2.2.1.len else decide (ok = 1 ∨ ok = 2) := by rw [hop]; rfl
    simp only [b0, bindV_some, cast_int, leI]
    by_cases h1 : 1 ≤ ok
    case neg =>
      have q1 : decide (1 ≤ ok) = false := decide_eq_false h1
      have q2 : opB m.2.2.2.2.1.len va1 = false := by rw [eop, if_neg (by omega), decide_eq_false (by omega)]
      rw [q1, q2]
      exact .inl ⟨false, 2, 2, H1, rfl, c1, rfl, rfl⟩
    have q1 : decide (1 ≤ ok) = true := decide_eq_true h1
    by_cases h2 : ok ≤ 4
    case neg =>
      have q3 : decide (ok ≤ 4) = false := decide_eq_false h2
      have q2 : opB m.2.2.2.2.1.len va1 = false := by rw [eop, if_neg (by omega), decide_eq_false (by omega)]
      rw [q1, q2, q3]
      exact .inl ⟨false, 2, 2, H1, rfl, c1, rfl, rfl⟩
    have q3 : decide (ok ≤ 4) = true := decide_eq_true h2
    rw [q1, q3, bw]
    simp only [cond_true, recOp.agg]
    obtain ⟨H2, e2, c2⟩ := f33_eq (N := N) ok on ol so H1
    rw [e2, bind2_some]
    by_cases h3 : ok = 3 ∨ ok = 4
    · have q4 : decide (ok = 3 ∨ ok = 4) = true := decide_eq_true h3
      have b3 : H2.cells (h.next, 2) 2 = some (.agg (pac (ol, so, ()))) := (o1.chg c2 (by simp)).cells (j := 2) (m := 2) (show 2 + 2 ≤ 4 by decide)
      have bm : H2.cells (B, 0) 6 = some (.agg (mic m)) := ((ob.chg c1 (by simp)).chg c2 (by simp)).cells (j := 0) (m := 6) (show 0 + 6 ≤ 6 by decide)
      rw [q4]
      simp only [Bool.not_true, cond_false, b3, recPa.agg, need_some, bm, aggM]
      obtain ⟨H3, e3, c3⟩ := f32_eq (N := N) ol so m H2
      have e3' : f32 N (ol, so, ()) (m.1, m.2.1, m.2.2.1, m.2.2.2.1, m.2.2.2.2.1, m.2.2.2.2.2.1, ()) H2 = some (wi ol m.2.2.2.2.1.len, H3) := e3
      rw [e3', bind2_some, eop, if_pos h3]
      exact .inl ⟨_, 2, 2, H3, rfl, (c1.trans c2).trans c3, rfl, rfl⟩
    · have q4 : decide (ok = 3 ∨ ok = 4) = false := decide_eq_false h3
      have q5 : opB m.2.2.2.2.1.len va1 = true := by rw [eop, if_neg h3]; exact decide_eq_true (by omega)
      rw [q4, q5]
      exact .inl ⟨true, 2, 2, H2, rfl, c1.trans c2, rfl, rfl⟩
  by_cases k5 : k = 5
  · subst k5
    rw [inB_5]
    simp only [show eqInt (5 : Int) 1 = false from rfl, show eqInt (5 : Int) 2 = false from rfl, show eqInt (5 : Int) 3 = false from rfl, show eqInt (5 : Int) 4 = false from rfl, show eqInt (5 : Int) 5 = true from rfl, show eqInt (5 : Int) 6 = false from rfl, cond_true, cond_false, bind2_some, need_some]
    exact .inl ⟨true, 1, 1, h, rfl, Chg.refl _ _, rfl, rfl⟩
  by_cases k6 : k = 6
  · subst k6
    rw [inB_6]
    simp only [show eqInt (6 : Int) 1 = false from rfl, show eqInt (6 : Int) 2 = false from rfl, show eqInt (6 : Int) 3 = false from rfl, show eqInt (6 : Int) 4 = false from rfl, show eqInt (6 : Int) 5 = false from rfl, show eqInt (6 : Int) 6 = true from rfl, cond_true, cond_false, bind2_some, need_some]
    exact .inl ⟨true, 0, 0, h, rfl, Chg.refl _ _, rfl, rfl⟩
  have z : ∀ c : Int, k ≠ c → eqInt k c = false := fun c h => by rw [eqI, decide_eq_false h]
  simp only [z _ k1, z _ k2, z _ k3, z _ k4, z _ k5, z _ k6, cond_false, bind2_some, need_some]
  refine .inr ⟨trivial, ?_⟩
  simp only [itD, paD, inB, k1, k2, k3, k4, k5, k6, or_self, if_false, Bool.false_and]
abbrev zeroI : List AV := [(.int .i64 0), (.int .i64 0), (.bool false), (.int .i64 0), (.slice none 0 0 0), (.int .i64 0), (.int .i64 0), (.int .i64 0), (.int .i64 0), (.slice none 0 0 0), (.int .i64 0), (.int .i64 0), (.int .i64 0), (.slice none 0 0 0), (.int .i64 0), (.int .i64 0), (.slice none 0 0 0), (.int .i64 0), (.str []), (.slice none 0 0 0), (.slice none 0 0 0), (.slice none 0 0 0)]
theorem in_loop (hN : 1000001 ≤ N) {B : Nat} {m : MiV} {xs : List D} (hl : xs.length ≤ 1000000) (ht : ∀ o ∈ xs, isIn o) : ∀ (M i : Nat) (h : Heap), h.own B (mic m) → Sl h V m.2.2.2.2.2.1 xs → i ≤ xs.length → xs.length - i < M → ∃ h', Chg [] h h' ∧
    (((xs.drop i).all (inB m.2.2.2.2.1.len m.2.2.1 xs.length) = true ∧ f19_l4 N M (some (B, 0)) false (i : Int) h = some (.exit 6, (false, ()), h')) ∨
    ((xs.drop i).all (inB m.2.2.2.2.1.len m.2.2.1 xs.length) = false ∧ f19_l4 N M (some (B, 0)) false (i : Int) h = some (.ret, (false, ()), h'))) := by
  intro M
  induction M with
  | zero => intro i h _ _ _ h; omega
  | succ M ih =>
    intro i h o x hi hM
    rw [f19_l4_succ, l4_c]
    unfold f19_l4_c
    have a5 : h.cell (B, 5) = some (.slice m.2.2.2.2.2.1.a m.2.2.2.2.2.1.len m.2.2.2.2.2.1.cap m.2.2.2.2.2.1.sz) := o.cell 5
    simp only [need_some, Nat.zero_add, a5, bindV_some, cast_slice, lt_nat, x.len]
    by_cases w : i < xs.length
    · simp only [w, decide_true, cond_true]
      obtain ⟨r, hr, d⟩ := recIn.elt x w (ht _ (List.getElem_mem w))
      have hix : ∀ {β : Type} (K : Nat × Nat → Option β), ixK m.2.2.2.2.2.1.a xs.length (i : Int) 22 K = K (m.2.2.2.2.2.1.at i 22) := fun K => by
        have := x.ix w 22 K
        rwa [x.len] at this
      rw [hix, hr, recIn.agg]
      obtain ⟨H, p, c, o1⟩ := recIn.park (z := zeroI) rfl h r
      have p' : ∀ {β : Type} (K : Heap → Option β), need ((h.push (.row zeroI .own)).store (h.next, 0) (rowI r)) K = K H := p
      rw [p']
      have ob := o.chg c (by simp)
      have xx := x.chg c (by simp)
      obtain ⟨nx, hnx, y, hh⟩ := x123_eq hN (ht _ (List.getElem_mem w)) o1 ob (Dt.chg c (by simp) d) (i : Int)
      rw [List.drop_eq_getElem_cons w, List.all_cons]
      rcases hh with ⟨f, n, n', H2, hc', c2, e, eb⟩ | ⟨e, eb⟩
      · have kk := k123_eq hN (o1.chg c2 (by simp)) (ob.chg c2 (by simp)) (y.chg c2 (by simp)) hnx f n hc' (i : Int)
        rw [x.len] at kk eb
        rw [e, need_some, kk, eb]
        cases hw : nxB xs.length f n nx with
        | true =>
          rw [if_pos rfl, need_some, Bool.true_and]
          unfold K165
          simp only [jcase_inl]
          rw [wrap_succ (by omega)]
          obtain ⟨h', c', d'⟩ := ih (i + 1) H2 (ob.chg c2 (by simp)) (xx.chg c2 (by simp)) w (by omega)
          exact ⟨h', (c.trans c2).trans c', d'⟩
        | false =>
          rw [if_neg (by simp), need_some, Bool.false_and]
          exact ⟨H2, c.trans c2, .inr ⟨rfl, rfl⟩⟩
      · rw [x.len] at eb
        rw [e, need_some, eb, Bool.false_and]
        exact ⟨H, c, .inr ⟨rfl, rfl⟩⟩
    · rw [List.drop_eq_nil_of_le (by omega)]
      have z : decide (i < xs.length) = false := decide_eq_false w
      rw [z]
      exact ⟨h, Chg.refl _ _, .inl ⟨rfl, rfl⟩⟩
theorem f19_eq (hN : 1000001 ≤ N) {a f r : Int} {kn lo co : List D} (t : isMi kn lo co) {m : MiV} (x : Dt h V (miD a f r kn lo co) (mic m)) : ∃ h', f19 N m h = some (miB (miD a f r kn lo co), h') ∧ Chg [] h h' := by
  obtain ⟨s1, s2, s3, hc, x1, x2, x3⟩ := inv_mi x
  have hm : m = (a, f, r, s1, s2, s3, ()) := by
    have h1 := aggM m (fun x => some x)
    rw [hc, aggM] at h1
    exact (Option.some.inj h1).symm
  unfold f19
  have o := own_push h (mic m)
  have c := chg_push h (.row (mic m) .own)
  have e1 : h.push (.row [(.int .i64 m.1), (.int .i64 m.2.1), (.int .i64 m.2.2.1), (.slice m.2.2.2.1.a m.2.2.2.1.len m.2.2.2.1.cap m.2.2.2.1.sz), (.slice m.2.2.2.2.1.a m.2.2.2.2.1.len m.2.2.2.2.1.cap m.2.2.2.2.1.sz), (.slice m.2.2.2.2.2.1.a m.2.2.2.2.2.1.len m.2.2.2.2.2.1.cap m.2.2.2.2.2.1.sz)] .own) = h.push (.row (mic m) .own) := rfl
  dsimp only
  rw [e1]
  have x1 := x1.chg c (by simp)
  have x2 := x2.chg c (by simp)
  have x3 := x3.chg c (by simp)
  generalize h.push (.row (mic m) .own) = H at *
  subst hm
  have a1 : H.cell (h.next, 1) = some (.int .i64 f) := o.cell 1
  have a2 : H.cell (h.next, 2) = some (.int .i64 r) := o.cell 2
  have a4 : H.cell (h.next, 4) = some (.slice s2.a s2.len s2.cap s2.sz) := o.cell 4
  have a5 : H.cell (h.next, 5) = some (.slice s3.a s3.len s3.cap s3.sz) := o.cell 5
  have i2 : ∀ n : Nat, Int.ofNat n = (n : Int) := fun _ => rfl
  simp only [Nat.zero_add, a1, a2, a4, a5, bindV_some, cast_int, cast_slice, x2.len, x3.len, i2, ltI]
  simp only [miD, miB]
  by_cases h1 : 0 ≤ f
  case neg =>
    have q1 : decide (f < 0) = true := decide_eq_true (by omega)
    have q2 : decide (0 ≤ f) = false := decide_eq_false h1
    simp only [q1, q2, cond_true, Bool.false_and, need_some, jcase_inr, jcase_inl]
    exact ⟨H, rfl, c⟩
  have q1 : decide (f < 0) = false := decide_eq_false (by omega)
  have q1' : decide (0 ≤ f) = true := decide_eq_true h1
  simp only [q1, q1', cond_false, Bool.true_and]
  by_cases h2 : f ≤ r
  case neg =>
    have q1 : decide (r < f) = true := decide_eq_true (by omega)
    have q2 : decide (f ≤ r) = false := decide_eq_false h2
    simp only [q1, q2, cond_true, Bool.false_and, need_some, jcase_inr, jcase_inl]
    exact ⟨H, rfl, c⟩
  have q2 : decide (r < f) = false := decide_eq_false (by omega)
  have q2' : decide (f ≤ r) = true := decide_eq_true h2
  simp only [q2, q2', cond_false, Bool.true_and]
  by_cases h3 : r ≤ 1048576
  case neg =>
    have q1 : decide (1048576 < r) = true := decide_eq_true (by omega)
    have q2 : decide (r ≤ 1048576) = false := decide_eq_false h3
    simp only [q1, q2, cond_true, Bool.false_and, need_some, jcase_inr, jcase_inl]
    exact ⟨H, rfl, c⟩
  have q3 : decide (1048576 < r) = false := decide_eq_false (by omega)
  have q3' : decide (r ≤ 1048576) = true := decide_eq_true h3
  simp only [q3, q3', cond_false, Bool.true_and]
  by_cases h4 : 1 ≤ lo.length
  case neg =>
    have q1 : decide ((lo.length : Int) < 1) = true := decide_eq_true (by omega)
    have q2 : decide (1 ≤ lo.length ∧ lo.length ≤ 6000) = false := decide_eq_false (by omega)
    simp only [q1, q2, cond_true, Bool.false_and, need_some, jcase_inr, jcase_inl]
    exact ⟨H, rfl, c⟩
  have q4 : decide ((lo.length : Int) < 1) = false := decide_eq_false (by omega)
  simp only [q4, cond_false]
  by_cases h5 : lo.length ≤ 6000
  case neg =>
    have q1 : decide (6000 < (lo.length : Int)) = true := decide_eq_true (by omega)
    have q2 : decide (1 ≤ lo.length ∧ lo.length ≤ 6000) = false := decide_eq_false (by omega)
    simp only [q1, q2, cond_true, Bool.false_and, need_some, jcase_inr, jcase_inl]
    exact ⟨H, rfl, c⟩
  have q5 : decide (6000 < (lo.length : Int)) = false := decide_eq_false (by omega)
  have q5' : decide (1 ≤ lo.length ∧ lo.length ≤ 6000) = true := decide_eq_true ⟨h4, h5⟩
  simp only [q5, q5', cond_false, Bool.true_and]
  by_cases h6 : 1 ≤ co.length
  case neg =>
    have q1 : decide ((co.length : Int) < 1) = true := decide_eq_true (by omega)
    have q2 : decide (1 ≤ co.length ∧ co.length ≤ 6000) = false := decide_eq_false (by omega)
    simp only [q1, q2, cond_true, Bool.false_and, need_some, jcase_inr, jcase_inl]
    exact ⟨H, rfl, c⟩
  have q6 : decide ((co.length : Int) < 1) = false := decide_eq_false (by omega)
  simp only [q6, cond_false]
  by_cases h7 : co.length ≤ 6000
  case neg =>
    have q1 : decide (6000 < (co.length : Int)) = true := decide_eq_true (by omega)
    have q2 : decide (1 ≤ co.length ∧ co.length ≤ 6000) = false := decide_eq_false (by omega)
    simp only [q1, q2, cond_true, Bool.false_and, need_some, jcase_inr, jcase_inl]
    exact ⟨H, rfl, c⟩
  have q7 : decide (6000 < (co.length : Int)) = false := decide_eq_false (by omega)
  have q7' : decide (1 ≤ co.length ∧ co.length ≤ 6000) = true := decide_eq_true ⟨h6, h7⟩
  simp only [q7, q7', cond_false, Bool.true_and, need_some, jcase_inl]
  have KL := kn_loop hN t.l1 t.p1 o x1 N 0 (Nat.zero_le _) (by have := t.l1; omega)
  rw [List.drop_zero, show ((0 : Nat) : Int) = 0 from rfl] at KL
  rcases KL with ⟨k1, e⟩ | ⟨k1, e⟩
  case inr =>
    rw [e, show kn.all (pairB f) = false from k1]
    exact ⟨H, by simp [bind3_some, show eqOut .ret (.exit 0) = false from rfl], c⟩
  rw [e, show kn.all (pairB f) = true from k1]
  simp only [bind3_some, eqOut_exit, decide_true, cond_true, Bool.true_and]
  obtain ⟨H2, c2, d2⟩ := lo_loop hN t.l2 t.p2 N 0 H o x2 (Nat.zero_le _) (by omega)
  rw [List.drop_zero, show ((0 : Nat) : Int) = 0 from rfl] at d2
  have c02 := c.trans c2
  rcases d2 with ⟨k2, e⟩ | ⟨k2, e⟩
  case inr =>
    rw [e, show lo.all (locB r) = false from k2]
    exact ⟨H2, by simp [bind3_some, show eqOut .ret (.exit 4) = false from rfl], c02⟩
  rw [e, show lo.all (locB r) = true from k2]
  simp only [bind3_some, eqOut_exit, decide_true, cond_true, Bool.true_and]
  obtain ⟨H3, c3, d3⟩ := in_loop hN t.l3 t.p3 N 0 H2 (o.chg c2 (by simp)) (x3.chg c2 (by simp)) (Nat.zero_le _) (by omega)
  rw [List.drop_zero, show ((0 : Nat) : Int) = 0 from rfl] at d3
  have c03 := c02.trans c3
  rcases d3 with ⟨k3, e⟩ | ⟨k3, e⟩
  · have k3' : co.all (inB lo.length r co.length) = true := by rw [← k3]; simp only [x2.len]
    rw [e, k3']
    exact ⟨H3, rfl, c03⟩
  · have k3' : co.all (inB lo.length r co.length) = false := by rw [← k3]; simp only [x2.len]
    rw [e, k3']
    exact ⟨H3, rfl, c03⟩
end
end Go.Proofs.YtjeaammlambkeaaDoor.My

set_option linter.unusedVariables false
set_option linter.unusedSimpArgs false
set_option maxRecDepth 100000
open Go Go.Proofs.YtjeaammlambkeaaDoor.Ai Go.Proofs
namespace Go.Proofs.YtjeaammlambkeaaDoor.My
/-! mir.Same: what it says equal is equal -/
theorem und3 : E.und 3 = some (.int .i64) := by kernel_rfl
theorem cmp60 : E.cmp 60 = true := by kernel_rfl
theorem ag3 : E.isAgg 3 = some false := by kernel_rfl
theorem neq_pair (o1 o2 : Operand) (a b c d : Int) : binA E .neq 60 o1 o2 (.agg [.int .i64 a, .int .i64 b]) (.agg [.int .i64 c, .int .i64 d]) = some (.bool (!(eqInt a c && eqInt b d))) := by
  have p : ∀ (x : AV) (r : List AV), partA E 3 (x :: r) 0 = some x := fun x r => by
    unfold partA; rw [ag3]; rfl
  have q : ∀ x y : Int, eqA E 8 3 (.int .i64 x) (.int .i64 y) = some (eqInt x y) := fun x y => by
    unfold eqA; rw [und3]; rfl
  have e : eqA E 9 60 (.agg [.int .i64 a, .int .i64 b]) (.agg [.int .i64 c, .int .i64 d]) = some (eqInt a c && eqInt b d) := by
    unfold eqA
    rw [u60]
    simp only [z3, eqArr, p, q, List.drop_succ_cons, List.drop_zero]
    cases eqInt a c <;> cases eqInt b d <;> rfl
  simp only [binA, eqlA, cmpA, cmp60, cond_true, e]
theorem wrap_max {i : Nat} (h : i + 1 ≤ 9223372036854775807) : wrapA .i64 ((i : Int) + 1) = ((i + 1 : Nat) : Int) := by rw [wrapA_small (by omega) (by omega)]; rfl
section
variable {N : Nat} {h : Heap} {V W : Nat → Prop}
theorem f60_loop {s t : SL} {xs ys : List Int} (x : Sl h V s (xs.map D.i)) (y : Sl h W t (ys.map D.i)) (he : xs.length = ys.length) (hl : xs.length ≤ 9223372036854775807) : ∀ M i : Nat, i ≤ xs.length → xs.length - i < M →
    (f60_l1 N M s t false (xs.length : Int) (i : Int) h = some (.exit 0, (false, ()), h) ∧ xs.drop i = ys.drop i) ∨ f60_l1 N M s t false (xs.length : Int) (i : Int) h = some (.ret, (false, ()), h) := by
  intro M
  induction M with
  | zero => intro i _ h; omega
  | succ M ih =>
    intro i hi hM
    rw [f60_l1_succ]
    unfold f60_l1_b
    simp only [lt_nat']
    by_cases w : i < xs.length
    · simp only [w, decide_true, cond_true]
      have w2 : i < ys.length := by omega
      rw [x.ix (by rw [List.length_map]; exact w) 1, sl_int x w, bindV_some, cast_int, y.ix (by rw [List.length_map]; exact w2) 1, sl_int y w2, bindV_some, cast_int, eqI]
      by_cases hk : xs[i] = ys[i]
      · have z : decide (xs[i] = ys[i]) = true := decide_eq_true hk
        rw [z]
        simp only [Bool.not_true, cond_false]
        rw [wrap_max (by omega), List.drop_eq_getElem_cons w, List.drop_eq_getElem_cons w2, hk]
        rcases ih (i + 1) w (by omega) with ⟨e, r⟩ | e
        · exact .inl ⟨e, by rw [r]⟩
        · exact .inr e
      · have z : decide (xs[i] = ys[i]) = false := decide_eq_false hk
        rw [z]
        exact .inr rfl
    · have z : decide (i < xs.length) = false := decide_eq_false w
      rw [z, List.drop_eq_nil_of_le (by omega), List.drop_eq_nil_of_le (by omega)]
      exact .inl ⟨rfl, rfl⟩
theorem f60_eq {s t : SL} {xs ys : List Int} (x : Sl h V s (xs.map D.i)) (y : Sl h W t (ys.map D.i)) (hl : xs.length ≤ 9223372036854775807) (hN : 9223372036854775807 < N) : ∃ b, f60 N s t h = some (b, h) ∧ (b = true → xs = ys) := by
  unfold f60
  have l1 : s.len = xs.length := by rw [x.len, List.length_map]
  have l2 : t.len = ys.length := by rw [y.len, List.length_map]
  rw [lenI, l1, l2]
  by_cases he : xs.length = ys.length
  · have z : decide (xs.length = ys.length) = true := decide_eq_true he
    rw [z]
    simp only [Bool.not_true, cond_false]
    have L := f60_loop (N := N) x y he hl N 0 (Nat.zero_le _) (by omega)
    rw [List.drop_zero, List.drop_zero, show ((0 : Nat) : Int) = 0 from rfl] at L
    rw [show Int.ofNat xs.length = (xs.length : Int) from rfl]
    rcases L with ⟨e, r⟩ | e
    · rw [e]
      simp only [bind3_some, eqOut_exit, decide_true, cond_true]
      exact ⟨true, rfl, fun _ => r⟩
    · rw [e]
      simp only [bind3_some, show eqOut .ret (.exit 0) = false from rfl, cond_false]
      exact ⟨false, rfl, fun h => by cases h⟩
  · have z : decide (xs.length = ys.length) = false := decide_eq_false he
    rw [z]
    exact ⟨false, rfl, fun h => by cases h⟩
theorem f23_loop {s t : SL} {xs ys : List Bs} (x : Sl h V s (xs.map D.s)) (y : Sl h W t (ys.map D.s)) (he : xs.length = ys.length) (hl : xs.length ≤ 9223372036854775807) : ∀ M i : Nat, i ≤ xs.length → xs.length - i < M →
    (f23_l1 N M s t false (xs.length : Int) (i : Int) h = some (.exit 0, (false, ()), h) ∧ xs.drop i = ys.drop i) ∨ f23_l1 N M s t false (xs.length : Int) (i : Int) h = some (.ret, (false, ()), h) := by
  intro M
  induction M with
  | zero => intro i _ h; omega
  | succ M ih =>
    intro i hi hM
    rw [f23_l1_succ]
    unfold f23_l1_b
    simp only [lt_nat']
    by_cases w : i < xs.length
    · simp only [w, decide_true, cond_true]
      have w2 : i < ys.length := by omega
      rw [x.ix (by rw [List.length_map]; exact w) 1, sl_str x w, bindV_some, cast_str, y.ix (by rw [List.length_map]; exact w2) 1, sl_str y w2, bindV_some, cast_str, eqBy]
      by_cases hk : xs[i] = ys[i]
      · have z : decide (xs[i] = ys[i]) = true := decide_eq_true hk
        rw [z]
        simp only [Bool.not_true, cond_false]
        rw [wrap_max (by omega), List.drop_eq_getElem_cons w, List.drop_eq_getElem_cons w2, hk]
        rcases ih (i + 1) w (by omega) with ⟨e, r⟩ | e
        · exact .inl ⟨e, by rw [r]⟩
        · exact .inr e
      · have z : decide (xs[i] = ys[i]) = false := decide_eq_false hk
        rw [z]
        exact .inr rfl
    · have z : decide (i < xs.length) = false := decide_eq_false w
      rw [z, List.drop_eq_nil_of_le (by omega), List.drop_eq_nil_of_le (by omega)]
      exact .inl ⟨rfl, rfl⟩
theorem f23_eq {s t : SL} {xs ys : List Bs} (x : Sl h V s (xs.map D.s)) (y : Sl h W t (ys.map D.s)) (hl : xs.length ≤ 9223372036854775807) (hN : 9223372036854775807 < N) : ∃ b, f23 N s t h = some (b, h) ∧ (b = true → xs = ys) := by
  unfold f23
  have l1 : s.len = xs.length := by rw [x.len, List.length_map]
  have l2 : t.len = ys.length := by rw [y.len, List.length_map]
  rw [lenI, l1, l2]
  by_cases he : xs.length = ys.length
  · have z : decide (xs.length = ys.length) = true := decide_eq_true he
    rw [z]
    simp only [Bool.not_true, cond_false]
    have L := f23_loop (N := N) x y he hl N 0 (Nat.zero_le _) (by omega)
    rw [List.drop_zero, List.drop_zero, show ((0 : Nat) : Int) = 0 from rfl] at L
    rw [show Int.ofNat xs.length = (xs.length : Int) from rfl]
    rcases L with ⟨e, r⟩ | e
    · rw [e]
      simp only [bind3_some, eqOut_exit, decide_true, cond_true]
      exact ⟨true, rfl, fun _ => r⟩
    · rw [e]
      simp only [bind3_some, show eqOut .ret (.exit 0) = false from rfl, cond_false]
      exact ⟨false, rfl, fun h => by cases h⟩
  · have z : decide (xs.length = ys.length) = false := decide_eq_false he
    rw [z]
    exact ⟨false, rfl, fun h => by cases h⟩
theorem f40_loop {s t : SL} {xs ys : List D} (px : ∀ d ∈ xs, isPr d) (py : ∀ d ∈ ys, isPr d) (x : Sl h V s xs) (y : Sl h W t ys) (he : xs.length = ys.length) (hl : xs.length ≤ 9223372036854775807) : ∀ M i : Nat, i ≤ xs.length → xs.length - i < M →
    (f40_l1 N M s t false (xs.length : Int) (i : Int) h = some (.exit 0, (false, ()), h) ∧ xs.drop i = ys.drop i) ∨ f40_l1 N M s t false (xs.length : Int) (i : Int) h = some (.ret, (false, ()), h) := by
  intro M
  induction M with
  | zero => intro i _ h; omega
  | succ M ih =>
    intro i hi hM
    rw [f40_l1_succ]
    unfold f40_l1_b
    simp only [lt_nat']
    by_cases w : i < xs.length
    · simp only [w, decide_true, cond_true]
      have w2 : i < ys.length := by omega
      obtain ⟨a, b, hab⟩ := px _ (List.getElem_mem w)
      obtain ⟨c, d, hcd⟩ := py _ (List.getElem_mem w2)
      obtain ⟨r, hr, dr⟩ := recPr.elt x w ⟨a, b, hab⟩
      obtain ⟨q, hq, dq⟩ := recPr.elt y w2 ⟨c, d, hcd⟩
      rw [hab] at dr
      rw [hcd] at dq
      obtain rfl := recPr.inj (inv_pr dr)
      obtain rfl := recPr.inj (inv_pr dq)
      rw [x.ix w 2, hr, recPr.agg, y.ix w2 2, hq, recPr.agg, neq_pair, bindV_some, cast_bool, eqI, eqI]
      by_cases hk : a = c ∧ b = d
      · obtain ⟨rfl, rfl⟩ := hk
        have z : ∀ n : Int, decide (n = n) = true := fun n => decide_eq_true rfl
        rw [z, z]
        simp only [Bool.and_true, Bool.not_true, cond_false]
        rw [wrap_max (by omega), List.drop_eq_getElem_cons w, List.drop_eq_getElem_cons w2, hab, hcd]
        rcases ih (i + 1) w (by omega) with ⟨e, r⟩ | e
        · exact .inl ⟨e, by rw [r]⟩
        · exact .inr e
      · have z : (decide (a = c) && decide (b = d)) = false := by
          rw [← Bool.decide_and]; exact decide_eq_false hk
        rw [z]
        exact .inr rfl
    · have z : decide (i < xs.length) = false := decide_eq_false w
      rw [z, List.drop_eq_nil_of_le (by omega), List.drop_eq_nil_of_le (by omega)]
      exact .inl ⟨rfl, rfl⟩
theorem f40_eq {s t : SL} {xs ys : List D} (px : ∀ d ∈ xs, isPr d) (py : ∀ d ∈ ys, isPr d) (x : Sl h V s xs) (y : Sl h W t ys) (hl : xs.length ≤ 9223372036854775807) (hN : 9223372036854775807 < N) : ∃ b, f40 N s t h = some (b, h) ∧ (b = true → xs = ys) := by
  unfold f40
  rw [lenI, x.len, y.len]
  by_cases he : xs.length = ys.length
  · have z : decide (xs.length = ys.length) = true := decide_eq_true he
    rw [z]
    simp only [Bool.not_true, cond_false]
    have L := f40_loop (N := N) px py x y he hl N 0 (Nat.zero_le _) (by omega)
    rw [List.drop_zero, List.drop_zero, show ((0 : Nat) : Int) = 0 from rfl] at L
    rw [show Int.ofNat xs.length = (xs.length : Int) from rfl]
    rcases L with ⟨e, r⟩ | e
    · rw [e]
      simp only [bind3_some, eqOut_exit, decide_true, cond_true]
      exact ⟨true, rfl, fun _ => r⟩
    · rw [e]
      simp only [bind3_some, show eqOut .ret (.exit 0) = false from rfl, cond_false]
      exact ⟨false, rfl, fun h => by cases h⟩
  · have z : decide (xs.length = ys.length) = false := decide_eq_false he
    rw [z]
    exact ⟨false, rfl, fun h => by cases h⟩
/-- what a comparison says -/
def Cmp (f : Heap → Option (Bool × Heap)) (d e : D) (h : Heap) : Prop := ∃ b h', f h = some (b, h') ∧ Chg [] h h' ∧ (b = true → d = e)
abbrev rowT (x : TyV) : List AV := [(.int .i64 x.1), (.str x.2.1), (.slice x.2.2.1.a x.2.2.1.len x.2.2.1.cap x.2.2.1.sz), (.slice x.2.2.2.1.a x.2.2.2.1.len x.2.2.2.1.cap x.2.2.2.1.sz)]
abbrev zeroT : List AV := [(.int .i64 0), (.str []), (.slice none 0 0 0), (.slice none 0 0 0)]
abbrev rowO (x : OpV) : List AV := [(.int .i64 x.1), (.int .i64 x.2.1), (.int .i64 x.2.2.1), (.slice x.2.2.2.1.a x.2.2.2.1.len x.2.2.2.1.cap x.2.2.2.1.sz)]
abbrev zeroO : List AV := [(.int .i64 0), (.int .i64 0), (.int .i64 0), (.slice none 0 0 0)]
abbrev rowP (x : PaV) : List AV := [(.int .i64 x.1), (.slice x.2.1.a x.2.1.len x.2.1.cap x.2.1.sz)]
theorem f41c42_loop {P : D → Prop} (hP : ∀ d, P d → isLo d) (body : ∀ (d e : D) (r q : LoV) (h : Heap) (V W : Nat → Prop), P d → P e → Dt h V d (loc r) → Dt h W e (loc q) → Cmp (fun h => f42 N r q h) d e h) {s t : SL} {xs ys : List D} (px : ∀ d ∈ xs, P d) (py : ∀ d ∈ ys, P d) (he : xs.length = ys.length) (hl : xs.length ≤ 9223372036854775807) : ∀ (M i : Nat) (h : Heap), Sl h V s xs → Sl h W t ys → i ≤ xs.length → xs.length - i < M → ∃ h', Chg [] h h' ∧
    ((f41c42_l1 N M t () false s (xs.length : Int) (i : Int) h = some (.exit 0, (false, ()), h') ∧ xs.drop i = ys.drop i) ∨ f41c42_l1 N M t () false s (xs.length : Int) (i : Int) h = some (.ret, (false, ()), h')) := by
  intro M
  induction M with
  | zero => intro i h _ _ _ h; omega
  | succ M ih =>
    intro i h x y hi hM
    rw [f41c42_l1_succ]
    unfold f41c42_l1_b
    simp only [lt_nat']
    by_cases w : i < xs.length
    · simp only [w, decide_true, cond_true]
      have w2 : i < ys.length := by omega
      obtain ⟨r, hr, d⟩ := recLo.elt x w (hP _ (px _ (List.getElem_mem w)))
      rw [x.ix w 6, hr, recLo.agg]
      obtain ⟨H, p, c, o1⟩ := recLo.park (z := zeroL) rfl h r
      have p' : ∀ {β : Type} (K : Heap → Option β), need ((h.push (.row zeroL .own)).store (h.next, 0) (rowL r)) K = K H := p
      rw [p']
      have y1 := y.chg c (by simp)
      obtain ⟨q, hq, dq⟩ := recLo.elt y1 w2 (hP _ (py _ (List.getElem_mem w2)))
      rw [y1.ix w2 6, hq, recLo.agg]
      obtain ⟨H', p2, c2, o2⟩ := recLo.park (z := zeroL) rfl H q
      have p2' : ∀ {β : Type} (K : Heap → Option β), need ((H.push (.row zeroL .own)).store (H.next, 0) (rowL q)) K = K H' := p2
      rw [p2', recLo.cells (o1.chg c2 (by simp)), recLo.cells o2]
      obtain ⟨b, H3, e, c3, hb⟩ := body _ _ r q H' V W (px _ (List.getElem_mem w)) (py _ (List.getElem_mem w2)) (Dt.chg c2 (by simp) (Dt.chg c (by simp) d)) (Dt.chg c2 (by simp) dq)
      have e' : f42 N (r.1, r.2.1, r.2.2.1, r.2.2.2.1, r.2.2.2.2.1, r.2.2.2.2.2.1, ()) (q.1, q.2.1, q.2.2.1, q.2.2.2.1, q.2.2.2.2.1, q.2.2.2.2.2.1, ()) H' = some (b, H3) := e
      rw [e', bind2_some]
      have cc := (c.trans c2).trans c3
      cases b with
      | false => exact ⟨H3, cc, .inr rfl⟩
      | true =>
        simp only [Bool.not_true, cond_false]
        rw [wrap_max (by omega), List.drop_eq_getElem_cons w, List.drop_eq_getElem_cons w2, hb rfl]
        obtain ⟨h', c', hh⟩ := ih (i + 1) H3 (x.chg cc (by simp)) (y.chg cc (by simp)) w (by omega)
        rcases hh with ⟨e, r⟩ | e
        · exact ⟨h', cc.trans c', .inl ⟨e, by rw [r]⟩⟩
        · exact ⟨h', cc.trans c', .inr e⟩
    · have z : decide (i < xs.length) = false := decide_eq_false w
      rw [z, List.drop_eq_nil_of_le (by omega), List.drop_eq_nil_of_le (by omega)]
      exact ⟨h, Chg.refl _ _, .inl ⟨rfl, rfl⟩⟩
theorem f41c42_eq {P : D → Prop} (hP : ∀ d, P d → isLo d) (body : ∀ (d e : D) (r q : LoV) (h : Heap) (V W : Nat → Prop), P d → P e → Dt h V d (loc r) → Dt h W e (loc q) → Cmp (fun h => f42 N r q h) d e h) {s t : SL} {xs ys : List D} (px : ∀ d ∈ xs, P d) (py : ∀ d ∈ ys, P d) (hl : xs.length ≤ 9223372036854775807) (hN : 9223372036854775807 < N) (x : Sl h V s xs) (y : Sl h W t ys) : ∃ b h', f41c42 N s t () h = some (b, h') ∧ Chg [] h h' ∧ (b = true → xs = ys) := by
  unfold f41c42
  rw [lenI, x.len, y.len]
  by_cases he : xs.length = ys.length
  · have z : decide (xs.length = ys.length) = true := decide_eq_true he
    rw [z]
    simp only [Bool.not_true, cond_false]
    obtain ⟨h', c, L⟩ := f41c42_loop (N := N) hP body px py he hl N 0 h x y (Nat.zero_le _) (by omega)
    rw [List.drop_zero, List.drop_zero, show ((0 : Nat) : Int) = 0 from rfl] at L
    rw [show Int.ofNat xs.length = (xs.length : Int) from rfl]
    rcases L with ⟨e, r⟩ | e
    · rw [e]
      simp only [bind3_some, eqOut_exit, decide_true, cond_true]
      exact ⟨true, h', rfl, c, fun _ => r⟩
    · rw [e]
      simp only [bind3_some, show eqOut .ret (.exit 0) = false from rfl, cond_false]
      exact ⟨false, h', rfl, c, fun h => by cases h⟩
  · have z : decide (xs.length = ys.length) = false := decide_eq_false he
    rw [z]
    exact ⟨false, h, rfl, Chg.refl _ _, fun h => by cases h⟩
theorem f70c69_loop {P : D → Prop} (hP : ∀ d, P d → isOp d) (body : ∀ (d e : D) (r q : OpV) (h : Heap) (V W : Nat → Prop), P d → P e → Dt h V d (opc r) → Dt h W e (opc q) → Cmp (fun h => f69 N r q h) d e h) {s t : SL} {xs ys : List D} (px : ∀ d ∈ xs, P d) (py : ∀ d ∈ ys, P d) (he : xs.length = ys.length) (hl : xs.length ≤ 9223372036854775807) : ∀ (M i : Nat) (h : Heap), Sl h V s xs → Sl h W t ys → i ≤ xs.length → xs.length - i < M → ∃ h', Chg [] h h' ∧
    ((f70c69_l1 N M t () false s (xs.length : Int) (i : Int) h = some (.exit 0, (false, ()), h') ∧ xs.drop i = ys.drop i) ∨ f70c69_l1 N M t () false s (xs.length : Int) (i : Int) h = some (.ret, (false, ()), h')) := by
  intro M
  induction M with
  | zero => intro i h _ _ _ h; omega
  | succ M ih =>
    intro i h x y hi hM
    rw [f70c69_l1_succ]
    unfold f70c69_l1_b
    simp only [lt_nat']
    by_cases w : i < xs.length
    · simp only [w, decide_true, cond_true]
      have w2 : i < ys.length := by omega
      obtain ⟨r, hr, d⟩ := recOp.elt x w (hP _ (px _ (List.getElem_mem w)))
      rw [x.ix w 4, hr, recOp.agg]
      obtain ⟨H, p, c, o1⟩ := recOp.park (z := zeroO) rfl h r
      have p' : ∀ {β : Type} (K : Heap → Option β), need ((h.push (.row zeroO .own)).store (h.next, 0) (rowO r)) K = K H := p
      rw [p']
      have y1 := y.chg c (by simp)
      obtain ⟨q, hq, dq⟩ := recOp.elt y1 w2 (hP _ (py _ (List.getElem_mem w2)))
      rw [y1.ix w2 4, hq, recOp.agg]
      obtain ⟨H', p2, c2, o2⟩ := recOp.park (z := zeroO) rfl H q
      have p2' : ∀ {β : Type} (K : Heap → Option β), need ((H.push (.row zeroO .own)).store (H.next, 0) (rowO q)) K = K H' := p2
      rw [p2', recOp.cells (o1.chg c2 (by simp)), recOp.cells o2]
      obtain ⟨b, H3, e, c3, hb⟩ := body _ _ r q H' V W (px _ (List.getElem_mem w)) (py _ (List.getElem_mem w2)) (Dt.chg c2 (by simp) (Dt.chg c (by simp) d)) (Dt.chg c2 (by simp) dq)
      have e' : f69 N (r.1, r.2.1, r.2.2.1, r.2.2.2.1, ()) (q.1, q.2.1, q.2.2.1, q.2.2.2.1, ()) H' = some (b, H3) := e
      rw [e', bind2_some]
      have cc := (c.trans c2).trans c3
      cases b with
      | false => exact ⟨H3, cc, .inr rfl⟩
      | true =>
        simp only [Bool.not_true, cond_false]
        rw [wrap_max (by omega), List.drop_eq_getElem_cons w, List.drop_eq_getElem_cons w2, hb rfl]
        obtain ⟨h', c', hh⟩ := ih (i + 1) H3 (x.chg cc (by simp)) (y.chg cc (by simp)) w (by omega)
        rcases hh with ⟨e, r⟩ | e
        · exact ⟨h', cc.trans c', .inl ⟨e, by rw [r]⟩⟩
        · exact ⟨h', cc.trans c', .inr e⟩
    · have z : decide (i < xs.length) = false := decide_eq_false w
      rw [z, List.drop_eq_nil_of_le (by omega), List.drop_eq_nil_of_le (by omega)]
      exact ⟨h, Chg.refl _ _, .inl ⟨rfl, rfl⟩⟩
theorem f70c69_eq {P : D → Prop} (hP : ∀ d, P d → isOp d) (body : ∀ (d e : D) (r q : OpV) (h : Heap) (V W : Nat → Prop), P d → P e → Dt h V d (opc r) → Dt h W e (opc q) → Cmp (fun h => f69 N r q h) d e h) {s t : SL} {xs ys : List D} (px : ∀ d ∈ xs, P d) (py : ∀ d ∈ ys, P d) (hl : xs.length ≤ 9223372036854775807) (hN : 9223372036854775807 < N) (x : Sl h V s xs) (y : Sl h W t ys) : ∃ b h', f70c69 N s t () h = some (b, h') ∧ Chg [] h h' ∧ (b = true → xs = ys) := by
  unfold f70c69
  rw [lenI, x.len, y.len]
  by_cases he : xs.length = ys.length
  · have z : decide (xs.length = ys.length) = true := decide_eq_true he
    rw [z]
    simp only [Bool.not_true, cond_false]
    obtain ⟨h', c, L⟩ := f70c69_loop (N := N) hP body px py he hl N 0 h x y (Nat.zero_le _) (by omega)
    rw [List.drop_zero, List.drop_zero, show ((0 : Nat) : Int) = 0 from rfl] at L
    rw [show Int.ofNat xs.length = (xs.length : Int) from rfl]
    rcases L with ⟨e, r⟩ | e
    · rw [e]
      simp only [bind3_some, eqOut_exit, decide_true, cond_true]
      exact ⟨true, h', rfl, c, fun _ => r⟩
    · rw [e]
      simp only [bind3_some, show eqOut .ret (.exit 0) = false from rfl, cond_false]
      exact ⟨false, h', rfl, c, fun h => by cases h⟩
  · have z : decide (xs.length = ys.length) = false := decide_eq_false he
    rw [z]
    exact ⟨false, h, rfl, Chg.refl _ _, fun h => by cases h⟩
theorem f43c44_loop {P : D → Prop} (hP : ∀ d, P d → isIn d) (body : ∀ (d e : D) (r q : InV) (h : Heap) (V W : Nat → Prop), P d → P e → Dt h V d (itc r) → Dt h W e (itc q) → Cmp (fun h => f44 N r q h) d e h) {s t : SL} {xs ys : List D} (px : ∀ d ∈ xs, P d) (py : ∀ d ∈ ys, P d) (he : xs.length = ys.length) (hl : xs.length ≤ 9223372036854775807) : ∀ (M i : Nat) (h : Heap), Sl h V s xs → Sl h W t ys → i ≤ xs.length → xs.length - i < M → ∃ h', Chg [] h h' ∧
    ((f43c44_l1 N M t () false s (xs.length : Int) (i : Int) h = some (.exit 0, (false, ()), h') ∧ xs.drop i = ys.drop i) ∨ f43c44_l1 N M t () false s (xs.length : Int) (i : Int) h = some (.ret, (false, ()), h')) := by
  intro M
  induction M with
  | zero => intro i h _ _ _ h; omega
  | succ M ih =>
    intro i h x y hi hM
    rw [f43c44_l1_succ]
    unfold f43c44_l1_b
    simp only [lt_nat']
    by_cases w : i < xs.length
    · simp only [w, decide_true, cond_true]
      have w2 : i < ys.length := by omega
      obtain ⟨r, hr, d⟩ := recIn.elt x w (hP _ (px _ (List.getElem_mem w)))
      rw [x.ix w 22, hr, recIn.agg]
      obtain ⟨H, p, c, o1⟩ := recIn.park (z := zeroI) rfl h r
      have p' : ∀ {β : Type} (K : Heap → Option β), need ((h.push (.row zeroI .own)).store (h.next, 0) (rowI r)) K = K H := p
      rw [p']
      have y1 := y.chg c (by simp)
      obtain ⟨q, hq, dq⟩ := recIn.elt y1 w2 (hP _ (py _ (List.getElem_mem w2)))
      rw [y1.ix w2 22, hq, recIn.agg]
      obtain ⟨H', p2, c2, o2⟩ := recIn.park (z := zeroI) rfl H q
      have p2' : ∀ {β : Type} (K : Heap → Option β), need ((H.push (.row zeroI .own)).store (H.next, 0) (rowI q)) K = K H' := p2
      rw [p2', recIn.cells (o1.chg c2 (by simp)), recIn.cells o2]
      obtain ⟨b, H3, e, c3, hb⟩ := body _ _ r q H' V W (px _ (List.getElem_mem w)) (py _ (List.getElem_mem w2)) (Dt.chg c2 (by simp) (Dt.chg c (by simp) d)) (Dt.chg c2 (by simp) dq)
      have e' : f44 N (r.1, r.2.1, r.2.2.1, r.2.2.2.1, r.2.2.2.2.1, r.2.2.2.2.2.1, r.2.2.2.2.2.2.1, r.2.2.2.2.2.2.2.1, r.2.2.2.2.2.2.2.2.1, r.2.2.2.2.2.2.2.2.2.1, r.2.2.2.2.2.2.2.2.2.2.1, r.2.2.2.2.2.2.2.2.2.2.2.1, r.2.2.2.2.2.2.2.2.2.2.2.2.1, r.2.2.2.2.2.2.2.2.2.2.2.2.2.1, r.2.2.2.2.2.2.2.2.2.2.2.2.2.2.1, r.2.2.2.2.2.2.2.2.2.2.2.2.2.2.2.1, r.2.2.2.2.2.2.2.2.2.2.2.2.2.2.2.2.1, r.2.2.2.2.2.2.2.2.2.2.2.2.2.2.2.2.2.1, r.2.2.2.2.2.2.2.2.2.2.2.2.2.2.2.2.2.2.1, r.2.2.2.2.2.2.2.2.2.2.2.2.2.2.2.2.2.2.2.1, r.2.2.2.2.2.2.2.2.2.2.2.2.2.2.2.2.2.2.2.2.1, r.2.2.2.2.2.2.2.2.2.2.2.2.2.2.2.2.2.2.2.2.2.1, ()) (q.1, q.2.1, q.2.2.1, q.2.2.2.1, q.2.2.2.2.1, q.2.2.2.2.2.1, q.2.2.2.2.2.2.1, q.2.2.2.2.2.2.2.1, q.2.2.2.2.2.2.2.2.1, q.2.2.2.2.2.2.2.2.2.1, q.2.2.2.2.2.2.2.2.2.2.1, q.2.2.2.2.2.2.2.2.2.2.2.1, q.2.2.2.2.2.2.2.2.2.2.2.2.1, q.2.2.2.2.2.2.2.2.2.2.2.2.2.1, q.2.2.2.2.2.2.2.2.2.2.2.2.2.2.1, q.2.2.2.2.2.2.2.2.2.2.2.2.2.2.2.1, q.2.2.2.2.2.2.2.2.2.2.2.2.2.2.2.2.1, q.2.2.2.2.2.2.2.2.2.2.2.2.2.2.2.2.2.1, q.2.2.2.2.2.2.2.2.2.2.2.2.2.2.2.2.2.2.1, q.2.2.2.2.2.2.2.2.2.2.2.2.2.2.2.2.2.2.2.1, q.2.2.2.2.2.2.2.2.2.2.2.2.2.2.2.2.2.2.2.2.1, q.2.2.2.2.2.2.2.2.2.2.2.2.2.2.2.2.2.2.2.2.2.1, ()) H' = some (b, H3) := e
      rw [e', bind2_some]
      have cc := (c.trans c2).trans c3
      cases b with
      | false => exact ⟨H3, cc, .inr rfl⟩
      | true =>
        simp only [Bool.not_true, cond_false]
        rw [wrap_max (by omega), List.drop_eq_getElem_cons w, List.drop_eq_getElem_cons w2, hb rfl]
        obtain ⟨h', c', hh⟩ := ih (i + 1) H3 (x.chg cc (by simp)) (y.chg cc (by simp)) w (by omega)
        rcases hh with ⟨e, r⟩ | e
        · exact ⟨h', cc.trans c', .inl ⟨e, by rw [r]⟩⟩
        · exact ⟨h', cc.trans c', .inr e⟩
    · have z : decide (i < xs.length) = false := decide_eq_false w
      rw [z, List.drop_eq_nil_of_le (by omega), List.drop_eq_nil_of_le (by omega)]
      exact ⟨h, Chg.refl _ _, .inl ⟨rfl, rfl⟩⟩
theorem f43c44_eq {P : D → Prop} (hP : ∀ d, P d → isIn d) (body : ∀ (d e : D) (r q : InV) (h : Heap) (V W : Nat → Prop), P d → P e → Dt h V d (itc r) → Dt h W e (itc q) → Cmp (fun h => f44 N r q h) d e h) {s t : SL} {xs ys : List D} (px : ∀ d ∈ xs, P d) (py : ∀ d ∈ ys, P d) (hl : xs.length ≤ 9223372036854775807) (hN : 9223372036854775807 < N) (x : Sl h V s xs) (y : Sl h W t ys) : ∃ b h', f43c44 N s t () h = some (b, h') ∧ Chg [] h h' ∧ (b = true → xs = ys) := by
  unfold f43c44
  rw [lenI, x.len, y.len]
  by_cases he : xs.length = ys.length
  · have z : decide (xs.length = ys.length) = true := decide_eq_true he
    rw [z]
    simp only [Bool.not_true, cond_false]
    obtain ⟨h', c, L⟩ := f43c44_loop (N := N) hP body px py he hl N 0 h x y (Nat.zero_le _) (by omega)
    rw [List.drop_zero, List.drop_zero, show ((0 : Nat) : Int) = 0 from rfl] at L
    rw [show Int.ofNat xs.length = (xs.length : Int) from rfl]
    rcases L with ⟨e, r⟩ | e
    · rw [e]
      simp only [bind3_some, eqOut_exit, decide_true, cond_true]
      exact ⟨true, h', rfl, c, fun _ => r⟩
    · rw [e]
      simp only [bind3_some, show eqOut .ret (.exit 0) = false from rfl, cond_false]
      exact ⟨false, h', rfl, c, fun h => by cases h⟩
  · have z : decide (xs.length = ys.length) = false := decide_eq_false he
    rw [z]
    exact ⟨false, h, rfl, Chg.refl _ _, fun h => by cases h⟩
theorem f68c57_loop {rec57 : (Int × List UInt8 × SL × SL × Unit) → (Int × List UInt8 × SL × SL × Unit) → Heap → Option (Bool × Heap)} {rec68c57 : SL → SL → Unit → Heap → Option (Bool × Heap)} {n : Nat} {P : D → Prop} (hP : ∀ d, P d → isRt n d) (body : ∀ (d e : D) (r q : TyV) (h : Heap) (V W : Nat → Prop), P d → P e → Dt h V d (tyc r) → Dt h W e (tyc q) → Cmp (fun h => rec57 r q h) d e h) {s t : SL} {xs ys : List D} (px : ∀ d ∈ xs, P d) (py : ∀ d ∈ ys, P d) (he : xs.length = ys.length) (hl : xs.length ≤ 9223372036854775807) : ∀ (M i : Nat) (h : Heap), Sl h V s xs → Sl h W t ys → i ≤ xs.length → xs.length - i < M → ∃ h', Chg [] h h' ∧
    ((f68c57_l1 N rec57 rec68c57 M t () false s (xs.length : Int) (i : Int) h = some (.exit 0, (false, ()), h') ∧ xs.drop i = ys.drop i) ∨ f68c57_l1 N rec57 rec68c57 M t () false s (xs.length : Int) (i : Int) h = some (.ret, (false, ()), h')) := by
  intro M
  induction M with
  | zero => intro i h _ _ _ h; omega
  | succ M ih =>
    intro i h x y hi hM
    rw [f68c57_l1_succ]
    unfold f68c57_l1_b
    simp only [lt_nat']
    by_cases w : i < xs.length
    · simp only [w, decide_true, cond_true]
      have w2 : i < ys.length := by omega
      obtain ⟨r, hr, d⟩ := (recTy n).elt x w (hP _ (px _ (List.getElem_mem w)))
      rw [x.ix w 4, hr, (recTy n).agg]
      obtain ⟨H, p, c, o1⟩ := (recTy n).park (z := zeroT) rfl h r
      have p' : ∀ {β : Type} (K : Heap → Option β), need ((h.push (.row zeroT .own)).store (h.next, 0) (rowT r)) K = K H := p
      rw [p']
      have y1 := y.chg c (by simp)
      obtain ⟨q, hq, dq⟩ := (recTy n).elt y1 w2 (hP _ (py _ (List.getElem_mem w2)))
      rw [y1.ix w2 4, hq, (recTy n).agg]
      obtain ⟨H', p2, c2, o2⟩ := (recTy n).park (z := zeroT) rfl H q
      have p2' : ∀ {β : Type} (K : Heap → Option β), need ((H.push (.row zeroT .own)).store (H.next, 0) (rowT q)) K = K H' := p2
      rw [p2', (recTy n).cells (o1.chg c2 (by simp)), (recTy n).cells o2]
      obtain ⟨b, H3, e, c3, hb⟩ := body _ _ r q H' V W (px _ (List.getElem_mem w)) (py _ (List.getElem_mem w2)) (Dt.chg c2 (by simp) (Dt.chg c (by simp) d)) (Dt.chg c2 (by simp) dq)
      have e' : rec57 (r.1, r.2.1, r.2.2.1, r.2.2.2.1, ()) (q.1, q.2.1, q.2.2.1, q.2.2.2.1, ()) H' = some (b, H3) := e
      rw [e', bind2_some]
      have cc := (c.trans c2).trans c3
      cases b with
      | false => exact ⟨H3, cc, .inr rfl⟩
      | true =>
        simp only [Bool.not_true, cond_false]
        rw [wrap_max (by omega), List.drop_eq_getElem_cons w, List.drop_eq_getElem_cons w2, hb rfl]
        obtain ⟨h', c', hh⟩ := ih (i + 1) H3 (x.chg cc (by simp)) (y.chg cc (by simp)) w (by omega)
        rcases hh with ⟨e, r⟩ | e
        · exact ⟨h', cc.trans c', .inl ⟨e, by rw [r]⟩⟩
        · exact ⟨h', cc.trans c', .inr e⟩
    · have z : decide (i < xs.length) = false := decide_eq_false w
      rw [z, List.drop_eq_nil_of_le (by omega), List.drop_eq_nil_of_le (by omega)]
      exact ⟨h, Chg.refl _ _, .inl ⟨rfl, rfl⟩⟩
theorem f68c57_eq {rec57 : (Int × List UInt8 × SL × SL × Unit) → (Int × List UInt8 × SL × SL × Unit) → Heap → Option (Bool × Heap)} {rec68c57 : SL → SL → Unit → Heap → Option (Bool × Heap)} {n : Nat} {P : D → Prop} (hP : ∀ d, P d → isRt n d) (body : ∀ (d e : D) (r q : TyV) (h : Heap) (V W : Nat → Prop), P d → P e → Dt h V d (tyc r) → Dt h W e (tyc q) → Cmp (fun h => rec57 r q h) d e h) {s t : SL} {xs ys : List D} (px : ∀ d ∈ xs, P d) (py : ∀ d ∈ ys, P d) (hl : xs.length ≤ 9223372036854775807) (hN : 9223372036854775807 < N) (x : Sl h V s xs) (y : Sl h W t ys) : ∃ b h', f68c57_r N rec57 rec68c57 s t () h = some (b, h') ∧ Chg [] h h' ∧ (b = true → xs = ys) := by
  unfold f68c57_r
  rw [lenI, x.len, y.len]
  by_cases he : xs.length = ys.length
  · have z : decide (xs.length = ys.length) = true := decide_eq_true he
    rw [z]
    simp only [Bool.not_true, cond_false]
    obtain ⟨h', c, L⟩ := f68c57_loop (rec57 := rec57) (rec68c57 := rec68c57) (N := N) hP body px py he hl N 0 h x y (Nat.zero_le _) (by omega)
    rw [List.drop_zero, List.drop_zero, show ((0 : Nat) : Int) = 0 from rfl] at L
    rw [show Int.ofNat xs.length = (xs.length : Int) from rfl]
    rcases L with ⟨e, r⟩ | e
    · rw [e]
      simp only [bind3_some, eqOut_exit, decide_true, cond_true]
      exact ⟨true, h', rfl, c, fun _ => r⟩
    · rw [e]
      simp only [bind3_some, show eqOut .ret (.exit 0) = false from rfl, cond_false]
      exact ⟨false, h', rfl, c, fun h => by cases h⟩
  · have z : decide (xs.length = ys.length) = false := decide_eq_false he
    rw [z]
    exact ⟨false, h, rfl, Chg.refl _ _, fun h => by cases h⟩
end
end Go.Proofs.YtjeaammlambkeaaDoor.My

set_option linter.unusedVariables false
set_option linter.unusedSimpArgs false
set_option maxRecDepth 100000
open Go Go.Proofs.YtjeaammlambkeaaDoor.Ai Go.Proofs
namespace Go.Proofs.YtjeaammlambkeaaDoor.My
/-! mir.Same, the records -/
theorem boolEq (a b : Bool) : (bif a then b else !b) = decide (a = b) := by cases a <;> cases b <;> rfl
def smPa (d : D) : Prop := ∃ l ss, d = paD l ss ∧ ss.length ≤ 9223372036854775807
def smOp (d : D) : Prop := ∃ k n p, d = opD k n p ∧ smPa p
def smVa (d : D) : Prop := ∃ k a b op p rg nm rs ag, d = vaD k a b op p rg nm rs ag ∧ smOp a ∧ smOp b ∧ smPa p ∧ rs.length ≤ 20 ∧ ag.length ≤ 20 ∧ ∀ o ∈ ag, smOp o
def smIn (d : D) : Prop := ∃ k a hs to va nx, d = itD k a hs to va nx ∧ smPa to ∧ smVa va ∧ nx.length ≤ 5
theorem smPa.is {d : D} (t : smPa d) : isPa d := by obtain ⟨l, ss, h, _⟩ := t; exact ⟨l, ss, h⟩
theorem smOp.is {d : D} (t : smOp d) : isOp d := by obtain ⟨k, n, p, h, hp⟩ := t; exact ⟨k, n, p, h, hp.is⟩
theorem smVa.is {d : D} (t : smVa d) : isVa d := by
  obtain ⟨k, a, b, op, p, rg, nm, rs, ag, h, ha, hb, hp, h1, h2, h3⟩ := t
  exact ⟨k, a, b, op, p, rg, nm, rs, ag, h, ha.is, hb.is, hp.is, h1, h2, fun o ho => (h3 o ho).is⟩
theorem smIn.is {d : D} (t : smIn d) : isIn d := by
  obtain ⟨k, a, hs, to, va, nx, h, ht, hv, hn⟩ := t
  exact ⟨k, a, hs, to, va, nx, h, ht.is, hv.is, hn⟩
section
variable {N : Nat} {h : Heap} {V W : Nat → Prop}
theorem f58_eq (hN : 9223372036854775807 < N) {d e : D} (td : smPa d) (te : smPa e) {r q : PaV} (x : Dt h V d (pac r)) (y : Dt h W e (pac q)) : Cmp (fun h => f58 N r q h) d e h := by
  obtain ⟨l, ss, rfl, hl⟩ := td
  obtain ⟨l2, ss2, rfl, hl2⟩ := te
  obtain ⟨s, hc, y1⟩ := inv_pa x
  obtain ⟨s2, hc2, y2⟩ := inv_pa y
  have hr := recPa.inj hc
  have hq := recPa.inj hc2
  clear x y hc hc2
  show ∃ b h', f58 N r q h = some (b, h') ∧ Chg [] h h' ∧ (b = true → _)
  unfold f58
  have o1_0 := own_push h (pac r)
  have c_0 := chg_push h (.row (pac r) .own)
  have e1 : h.push (.row (rowP r) .own) = h.push (.row (pac r) .own) := rfl
  dsimp only
  rw [e1]
  generalize h.push (.row (pac r) .own) = h1 at *
  have o2_0 := own_push h1 (pac q)
  have c2 := chg_push h1 (.row (pac q) .own)
  have e2 : h1.push (.row (rowP q) .own) = h1.push (.row (pac q) .own) := rfl
  rw [e2]
  have o1_0 := o1_0.chg c2 (by simp)
  have c_0 := c_0.trans c2
  generalize h1.push (.row (pac q) .own) = H0 at *
  subst hr
  subst hq
  have a0 : H0.cell (h.next, 0) = some (.int .i64 l) := o1_0.cell 0
  have b0 : H0.cell (h1.next, 0) = some (.int .i64 l2) := o2_0.cell 0
  simp only [Nat.zero_add, Nat.add_zero, a0, b0, bindV_some, cast_int, eqI]
  by_cases e0 : l = l2
  case neg =>
    simp only [decide_eq_false e0, cond_false]
    exact ⟨false, H0, rfl, c_0, fun h => by cases h⟩
  simp only [decide_eq_true e0, cond_true]
  have a1 : H0.cell (h.next, 1) = some (.slice s.a s.len s.cap s.sz) := o1_0.cell 1
  have b1 : H0.cell (h1.next, 1) = some (.slice s2.a s2.len s2.cap s2.sz) := o2_0.cell 1
  simp only [Nat.zero_add, Nat.add_zero, a1, b1, bindV_some, cast_slice]
  obtain ⟨b, e, hb⟩ := f23_eq (N := N) (y1.chg c_0 (by simp)) (y2.chg c_0 (by simp)) hl hN
  have e' : f23 N ⟨s.a, s.len, s.cap, s.sz⟩ ⟨s2.a, s2.len, s2.cap, s2.sz⟩ H0 = some (b, H0) := e
  rw [e', bind2_some]
  exact ⟨b, H0, rfl, c_0, fun hh => by rw [e0, hb hh]⟩
theorem f69_eq (hN : 9223372036854775807 < N) {d e : D} (td : smOp d) (te : smOp e) {r q : OpV} (x : Dt h V d (opc r)) (y : Dt h W e (opc q)) : Cmp (fun h => f69 N r q h) d e h := by
  obtain ⟨k, n, p, rfl, tp⟩ := td
  obtain ⟨k2, n2, p2, rfl, tp2⟩ := te
  obtain ⟨rp, hc, y1⟩ := inv_op tp.is x
  obtain ⟨rp2, hc2, y2⟩ := inv_op tp2.is y
  have hr := recOp.inj hc
  have hq := recOp.inj hc2
  clear x y hc hc2
  show ∃ b h', f69 N r q h = some (b, h') ∧ Chg [] h h' ∧ (b = true → _)
  unfold f69
  have o1_0 := own_push h (opc r)
  have c_0 := chg_push h (.row (opc r) .own)
  have e1 : h.push (.row (rowO r) .own) = h.push (.row (opc r) .own) := rfl
  dsimp only
  rw [e1]
  generalize h.push (.row (opc r) .own) = h1 at *
  have o2_0 := own_push h1 (opc q)
  have c2 := chg_push h1 (.row (opc q) .own)
  have e2 : h1.push (.row (rowO q) .own) = h1.push (.row (opc q) .own) := rfl
  rw [e2]
  have o1_0 := o1_0.chg c2 (by simp)
  have c_0 := c_0.trans c2
  generalize h1.push (.row (opc q) .own) = H0 at *
  subst hr
  subst hq
  have a0 : H0.cell (h.next, 0) = some (.int .i64 k) := o1_0.cell 0
  have b0 : H0.cell (h1.next, 0) = some (.int .i64 k2) := o2_0.cell 0
  simp only [Nat.zero_add, Nat.add_zero, a0, b0, bindV_some, cast_int, eqI]
  by_cases e0 : k = k2
  case neg =>
    simp only [decide_eq_false e0, cond_false]
    exact ⟨false, H0, rfl, c_0, fun h => by cases h⟩
  simp only [decide_eq_true e0, cond_true]
  have a1 : H0.cell (h.next, 1) = some (.int .i64 n) := o1_0.cell 1
  have b1 : H0.cell (h1.next, 1) = some (.int .i64 n2) := o2_0.cell 1
  simp only [Nat.zero_add, Nat.add_zero, a1, b1, bindV_some, cast_int, eqI]
  by_cases e1 : n = n2
  case neg =>
    simp only [decide_eq_false e1, cond_false]
    exact ⟨false, H0, rfl, c_0, fun h => by cases h⟩
  simp only [decide_eq_true e1, cond_true]
  have a2 : H0.cells (h.next, 2) 2 = some (.agg (pac rp)) := o1_0.cells (j := 2) (m := 2) (show 2 + 2 ≤ 4 by decide)
  have b2 : H0.cells (h1.next, 2) 2 = some (.agg (pac rp2)) := o2_0.cells (j := 2) (m := 2) (show 2 + 2 ≤ 4 by decide)
  try simp only [Nat.zero_add, Nat.add_zero]
  rw [a2, recPa.agg, b2, recPa.agg]
  obtain ⟨t2, H1, f2, d1, g2⟩ := f58_eq (N := N) (h := H0) hN tp tp2 (Dt.chg c_0 (by simp) y1) (Dt.chg c_0 (by simp) y2)
  have f2' : f58 N (rp.1, rp.2.1, ()) (rp2.1, rp2.2.1, ()) H0 = some (t2, H1) := f2
  rw [f2', bind2_some]
  have c_1 := c_0.trans d1
  exact ⟨t2, H1, rfl, c_1, fun hh => by rw [e0, e1, g2 hh]⟩
theorem f59_eq (hN : 9223372036854775807 < N) {d e : D} (td : smVa d) (te : smVa e) {r q : VaV} (x : Dt h V d (vac r)) (y : Dt h W e (vac q)) : Cmp (fun h => f59 N r q h) d e h := by
  obtain ⟨k, a, b, op, p, rg, nm, rs, ag, rfl, ta, tb, tp, hrs, hag, tag⟩ := td
  obtain ⟨k2, a2, b2, op2, p2, rg2, nm2, rs2, ag2, rfl, ta2, tb2, tp2, hrs2, hag2, tag2⟩ := te
  obtain ⟨ra, rb, rp, s1, s2, hc, xa, xb, xp, y1, y2⟩ := inv_va ta.is tb.is tp.is x
  obtain ⟨ra2, rb2, rp2, z1, z2, hc2, xa2, xb2, xp2, w1, w2⟩ := inv_va ta2.is tb2.is tp2.is y
  have hr := recVa.inj hc
  have hq := recVa.inj hc2
  clear x y hc hc2
  show ∃ b h', f59 N r q h = some (b, h') ∧ Chg [] h h' ∧ (b = true → _)
  unfold f59
  have o1_0 := own_push h (vac r)
  have c_0 := chg_push h (.row (vac r) .own)
  have e1 : h.push (.row (rowV r) .own) = h.push (.row (vac r) .own) := rfl
  dsimp only
  rw [e1]
  generalize h.push (.row (vac r) .own) = h1 at *
  have o2_0 := own_push h1 (vac q)
  have c2 := chg_push h1 (.row (vac q) .own)
  have e2 : h1.push (.row (rowV q) .own) = h1.push (.row (vac q) .own) := rfl
  rw [e2]
  have o1_0 := o1_0.chg c2 (by simp)
  have c_0 := c_0.trans c2
  generalize h1.push (.row (vac q) .own) = H0 at *
  subst hr
  subst hq
  have a0 : H0.cell (h.next, 0) = some (.int .i64 k) := o1_0.cell 0
  have b0 : H0.cell (h1.next, 0) = some (.int .i64 k2) := o2_0.cell 0
  simp only [Nat.zero_add, Nat.add_zero, a0, b0, bindV_some, cast_int, eqI]
  by_cases e0 : k = k2
  case neg =>
    simp only [decide_eq_false e0, cond_false]
    exact ⟨false, H0, rfl, c_0, fun h => by cases h⟩
  simp only [decide_eq_true e0, cond_true]
  have a1 : H0.cells (h.next, 1) 4 = some (.agg (opc ra)) := o1_0.cells (j := 1) (m := 4) (show 1 + 4 ≤ 16 by decide)
  have b1 : H0.cells (h1.next, 1) 4 = some (.agg (opc ra2)) := o2_0.cells (j := 1) (m := 4) (show 1 + 4 ≤ 16 by decide)
  try simp only [Nat.zero_add, Nat.add_zero]
  rw [a1, recOp.agg, b1, recOp.agg]
  obtain ⟨t1, H1, f1, d1, g1⟩ := f69_eq (N := N) (h := H0) hN ta ta2 (Dt.chg c_0 (by simp) xa) (Dt.chg c_0 (by simp) xa2)
  have f1' : f69 N (ra.1, ra.2.1, ra.2.2.1, ra.2.2.2.1, ()) (ra2.1, ra2.2.1, ra2.2.2.1, ra2.2.2.2.1, ()) H0 = some (t1, H1) := f1
  rw [f1', bind2_some]
  have c_1 := c_0.trans d1
  cases hb1 : t1
  · exact ⟨false, H1, rfl, c_1, fun h => by cases h⟩
  have e1 := g1 hb1
  have o1_1 := o1_0.chg d1 (by simp)
  have o2_1 := o2_0.chg d1 (by simp)
  simp only [cond_true]
  have a5 : H1.cells (h.next, 5) 4 = some (.agg (opc rb)) := o1_1.cells (j := 5) (m := 4) (show 5 + 4 ≤ 16 by decide)
  have b5 : H1.cells (h1.next, 5) 4 = some (.agg (opc rb2)) := o2_1.cells (j := 5) (m := 4) (show 5 + 4 ≤ 16 by decide)
  try simp only [Nat.zero_add, Nat.add_zero]
  rw [a5, recOp.agg, b5, recOp.agg]
  obtain ⟨t5, H2, f5, d2, g5⟩ := f69_eq (N := N) (h := H1) hN tb tb2 (Dt.chg c_1 (by simp) xb) (Dt.chg c_1 (by simp) xb2)
  have f5' : f69 N (rb.1, rb.2.1, rb.2.2.1, rb.2.2.2.1, ()) (rb2.1, rb2.2.1, rb2.2.2.1, rb2.2.2.2.1, ()) H1 = some (t5, H2) := f5
  rw [f5', bind2_some]
  have c_2 := c_1.trans d2
  cases hb5 : t5
  · exact ⟨false, H2, rfl, c_2, fun h => by cases h⟩
  have e5 := g5 hb5
  have o1_2 := o1_1.chg d2 (by simp)
  have o2_2 := o2_1.chg d2 (by simp)
  simp only [cond_true]
  have a9 : H2.cell (h.next, 9) = some (.int .i64 op) := o1_2.cell 9
  have b9 : H2.cell (h1.next, 9) = some (.int .i64 op2) := o2_2.cell 9
  simp only [Nat.zero_add, Nat.add_zero, a9, b9, bindV_some, cast_int, eqI]
  by_cases e9 : op = op2
  case neg =>
    simp only [decide_eq_false e9, cond_false]
    exact ⟨false, H2, rfl, c_2, fun h => by cases h⟩
  simp only [decide_eq_true e9, cond_true]
  have a10 : H2.cells (h.next, 10) 2 = some (.agg (pac rp)) := o1_2.cells (j := 10) (m := 2) (show 10 + 2 ≤ 16 by decide)
  have b10 : H2.cells (h1.next, 10) 2 = some (.agg (pac rp2)) := o2_2.cells (j := 10) (m := 2) (show 10 + 2 ≤ 16 by decide)
  try simp only [Nat.zero_add, Nat.add_zero]
  rw [a10, recPa.agg, b10, recPa.agg]
  obtain ⟨t10, H3, f10, d3, g10⟩ := f58_eq (N := N) (h := H2) hN tp tp2 (Dt.chg c_2 (by simp) xp) (Dt.chg c_2 (by simp) xp2)
  have f10' : f58 N (rp.1, rp.2.1, ()) (rp2.1, rp2.2.1, ()) H2 = some (t10, H3) := f10
  rw [f10', bind2_some]
  have c_3 := c_2.trans d3
  cases hb10 : t10
  · exact ⟨false, H3, rfl, c_3, fun h => by cases h⟩
  have e10 := g10 hb10
  have o1_3 := o1_2.chg d3 (by simp)
  have o2_3 := o2_2.chg d3 (by simp)
  simp only [cond_true]
  have a12 : H3.cell (h.next, 12) = some (.int .i64 rg) := o1_3.cell 12
  have b12 : H3.cell (h1.next, 12) = some (.int .i64 rg2) := o2_3.cell 12
  simp only [Nat.zero_add, Nat.add_zero, a12, b12, bindV_some, cast_int, eqI]
  by_cases e12 : rg = rg2
  case neg =>
    simp only [decide_eq_false e12, cond_false]
    exact ⟨false, H3, rfl, c_3, fun h => by cases h⟩
  simp only [decide_eq_true e12, cond_true]
  have a13 : H3.cell (h.next, 13) = some (.str nm) := o1_3.cell 13
  have b13 : H3.cell (h1.next, 13) = some (.str nm2) := o2_3.cell 13
  simp only [Nat.zero_add, Nat.add_zero, a13, b13, bindV_some, cast_str, eqBy]
  by_cases e13 : nm = nm2
  case neg =>
    simp only [decide_eq_false e13, cond_false]
    exact ⟨false, H3, rfl, c_3, fun h => by cases h⟩
  simp only [decide_eq_true e13, cond_true]
  have a14 : H3.cell (h.next, 14) = some (.slice s1.a s1.len s1.cap s1.sz) := o1_3.cell 14
  have b14 : H3.cell (h1.next, 14) = some (.slice z1.a z1.len z1.cap z1.sz) := o2_3.cell 14
  simp only [Nat.zero_add, Nat.add_zero, a14, b14, bindV_some, cast_slice]
  obtain ⟨t14, f14, g14⟩ := f60_eq (N := N) (y1.chg c_3 (by simp)) (w1.chg c_3 (by simp)) (by omega) hN
  have f14' : f60 N ⟨s1.a, s1.len, s1.cap, s1.sz⟩ ⟨z1.a, z1.len, z1.cap, z1.sz⟩ H3 = some (t14, H3) := f14
  rw [f14', bind2_some]
  cases hb14 : t14
  · exact ⟨false, H3, rfl, c_3, fun h => by cases h⟩
  have e14 := g14 hb14
  simp only [cond_true]
  have a15 : H3.cell (h.next, 15) = some (.slice s2.a s2.len s2.cap s2.sz) := o1_3.cell 15
  have b15 : H3.cell (h1.next, 15) = some (.slice z2.a z2.len z2.cap z2.sz) := o2_3.cell 15
  simp only [Nat.zero_add, Nat.add_zero, a15, b15, bindV_some, cast_slice]
  obtain ⟨t15, H4, f15, d4, g15⟩ := f70c69_eq (N := N) (h := H3) (P := smOp) (fun _ => smOp.is) (fun d e r q h V W td te x y => f69_eq hN td te x y) tag tag2 (by omega) hN (y2.chg c_3 (by simp)) (w2.chg c_3 (by simp))
  have f15' : f70c69 N ⟨s2.a, s2.len, s2.cap, s2.sz⟩ ⟨z2.a, z2.len, z2.cap, z2.sz⟩ () H3 = some (t15, H4) := f15
  rw [f15', bind2_some]
  have c_4 := c_3.trans d4
  exact ⟨t15, H4, rfl, c_4, fun hh => by rw [e0, e1, e5, e9, e10, e12, e13, e14, g15 hh]⟩
theorem f44_eq (hN : 9223372036854775807 < N) {d e : D} (td : smIn d) (te : smIn e) {r q : InV} (x : Dt h V d (itc r)) (y : Dt h W e (itc q)) : Cmp (fun h => f44 N r q h) d e h := by
  obtain ⟨k, a, hs, to, va, nx, rfl, tt, tv, hnx⟩ := td
  obtain ⟨k2, a2, hs2, to2, va2, nx2, rfl, tt2, tv2, hnx2⟩ := te
  obtain ⟨rt, rv, s, hc, xt, xv, y1⟩ := inv_it tt.is tv.is x
  obtain ⟨rt2, rv2, z, hc2, xt2, xv2, w1⟩ := inv_it tt2.is tv2.is y
  have hr := recIn.inj hc
  have hq := recIn.inj hc2
  clear x y hc hc2
  show ∃ b h', f44 N r q h = some (b, h') ∧ Chg [] h h' ∧ (b = true → _)
  unfold f44
  have o1_0 := own_push h (itc r)
  have c_0 := chg_push h (.row (itc r) .own)
  have e1 : h.push (.row (rowI r) .own) = h.push (.row (itc r) .own) := rfl
  dsimp only
  rw [e1]
  generalize h.push (.row (itc r) .own) = h1 at *
  have o2_0 := own_push h1 (itc q)
  have c2 := chg_push h1 (.row (itc q) .own)
  have e2 : h1.push (.row (rowI q) .own) = h1.push (.row (itc q) .own) := rfl
  rw [e2]
  have o1_0 := o1_0.chg c2 (by simp)
  have c_0 := c_0.trans c2
  generalize h1.push (.row (itc q) .own) = H0 at *
  subst hr
  subst hq
  have a0 : H0.cell (h.next, 0) = some (.int .i64 k) := o1_0.cell 0
  have b0 : H0.cell (h1.next, 0) = some (.int .i64 k2) := o2_0.cell 0
  simp only [Nat.zero_add, Nat.add_zero, a0, b0, bindV_some, cast_int, eqI]
  by_cases e0 : k = k2
  case neg =>
    simp only [decide_eq_false e0, cond_false]
    exact ⟨false, H0, rfl, c_0, fun h => by cases h⟩
  simp only [decide_eq_true e0, cond_true]
  have a1 : H0.cell (h.next, 1) = some (.int .i64 a) := o1_0.cell 1
  have b1 : H0.cell (h1.next, 1) = some (.int .i64 a2) := o2_0.cell 1
  simp only [Nat.zero_add, Nat.add_zero, a1, b1, bindV_some, cast_int, eqI]
  by_cases e1 : a = a2
  case neg =>
    simp only [decide_eq_false e1, cond_false]
    exact ⟨false, H0, rfl, c_0, fun h => by cases h⟩
  simp only [decide_eq_true e1, cond_true]
  have a2 : H0.cell (h.next, 2) = some (.bool hs) := o1_0.cell 2
  have b2 : H0.cell (h1.next, 2) = some (.bool hs2) := o2_0.cell 2
  simp only [Nat.zero_add, Nat.add_zero, a2, b2, bindV_some, cast_bool, boolEq]
  by_cases e2 : hs = hs2
  case neg =>
    simp only [decide_eq_false e2, cond_false]
    exact ⟨false, H0, rfl, c_0, fun h => by cases h⟩
  simp only [decide_eq_true e2, cond_true]
  have a3 : H0.cells (h.next, 3) 2 = some (.agg (pac rt)) := o1_0.cells (j := 3) (m := 2) (show 3 + 2 ≤ 22 by decide)
  have b3 : H0.cells (h1.next, 3) 2 = some (.agg (pac rt2)) := o2_0.cells (j := 3) (m := 2) (show 3 + 2 ≤ 22 by decide)
  try simp only [Nat.zero_add, Nat.add_zero]
  rw [a3, recPa.agg, b3, recPa.agg]
  obtain ⟨t3, H1, f3, d1, g3⟩ := f58_eq (N := N) (h := H0) hN tt tt2 (Dt.chg c_0 (by simp) xt) (Dt.chg c_0 (by simp) xt2)
  have f3' : f58 N (rt.1, rt.2.1, ()) (rt2.1, rt2.2.1, ()) H0 = some (t3, H1) := f3
  rw [f3', bind2_some]
  have c_1 := c_0.trans d1
  cases hb3 : t3
  · exact ⟨false, H1, rfl, c_1, fun h => by cases h⟩
  have e3 := g3 hb3
  have o1_1 := o1_0.chg d1 (by simp)
  have o2_1 := o2_0.chg d1 (by simp)
  simp only [cond_true]
  have a5 : H1.cells (h.next, 5) 16 = some (.agg (vac rv)) := o1_1.cells (j := 5) (m := 16) (show 5 + 16 ≤ 22 by decide)
  have b5 : H1.cells (h1.next, 5) 16 = some (.agg (vac rv2)) := o2_1.cells (j := 5) (m := 16) (show 5 + 16 ≤ 22 by decide)
  try simp only [Nat.zero_add, Nat.add_zero]
  rw [a5, recVa.agg, b5, recVa.agg]
  obtain ⟨t5, H2, f5, d2, g5⟩ := f59_eq (N := N) (h := H1) hN tv tv2 (Dt.chg c_1 (by simp) xv) (Dt.chg c_1 (by simp) xv2)
  have f5' : f59 N (rv.1, rv.2.1, rv.2.2.1, rv.2.2.2.1, rv.2.2.2.2.1, rv.2.2.2.2.2.1, rv.2.2.2.2.2.2.1, rv.2.2.2.2.2.2.2.1, rv.2.2.2.2.2.2.2.2.1, rv.2.2.2.2.2.2.2.2.2.1, rv.2.2.2.2.2.2.2.2.2.2.1, rv.2.2.2.2.2.2.2.2.2.2.2.1, rv.2.2.2.2.2.2.2.2.2.2.2.2.1, rv.2.2.2.2.2.2.2.2.2.2.2.2.2.1, rv.2.2.2.2.2.2.2.2.2.2.2.2.2.2.1, rv.2.2.2.2.2.2.2.2.2.2.2.2.2.2.2.1, ()) (rv2.1, rv2.2.1, rv2.2.2.1, rv2.2.2.2.1, rv2.2.2.2.2.1, rv2.2.2.2.2.2.1, rv2.2.2.2.2.2.2.1, rv2.2.2.2.2.2.2.2.1, rv2.2.2.2.2.2.2.2.2.1, rv2.2.2.2.2.2.2.2.2.2.1, rv2.2.2.2.2.2.2.2.2.2.2.1, rv2.2.2.2.2.2.2.2.2.2.2.2.1, rv2.2.2.2.2.2.2.2.2.2.2.2.2.1, rv2.2.2.2.2.2.2.2.2.2.2.2.2.2.1, rv2.2.2.2.2.2.2.2.2.2.2.2.2.2.2.1, rv2.2.2.2.2.2.2.2.2.2.2.2.2.2.2.2.1, ()) H1 = some (t5, H2) := f5
  rw [f5', bind2_some]
  have c_2 := c_1.trans d2
  cases hb5 : t5
  · exact ⟨false, H2, rfl, c_2, fun h => by cases h⟩
  have e5 := g5 hb5
  have o1_2 := o1_1.chg d2 (by simp)
  have o2_2 := o2_1.chg d2 (by simp)
  simp only [cond_true]
  have a21 : H2.cell (h.next, 21) = some (.slice s.a s.len s.cap s.sz) := o1_2.cell 21
  have b21 : H2.cell (h1.next, 21) = some (.slice z.a z.len z.cap z.sz) := o2_2.cell 21
  simp only [Nat.zero_add, Nat.add_zero, a21, b21, bindV_some, cast_slice]
  obtain ⟨t21, f21, g21⟩ := f60_eq (N := N) (y1.chg c_2 (by simp)) (w1.chg c_2 (by simp)) (by omega) hN
  have f21' : f60 N ⟨s.a, s.len, s.cap, s.sz⟩ ⟨z.a, z.len, z.cap, z.sz⟩ H2 = some (t21, H2) := f21
  rw [f21', bind2_some]
  exact ⟨t21, H2, rfl, c_2, fun hh => by rw [e0, e1, e2, e3, e5, g21 hh]⟩
theorem f57_eq (hN : 9223372036854775807 < N) : ∀ (g M : Nat), 2 * g ≤ M → ∀ (d e : D) (r q : TyV) (h : Heap) (V W : Nat → Prop), isRt g d → isRt g e → Dt h V d (tyc r) → Dt h W e (tyc q) → Cmp (fun h => f57 N M r q h) d e h := by
  intro g
  induction g with
  | zero => intro M _ d e r q h V W td; cases td
  | succ g ih =>
    intro M hM d e r q h V W td te x y
    obtain ⟨M, rfl⟩ : ∃ m, M = m + 2 := ⟨M - 2, by omega⟩
    obtain ⟨k, nm, rs, el, rfl, hrs, hel, tel⟩ := td
    obtain ⟨k2, nm2, rs2, el2, rfl, hrs2, hel2, tel2⟩ := te
    obtain ⟨s1, s2, hc, y1, y2⟩ := inv_rt x
    obtain ⟨z1, z2, hc2, w1, w2⟩ := inv_rt y
    have hr := (recTy 1).inj hc
    have hq := (recTy 1).inj hc2
    clear x y hc hc2
    show ∃ b h', f57 N (M + 2) r q h = some (b, h') ∧ Chg [] h h' ∧ (b = true → _)
    rw [f57_succ]
    unfold f57_r
    have o1_0 := own_push h (tyc r)
    have c_0 := chg_push h (.row (tyc r) .own)
    have e1 : h.push (.row (rowT r) .own) = h.push (.row (tyc r) .own) := rfl
    dsimp only
    rw [e1]
    generalize h.push (.row (tyc r) .own) = h1 at *
    have o2_0 := own_push h1 (tyc q)
    have c2 := chg_push h1 (.row (tyc q) .own)
    have e2 : h1.push (.row (rowT q) .own) = h1.push (.row (tyc q) .own) := rfl
    rw [e2]
    have o1_0 := o1_0.chg c2 (by simp)
    have c_0 := c_0.trans c2
    generalize h1.push (.row (tyc q) .own) = H0 at *
    subst hr
    subst hq
    have a0 : H0.cell (h.next, 0) = some (.int .i64 k) := o1_0.cell 0
    have b0 : H0.cell (h1.next, 0) = some (.int .i64 k2) := o2_0.cell 0
    simp only [Nat.zero_add, Nat.add_zero, a0, b0, bindV_some, cast_int, eqI]
    by_cases e0 : k = k2
    case neg =>
      simp only [decide_eq_false e0, cond_false]
      exact ⟨false, H0, rfl, c_0, fun h => by cases h⟩
    simp only [decide_eq_true e0, cond_true]
    have a1 : H0.cell (h.next, 1) = some (.str nm) := o1_0.cell 1
    have b1 : H0.cell (h1.next, 1) = some (.str nm2) := o2_0.cell 1
    simp only [Nat.zero_add, Nat.add_zero, a1, b1, bindV_some, cast_str, eqBy]
    by_cases e1 : nm = nm2
    case neg =>
      simp only [decide_eq_false e1, cond_false]
      exact ⟨false, H0, rfl, c_0, fun h => by cases h⟩
    simp only [decide_eq_true e1, cond_true]
    have a2 : H0.cell (h.next, 2) = some (.slice s1.a s1.len s1.cap s1.sz) := o1_0.cell 2
    have b2 : H0.cell (h1.next, 2) = some (.slice z1.a z1.len z1.cap z1.sz) := o2_0.cell 2
    simp only [Nat.zero_add, Nat.add_zero, a2, b2, bindV_some, cast_slice]
    obtain ⟨t2, f2, g2⟩ := f60_eq (N := N) (y1.chg c_0 (by simp)) (w1.chg c_0 (by simp)) (by omega) hN
    have f2' : f60 N ⟨s1.a, s1.len, s1.cap, s1.sz⟩ ⟨z1.a, z1.len, z1.cap, z1.sz⟩ H0 = some (t2, H0) := f2
    rw [f2', bind2_some]
    cases hb2 : t2
    · exact ⟨false, H0, rfl, c_0, fun h => by cases h⟩
    have e2' := g2 hb2
    simp only [cond_true]
    have a3 : H0.cell (h.next, 3) = some (.slice s2.a s2.len s2.cap s2.sz) := o1_0.cell 3
    have b3 : H0.cell (h1.next, 3) = some (.slice z2.a z2.len z2.cap z2.sz) := o2_0.cell 3
    simp only [Nat.zero_add, Nat.add_zero, a3, b3, bindV_some, cast_slice]
    rw [f68c57_succ]
    obtain ⟨t3, H1, f3, d1, g3⟩ := f68c57_eq (N := N) (rec57 := f57 N M) (rec68c57 := f68c57 N M) (n := g) (h := H0) (P := isRt g) (fun _ h => h) (fun d e r q h V W td te x y => ih M (by omega) d e r q h V W td te x y) tel tel2 (by omega) hN (y2.chg c_0 (by simp)) (w2.chg c_0 (by simp))
    have f3' : f68c57_r N (f57 N M) (f68c57 N M) ⟨s2.a, s2.len, s2.cap, s2.sz⟩ ⟨z2.a, z2.len, z2.cap, z2.sz⟩ () H0 = some (t3, H1) := f3
    rw [f3', bind2_some]
    have c_1 := c_0.trans d1
    exact ⟨t3, H1, rfl, c_1, fun hh => by rw [e0, e1, e2', g3 hh]⟩

theorem f42_eq (hN : 9223372036854775807 < N) {d e : D} (td : isLo d) (te : isLo e) {r q : LoV} (x : Dt h V d (loc r)) (y : Dt h W e (loc q)) : Cmp (fun h => f42 N r q h) d e h := by
  obtain ⟨nm, ty, pm, rfl, tt⟩ := td
  obtain ⟨nm2, ty2, pm2, rfl, tt2⟩ := te
  obtain ⟨rt, hc, xt⟩ := inv_lo tt x
  obtain ⟨rt2, hc2, xt2⟩ := inv_lo tt2 y
  have hr := recLo.inj hc
  have hq := recLo.inj hc2
  clear x y hc hc2
  show ∃ b h', f42 N r q h = some (b, h') ∧ Chg [] h h' ∧ (b = true → _)
  unfold f42
  have o1_0 := own_push h (loc r)
  have c_0 := chg_push h (.row (loc r) .own)
  have e1 : h.push (.row (rowL r) .own) = h.push (.row (loc r) .own) := rfl
  dsimp only
  rw [e1]
  generalize h.push (.row (loc r) .own) = h1 at *
  have o2_0 := own_push h1 (loc q)
  have c2 := chg_push h1 (.row (loc q) .own)
  have e2 : h1.push (.row (rowL q) .own) = h1.push (.row (loc q) .own) := rfl
  rw [e2]
  have o1_0 := o1_0.chg c2 (by simp)
  have c_0 := c_0.trans c2
  generalize h1.push (.row (loc q) .own) = H0 at *
  subst hr
  subst hq
  have a0 : H0.cell (h.next, 0) = some (.str nm) := o1_0.cell 0
  have b0 : H0.cell (h1.next, 0) = some (.str nm2) := o2_0.cell 0
  simp only [Nat.zero_add, Nat.add_zero, a0, b0, bindV_some, cast_str, eqBy]
  by_cases e0 : nm = nm2
  case neg =>
    simp only [decide_eq_false e0, cond_false]
    exact ⟨false, H0, rfl, c_0, fun h => by cases h⟩
  simp only [decide_eq_true e0, cond_true]
  have a5 : H0.cell (h.next, 5) = some (.bool pm) := o1_0.cell 5
  have b5 : H0.cell (h1.next, 5) = some (.bool pm2) := o2_0.cell 5
  simp only [Nat.zero_add, Nat.add_zero, a5, b5, bindV_some, cast_bool, boolEq]
  by_cases e5 : pm = pm2
  case neg =>
    simp only [decide_eq_false e5, cond_false]
    exact ⟨false, H0, rfl, c_0, fun h => by cases h⟩
  simp only [decide_eq_true e5, cond_true]
  have a1 : H0.cells (h.next, 1) 4 = some (.agg (tyc rt)) := o1_0.cells (j := 1) (m := 4) (show 1 + 4 ≤ 6 by decide)
  have b1 : H0.cells (h1.next, 1) 4 = some (.agg (tyc rt2)) := o2_0.cells (j := 1) (m := 4) (show 1 + 4 ≤ 6 by decide)
  try simp only [Nat.zero_add, Nat.add_zero]
  rw [a1, (recTy 67).agg, b1, (recTy 67).agg]
  obtain ⟨t1, H1, f1, d1, g1⟩ := f57_eq (N := N) hN 67 N (by omega) _ _ _ _ H0 _ _ tt tt2 (Dt.chg c_0 (by simp) xt) (Dt.chg c_0 (by simp) xt2)
  have f1' : f57 N N (rt.1, rt.2.1, rt.2.2.1, rt.2.2.2.1, ()) (rt2.1, rt2.2.1, rt2.2.2.1, rt2.2.2.2.1, ()) H0 = some (t1, H1) := f1
  rw [f1', bind2_some]
  have c_1 := c_0.trans d1
  exact ⟨t1, H1, rfl, c_1, fun hh => by rw [e0, e5, g1 hh]⟩
abbrev rowM (m : MiV) : List AV := [(.int .i64 m.1), (.int .i64 m.2.1), (.int .i64 m.2.2.1), (.slice m.2.2.2.1.a m.2.2.2.1.len m.2.2.2.1.cap m.2.2.2.1.sz), (.slice m.2.2.2.2.1.a m.2.2.2.2.1.len m.2.2.2.2.1.cap m.2.2.2.2.1.sz), (.slice m.2.2.2.2.2.1.a m.2.2.2.2.2.1.len m.2.2.2.2.2.1.cap m.2.2.2.2.2.1.sz)]
theorem mic_inj {m n : MiV} (h : mic m = mic n) : m = n := by
  have h1 := aggM m (fun x => some x)
  rw [h, aggM] at h1
  exact (Option.some.inj h1).symm
theorem f21_eq (hN : 9223372036854775807 < N) {a f r0 a2 f2 r2 : Int} {kn lo co kn2 lo2 co2 : List D} (tk : ∀ d ∈ kn, isPr d) (tk2 : ∀ d ∈ kn2, isPr d) (tl : ∀ d ∈ lo, isLo d) (tl2 : ∀ d ∈ lo2, isLo d) (tc : ∀ d ∈ co, smIn d) (tc2 : ∀ d ∈ co2, smIn d) (l1 : kn.length ≤ 1000000) (l2 : lo.length ≤ 1000000) (l3 : co.length ≤ 1000000) {r q : MiV} (x : Dt h V (miD a f r0 kn lo co) (mic r)) (y : Dt h W (miD a2 f2 r2 kn2 lo2 co2) (mic q)) : Cmp (fun h => f21 N r q h) (miD a f r0 kn lo co) (miD a2 f2 r2 kn2 lo2 co2) h := by
  obtain ⟨s1, s2, s3, hc, y1, y2, y3⟩ := inv_mi x
  obtain ⟨z1, z2, z3, hc2, w1, w2, w3⟩ := inv_mi y
  have hr := mic_inj hc
  have hq := mic_inj hc2
  clear x y hc hc2
  show ∃ b h', f21 N r q h = some (b, h') ∧ Chg [] h h' ∧ (b = true → _)
  unfold f21
  have o1_0 := own_push h (mic r)
  have c_0 := chg_push h (.row (mic r) .own)
  have e1 : h.push (.row (rowM r) .own) = h.push (.row (mic r) .own) := rfl
  dsimp only
  rw [e1]
  generalize h.push (.row (mic r) .own) = h1 at *
  have o2_0 := own_push h1 (mic q)
  have c2 := chg_push h1 (.row (mic q) .own)
  have e2 : h1.push (.row (rowM q) .own) = h1.push (.row (mic q) .own) := rfl
  rw [e2]
  have o1_0 := o1_0.chg c2 (by simp)
  have c_0 := c_0.trans c2
  generalize h1.push (.row (mic q) .own) = H0 at *
  subst hr
  subst hq
  have a0 : H0.cell (h.next, 0) = some (.int .i64 a) := o1_0.cell 0
  have b0 : H0.cell (h1.next, 0) = some (.int .i64 a2) := o2_0.cell 0
  simp only [Nat.zero_add, Nat.add_zero, a0, b0, bindV_some, cast_int, eqI]
  by_cases e0 : a = a2
  case neg =>
    simp only [decide_eq_false e0, cond_false]
    exact ⟨false, H0, rfl, c_0, fun h => by cases h⟩
  simp only [decide_eq_true e0, cond_true]
  have a1 : H0.cell (h.next, 1) = some (.int .i64 f) := o1_0.cell 1
  have b1 : H0.cell (h1.next, 1) = some (.int .i64 f2) := o2_0.cell 1
  simp only [Nat.zero_add, Nat.add_zero, a1, b1, bindV_some, cast_int, eqI]
  by_cases e1 : f = f2
  case neg =>
    simp only [decide_eq_false e1, cond_false]
    exact ⟨false, H0, rfl, c_0, fun h => by cases h⟩
  simp only [decide_eq_true e1, cond_true]
  have a2 : H0.cell (h.next, 2) = some (.int .i64 r0) := o1_0.cell 2
  have b2 : H0.cell (h1.next, 2) = some (.int .i64 r2) := o2_0.cell 2
  simp only [Nat.zero_add, Nat.add_zero, a2, b2, bindV_some, cast_int, eqI]
  by_cases e2 : r0 = r2
  case neg =>
    simp only [decide_eq_false e2, cond_false]
    exact ⟨false, H0, rfl, c_0, fun h => by cases h⟩
  simp only [decide_eq_true e2, cond_true]
  have a3 : H0.cell (h.next, 3) = some (.slice s1.a s1.len s1.cap s1.sz) := o1_0.cell 3
  have b3 : H0.cell (h1.next, 3) = some (.slice z1.a z1.len z1.cap z1.sz) := o2_0.cell 3
  simp only [Nat.zero_add, Nat.add_zero, a3, b3, bindV_some, cast_slice]
  obtain ⟨t3, f3, g3⟩ := f40_eq (N := N) tk tk2 (y1.chg c_0 (by simp)) (w1.chg c_0 (by simp)) (by omega) hN
  have f3' : f40 N ⟨s1.a, s1.len, s1.cap, s1.sz⟩ ⟨z1.a, z1.len, z1.cap, z1.sz⟩ H0 = some (t3, H0) := f3
  rw [f3', bind2_some]
  cases hb3 : t3
  · exact ⟨false, H0, rfl, c_0, fun h => by cases h⟩
  have e3 := g3 hb3
  simp only [cond_true]
  have a4 : H0.cell (h.next, 4) = some (.slice s2.a s2.len s2.cap s2.sz) := o1_0.cell 4
  have b4 : H0.cell (h1.next, 4) = some (.slice z2.a z2.len z2.cap z2.sz) := o2_0.cell 4
  simp only [Nat.zero_add, Nat.add_zero, a4, b4, bindV_some, cast_slice]
  obtain ⟨t4, H1, f4, d1, g4⟩ := f41c42_eq (N := N) (h := H0) (P := isLo) (fun _ h => h) (fun d e r q h V W td te x y => f42_eq hN td te x y) tl tl2 (by omega) hN (y2.chg c_0 (by simp)) (w2.chg c_0 (by simp))
  have f4' : f41c42 N ⟨s2.a, s2.len, s2.cap, s2.sz⟩ ⟨z2.a, z2.len, z2.cap, z2.sz⟩ () H0 = some (t4, H1) := f4
  rw [f4', bind2_some]
  have c_1 := c_0.trans d1
  cases hb4 : t4
  · exact ⟨false, H1, rfl, c_1, fun h => by cases h⟩
  have e4 := g4 hb4
  have o1_1 := o1_0.chg d1 (by simp)
  have o2_1 := o2_0.chg d1 (by simp)
  simp only [cond_true]
  have a5 : H1.cell (h.next, 5) = some (.slice s3.a s3.len s3.cap s3.sz) := o1_1.cell 5
  have b5 : H1.cell (h1.next, 5) = some (.slice z3.a z3.len z3.cap z3.sz) := o2_1.cell 5
  simp only [Nat.zero_add, Nat.add_zero, a5, b5, bindV_some, cast_slice]
  obtain ⟨t5, H2, f5, d2, g5⟩ := f43c44_eq (N := N) (h := H1) (P := smIn) (fun _ => smIn.is) (fun d e r q h V W td te x y => f44_eq hN td te x y) tc tc2 (by omega) hN (y3.chg c_1 (by simp)) (w3.chg c_1 (by simp))
  have f5' : f43c44 N ⟨s3.a, s3.len, s3.cap, s3.sz⟩ ⟨z3.a, z3.len, z3.cap, z3.sz⟩ () H1 = some (t5, H2) := f5
  rw [f5', bind2_some]
  have c_2 := c_1.trans d2
  exact ⟨t5, H2, rfl, c_2, fun hh => by rw [e0, e1, e2, e3, e4, g5 hh]⟩
end
end Go.Proofs.YtjeaammlambkeaaDoor.My

set_option linter.unusedVariables false
set_option linter.unusedSimpArgs false
set_option maxRecDepth 100000
open Go Go.Proofs.YtjeaammlambkeaaDoor.Ai Go.Proofs
namespace Go.Proofs.YtjeaammlambkeaaDoor.My
/-! Great: what is not great is small -/
def rwVa (d : D) : Prop := ∃ k a b op p rg nm rs ag, d = vaD k a b op p rg nm rs ag ∧ smOp a ∧ smOp b ∧ smPa p ∧ ∀ o ∈ ag, smOp o
def rwIn (d : D) : Prop := ∃ k a hs to va nx, d = itD k a hs to va nx ∧ smPa to ∧ rwVa va
def rwLo (P : D → Prop) (d : D) : Prop := ∃ nm ty pm, d = loD nm ty pm ∧ P ty
/-- types, of any depth -/
def Closed (P : D → Prop) : Prop := ∀ d, P d → ∃ k nm rs el, d = rtD k nm rs el ∧ ∀ e ∈ el, P e
section
variable {N : Nat} {h : Heap} {V W : Nat → Prop} {cs : List AV} {P : D → Prop}
theorem inv_rtP (hP : Closed P) {d : D} (t : P d) (x : Dt h V d cs) : ∃ r : TyV, cs = tyc r := by
  obtain ⟨k, nm, rs, el, rfl, _⟩ := hP d t
  obtain ⟨s1, s2, hc, _⟩ := inv_rt x
  exact ⟨_, hc⟩
theorem recP (hP : Closed P) : Rec [(.int .i64), .str, .slice, .slice] 4 tyc P := ⟨(recTy 0).len, (recTy 0).agg, fun t x => inv_rtP hP t x⟩
theorem inv_loP (hP : Closed P) {nm : Bs} {ty : D} {pm : Bool} (t : P ty) (x : Dt h V (loD nm ty pm) cs) : ∃ r : TyV, cs = loc (nm, r.1, r.2.1, r.2.2.1, r.2.2.2.1, pm, ()) ∧ Dt h V ty (tyc r) := by
  simp only [loD, Dt, Dp] at x
  obtain ⟨_, _, rfl, e1, _, _, rfl, x2, _, _, rfl, e3, rfl⟩ := x
  subst e1 e3
  obtain ⟨r, rfl⟩ := inv_rtP hP t x2
  exact ⟨r, rfl, x2⟩
theorem recLoP (hP : Closed P) : Rec [.str, (.int .i64), .str, .slice, .slice, .bool] 6 loc (rwLo P) := ⟨recLo.len, recLo.agg, fun t x => by
  obtain ⟨nm, ty, pm, rfl, ht⟩ := t
  obtain ⟨r, hc, _⟩ := inv_loP hP ht x
  exact ⟨_, hc⟩⟩
theorem inv_vaR {d : D} (t : rwVa d) (x : Dt h V d cs) : ∃ r : VaV, cs = vac r := by
  obtain ⟨k, a, b, op, p, rg, nm, rs, ag, rfl, ta, tb, tp, _⟩ := t
  obtain ⟨ra, rb, rp, s1, s2, hc, _⟩ := inv_va ta.is tb.is tp.is x
  exact ⟨_, hc⟩
theorem inv_itR {k a : Int} {hs : Bool} {to va : D} {nx : List Int} (tt : smPa to) (tv : rwVa va) (x : Dt h V (itD k a hs to va nx) cs) : ∃ (rt : PaV) (rv : VaV) (s : SL), cs = itc (itOf k a hs rt rv s) ∧ Dt h V to (pac rt) ∧ Dt h V va (vac rv) ∧ Sl h V s (nx.map D.i) := by
  simp only [itD, Dt, Dp] at x
  obtain ⟨_, _, rfl, e1, _, _, rfl, e2, _, _, rfl, e3, _, _, rfl, x4, _, _, rfl, x5, _, _, rfl, x6, rfl⟩ := x
  subst e1 e2 e3
  obtain ⟨rt, rfl⟩ := inv_pa' tt.is x4
  obtain ⟨rv, rfl⟩ := inv_vaR tv x5
  obtain ⟨s, rfl, h1⟩ := lInv x6
  exact ⟨rt, rv, s, rfl, x4, x5, h1⟩
theorem recInR : Rec [(.int .i64), (.int .i64), .bool, (.int .i64), .slice, (.int .i64), (.int .i64), (.int .i64), (.int .i64), .slice, (.int .i64), (.int .i64), (.int .i64), .slice, (.int .i64), (.int .i64), .slice, (.int .i64), .str, .slice, .slice, .slice] 22 itc rwIn := ⟨recIn.len, recIn.agg, fun t x => by
  obtain ⟨k, a, hs, to, va, nx, rfl, tt, tv⟩ := t
  obtain ⟨rt, rv, s, hc, _⟩ := inv_itR tt tv x
  exact ⟨_, hc⟩⟩
theorem deep_loop (hP : Closed P) {rec29} {n A : Nat} {k : Int} {nm : Bs} {s1 s : SL} {el : List D} (hn : n ≤ 1000) (hl : el.length ≤ 2) (pe : ∀ e ∈ el, P e) (body : ∀ e, P e → ∀ (r : TyV) (h : Heap), Dt h V e (tyc r) → ∃ b h', rec29 r (n : Int) h = some (b, h') ∧ Chg [] h h' ∧ (b = false → isRt n e)) : ∀ (M i : Nat) (h : Heap), h.own A (tyc (k, nm, s1, s, ())) → Sl h V s el → i ≤ el.length → el.length - i < M → ∃ h', Chg [] h h' ∧
    ((f29_l1 N rec29 M ((n + 1 : Nat) : Int) (some (A, 0)) false (i : Int) h = some (.exit 0, (false, ()), h') ∧ ∀ e ∈ el.drop i, isRt n e) ∨ f29_l1 N rec29 M ((n + 1 : Nat) : Int) (some (A, 0)) false (i : Int) h = some (.ret, (true, ()), h')) := by
  intro M
  induction M with
  | zero => intro i h _ _ _ h; omega
  | succ M ih =>
    intro i h o x hi hM
    have a3 : h.cell (A, 3) = some (.slice s.a s.len s.cap s.sz) := o.cell 3
    have wn : wrapA .i64 (((n + 1 : Nat) : Int) - 1) = (n : Int) := by
      rw [wrapA_small (by omega) (by omega)]; omega
    rw [f29_l1_succ]
    unfold f29_l1_b
    simp only [need_some, Nat.zero_add, a3, bindV_some, cast_slice, lt_nat, x.len, wn]
    by_cases w : i < el.length
    · simp only [w, decide_true, cond_true]
      have hix : ∀ {β : Type} (K : Nat × Nat → Option β), ixK s.a el.length (i : Int) 4 K = K (s.at i 4) := fun K => by
        have := x.ix w 4 K
        rwa [x.len] at this
      obtain ⟨r, hr, d⟩ := (recP hP).elt x w (pe _ (List.getElem_mem w))
      rw [hix, hr, (recP hP).agg]
      obtain ⟨b, H, e, c, hb⟩ := body _ (pe _ (List.getElem_mem w)) r h d
      have e' : rec29 (r.1, r.2.1, r.2.2.1, r.2.2.2.1, ()) (n : Int) h = some (b, H) := e
      rw [e', bind2_some]
      cases hbb : b
      · simp only [cond_false]
        rw [wrap_succ (by omega)]
        obtain ⟨h', c', hh⟩ := ih (i + 1) H (o.chg c (by simp)) (x.chg c (by simp)) w (by omega)
        rcases hh with ⟨e, q⟩ | e
        · refine ⟨h', c.trans c', .inl ⟨e, ?_⟩⟩
          rw [List.drop_eq_getElem_cons w]
          intro z hz
          rcases List.mem_cons.1 hz with rfl | hz
          · exact hb hbb
          · exact q z hz
        · exact ⟨h', c.trans c', .inr e⟩
      · exact ⟨H, c, .inr rfl⟩
    · have z : decide (i < el.length) = false := decide_eq_false w
      rw [z, List.drop_eq_nil_of_le (by omega)]
      exact ⟨h, Chg.refl _ _, .inl ⟨rfl, by simp⟩⟩
theorem f29_eq (hP : Closed P) (hN : 1000 ≤ N) : ∀ (n M : Nat), n + 1 ≤ M → n ≤ 1000 → ∀ (d : D), P d → ∀ (r : TyV) (h : Heap), Dt h V d (tyc r) → ∃ b h', f29 N M r (n : Int) h = some (b, h') ∧ Chg [] h h' ∧ (b = false → isRt n d) := by
  intro n
  induction n with
  | zero =>
    intro M hM _ d _ r h x
    obtain ⟨M, rfl⟩ : ∃ m, M = m + 1 := ⟨M - 1, by omega⟩
    rw [f29_succ]
    exact ⟨true, _, rfl, chg_push _ _, fun h => by cases h⟩
  | succ n ih =>
    intro M hM hn d pd r h x
    obtain ⟨M, rfl⟩ : ∃ m, M = m + 1 := ⟨M - 1, by omega⟩
    obtain ⟨k, nm, rs, el, rfl, pe⟩ := hP d pd
    obtain ⟨s1, s2, hc, y1, y2⟩ := inv_rt x
    have hr := (recTy 1).inj hc
    clear x hc
    rw [f29_succ]
    unfold f29_r
    have o := own_push h (tyc r)
    have c := chg_push h (.row (tyc r) .own)
    have e1 : h.push (.row (rowT r) .own) = h.push (.row (tyc r) .own) := rfl
    dsimp only
    rw [e1]
    have y1 := y1.chg c (by simp)
    have y2 := y2.chg c (by simp)
    generalize h.push (.row (tyc r) .own) = H at *
    subst hr
    have z0 : leInt ((n + 1 : Nat) : Int) 0 = false := by rw [leI]; exact decide_eq_false (by omega)
    have a2 : H.cell (h.next, 2) = some (.slice s1.a s1.len s1.cap s1.sz) := o.cell 2
    have a3 : H.cell (h.next, 3) = some (.slice s2.a s2.len s2.cap s2.sz) := o.cell 3
    have l1 : s1.len = rs.length := by rw [y1.len, List.length_map]
    have g2 : ltInt 2 (Int.ofNat s2.len) = decide (2 < el.length) := by rw [y2.len]; exact lt_nat 2 _
    have g70 : ltInt 70 (Int.ofNat s1.len) = decide (70 < rs.length) := by rw [l1]; exact lt_nat 70 _
    simp only [z0, cond_false, Nat.zero_add, a2, a3, bindV_some, cast_slice, g2, g70]
    by_cases h2 : 2 < el.length
    · simp only [decide_eq_true h2, cond_true]
      exact ⟨true, H, rfl, c, fun h => by cases h⟩
    simp only [decide_eq_false h2, cond_false]
    by_cases h70 : 70 < rs.length
    · simp only [decide_eq_true h70, cond_true]
      exact ⟨true, H, rfl, c, fun h => by cases h⟩
    simp only [decide_eq_false h70, cond_false]
    obtain ⟨h', c', L⟩ := deep_loop (N := N) hP (rec29 := f29 N M) (n := n) (by omega) (by omega) pe (fun e pe r h x => ih M (by omega) (by omega) e pe r h x) N 0 H o y2 (Nat.zero_le _) (by omega)
    rw [List.drop_zero, show ((0 : Nat) : Int) = 0 from rfl] at L
    rcases L with ⟨e, q⟩ | e
    · rw [e]
      simp only [bind3_some, eqOut_exit, decide_true, cond_true]
      exact ⟨false, h', rfl, c.trans c', fun _ => ⟨k, nm, rs, el, rfl, by omega, by omega, q⟩⟩
    · rw [e]
      simp only [bind3_some, show eqOut .ret (.exit 0) = false from rfl, cond_false]
      exact ⟨true, h', rfl, c.trans c', fun h => by cases h⟩
theorem great_locals (hP : Closed P) (hN : 1000 ≤ N) {A : Nat} {m : MiV} {xs : List D} (hl : xs.length ≤ 1000) (px : ∀ d ∈ xs, rwLo P d) : ∀ (M i : Nat) (h : Heap), h.own A (mic m) → Sl h V m.2.2.2.2.1 xs → i ≤ xs.length → xs.length - i < M → ∃ h', Chg [] h h' ∧
    ((f18_l1 N M (some (A, 0)) false (i : Int) h = some (.exit 0, (some (A, 0), false, ()), h') ∧ ∀ d ∈ xs.drop i, isLo d) ∨ f18_l1 N M (some (A, 0)) false (i : Int) h = some (.ret, (some (A, 0), true, ()), h')) := by
  intro M
  induction M with
  | zero => intro i h _ _ _ h; omega
  | succ M ih =>
    intro i h o x hi hM
    have a4 : h.cell (A, 4) = some (.slice m.2.2.2.2.1.a m.2.2.2.2.1.len m.2.2.2.2.1.cap m.2.2.2.2.1.sz) := o.cell 4
    rw [f18_l1_succ]
    unfold f18_l1_b
    simp only [need_some, Nat.zero_add, a4, bindV_some, cast_slice, lt_nat, x.len]
    by_cases w : i < xs.length
    · simp only [w, decide_true, cond_true]
      have hix : ∀ {β : Type} (K : Nat × Nat → Option β), ixK m.2.2.2.2.1.a xs.length (i : Int) 6 K = K (m.2.2.2.2.1.at i 6) := fun K => by
        have := x.ix w 6 K
        rwa [x.len] at this
      have hp := px _ (List.getElem_mem w)
      obtain ⟨r, el⟩ := (recLoP hP).el x w hp
      obtain ⟨nm, ty, pm, hab, pt⟩ := hp
      have d := el.dt
      rw [hab] at d
      obtain ⟨rt, hc, dt⟩ := inv_loP hP pt d
      obtain rfl := recLo.inj hc
      have bt : h.cells ((m.2.2.2.2.1.at i 6).1, (m.2.2.2.2.1.at i 6).2 + 1) 4 = some (.agg (tyc rt)) := el.cells 1 4 (by omega)
      simp only [hix]
      rw [bt, (recTy 67).agg]
      obtain ⟨b, H, e, c, hb⟩ := f29_eq (N := N) (V := V) hP hN 67 N (by omega) (by omega) ty pt rt h dt
      have e' : f29 N N (rt.1, rt.2.1, rt.2.2.1, rt.2.2.2.1, ()) 67 h = some (b, H) := e
      rw [e', bind2_some]
      cases hbb : b
      · simp only [cond_false]
        rw [wrap_succ (by omega)]
        obtain ⟨h', c', hh⟩ := ih (i + 1) H (o.chg c (by simp)) (x.chg c (by simp)) w (by omega)
        rcases hh with ⟨e, q⟩ | e
        · refine ⟨h', c.trans c', .inl ⟨e, ?_⟩⟩
          rw [List.drop_eq_getElem_cons w]
          intro z hz
          rcases List.mem_cons.1 hz with rfl | hz
          · exact ⟨nm, ty, pm, hab, hb hbb⟩
          · exact q z hz
        · exact ⟨h', c.trans c', .inr e⟩
      · exact ⟨H, c, .inr rfl⟩
    · have z : decide (i < xs.length) = false := decide_eq_false w
      rw [z, List.drop_eq_nil_of_le (by omega)]
      exact ⟨h, Chg.refl _ _, .inl ⟨rfl, by simp⟩⟩
abbrev zeroV : List AV := [(.int .i64 0), (.int .i64 0), (.int .i64 0), (.int .i64 0), (.slice none 0 0 0), (.int .i64 0), (.int .i64 0), (.int .i64 0), (.slice none 0 0 0), (.int .i64 0), (.int .i64 0), (.slice none 0 0 0), (.int .i64 0), (.str []), (.slice none 0 0 0), (.slice none 0 0 0)]
theorem great_code {A : Nat} {m : MiV} {xs : List D} (hl : xs.length ≤ 1000) (px : ∀ d ∈ xs, rwIn d) : ∀ (M i : Nat) (h : Heap), h.own A (mic m) → Sl h V m.2.2.2.2.2.1 xs → i ≤ xs.length → xs.length - i < M → ∃ h', Chg [] h h' ∧
    ((f18_l2 N M (some (A, 0)) false (i : Int) h = some (.exit 2, (false, ()), h') ∧ ∀ d ∈ xs.drop i, smIn d) ∨ f18_l2 N M (some (A, 0)) false (i : Int) h = some (.ret, (true, ()), h')) := by
  intro M
  induction M with
  | zero => intro i h _ _ _ h; omega
  | succ M ih =>
    intro i h o x hi hM
    have a5 : h.cell (A, 5) = some (.slice m.2.2.2.2.2.1.a m.2.2.2.2.2.1.len m.2.2.2.2.2.1.cap m.2.2.2.2.2.1.sz) := o.cell 5
    rw [f18_l2_succ]
    unfold f18_l2_b
    simp only [need_some, Nat.zero_add, a5, bindV_some, cast_slice, lt_nat, x.len]
    by_cases w : i < xs.length
    · simp only [w, decide_true, cond_true]
      have hix : ∀ {β : Type} (K : Nat × Nat → Option β), ixK m.2.2.2.2.2.1.a xs.length (i : Int) 22 K = K (m.2.2.2.2.2.1.at i 22) := fun K => by
        have := x.ix w 22 K
        rwa [x.len] at this
      have hp := px _ (List.getElem_mem w)
      obtain ⟨r, el⟩ := recInR.el x w hp
      obtain ⟨k, a, hs, to, va, nx, hab, tt, tv⟩ := hp
      have d := el.dt
      rw [hab] at d
      obtain ⟨rt, rv, s, hc, xt, xv, y⟩ := inv_itR tt tv d
      have hr := recIn.inj hc
      have tv' := tv
      obtain ⟨vk, va1, vb, vop, vp, vrg, vnm, vrs, vag, hva, ta, tb, tp, tag⟩ := tv'
      have xv' := xv
      rw [hva] at xv'
      obtain ⟨ra, rb, rp, w1, w2, hcv, xa, xb, xp, v1, v2⟩ := inv_va ta.is tb.is tp.is xv'
      have hrv := recVa.inj hcv
      have bv : h.cells ((m.2.2.2.2.2.1.at i 22).1, (m.2.2.2.2.2.1.at i 22).2 + 5) 16 = some (.agg (vac rv)) := by
        have := el.cells 5 16 (by omega)
        rw [hr] at this
        exact this
      simp only [hix]
      rw [bv, recVa.agg]
      obtain ⟨H, p, c, o1⟩ := recVa.park (z := zeroV) rfl h rv
      have p' : ∀ {β : Type} (K : Heap → Option β), need ((h.push (.row zeroV .own)).store (h.next, 0) (rowV rv)) K = K H := p
      rw [p']
      have o' := o.chg c (by simp)
      have x' := x.chg c (by simp)
      have a5' : H.cell (A, 5) = some (.slice m.2.2.2.2.2.1.a m.2.2.2.2.2.1.len m.2.2.2.2.2.1.cap m.2.2.2.2.2.1.sz) := o'.cell 5
      obtain ⟨r2, el2⟩ := recInR.el x' w ⟨k, a, hs, to, va, nx, hab, tt, tv⟩
      have d2 := el2.dt
      rw [hab] at d2
      obtain ⟨rt2, rv2, s', hc2, xt2, _, y2⟩ := inv_itR tt tv d2
      have hr2 := recIn.inj hc2
      obtain ⟨tl, tss, rfl, htl⟩ := tt
      obtain ⟨st2, hcp, yt2⟩ := inv_pa xt2
      obtain rfl := recPa.inj hcp
      obtain ⟨pl, pss, rfl, hpl⟩ := tp
      obtain ⟨sp, hcp, yp⟩ := inv_pa xp
      obtain rfl := recPa.inj hcp
      have b21 : H.cell ((m.2.2.2.2.2.1.at i 22).1, (m.2.2.2.2.2.1.at i 22).2 + 21) = some (.slice s'.a s'.len s'.cap s'.sz) := by
        have := el2.cell 21 (by omega)
        rw [hr2] at this
        exact this
      have b4 : H.cell ((m.2.2.2.2.2.1.at i 22).1, (m.2.2.2.2.2.1.at i 22).2 + 4) = some (.slice st2.a st2.len st2.cap st2.sz) := by
        have := el2.cell 4 (by omega)
        rw [hr2] at this
        exact this
      subst hrv
      have c15 : H.cell (h.next, 15) = some (.slice w2.a w2.len w2.cap w2.sz) := o1.cell 15
      have c14 : H.cell (h.next, 14) = some (.slice w1.a w1.len w1.cap w1.sz) := o1.cell 14
      have c11 : H.cell (h.next, 11) = some (.slice sp.a sp.len sp.cap sp.sz) := o1.cell 11
      have g4 : ltInt 4 (Int.ofNat s'.len) = decide (4 < nx.length) := by rw [y2.len, List.length_map]; exact lt_nat 4 _
      have g15 : ltInt 20 (Int.ofNat w2.len) = decide (20 < vag.length) := by rw [v2.len]; exact lt_nat 20 _
      have g14 : ltInt 20 (Int.ofNat w1.len) = decide (20 < vrs.length) := by rw [v1.len, List.length_map]; exact lt_nat 20 _
      have g11 : ltInt 20 (Int.ofNat sp.len) = decide (20 < sp.len) := lt_nat 20 _
      have gt : ltInt 20 (Int.ofNat st2.len) = decide (20 < st2.len) := lt_nat 20 _
      have ad : ∀ q : Nat, q + 3 + 1 = q + 4 := fun q => by omega
      simp only [need_some, Nat.zero_add, a5', bindV_some, cast_slice, x.len, hix, b21, g4, c15, c14, c11, g15, g14, g11, ad, b4, gt, show 10 + 1 = 11 from rfl]
      by_cases h4 : 4 < nx.length
      · simp only [decide_eq_true h4, cond_true]
        exact ⟨H, c, .inr rfl⟩
      simp only [decide_eq_false h4, cond_false]
      by_cases h15 : 20 < vag.length
      · simp only [decide_eq_true h15, cond_true]
        exact ⟨H, c, .inr rfl⟩
      simp only [decide_eq_false h15, cond_false]
      by_cases h14 : 20 < vrs.length
      · simp only [decide_eq_true h14, cond_true]
        exact ⟨H, c, .inr rfl⟩
      simp only [decide_eq_false h14, cond_false]
      by_cases h11 : 20 < sp.len
      · simp only [decide_eq_true h11, cond_true]
        exact ⟨H, c, .inr rfl⟩
      simp only [decide_eq_false h11, cond_false]
      by_cases ht : 20 < st2.len
      · simp only [decide_eq_true ht, cond_true]
        exact ⟨H, c, .inr rfl⟩
      simp only [decide_eq_false ht, cond_false]
      rw [wrap_succ (by omega)]
      obtain ⟨h', c', hh⟩ := ih (i + 1) H o' x' w (by omega)
      rcases hh with ⟨e, q⟩ | e
      · refine ⟨h', c.trans c', .inl ⟨e, ?_⟩⟩
        rw [List.drop_eq_getElem_cons w]
        intro z hz
        rcases List.mem_cons.1 hz with rfl | hz
        · exact ⟨k, a, hs, _, va, nx, hab, ⟨tl, tss, rfl, htl⟩, ⟨vk, va1, vb, vop, _, vrg, vnm, vrs, vag, hva, ta, tb, ⟨pl, pss, rfl, hpl⟩, by omega, by omega, tag⟩, by omega⟩
        · exact q z hz
      · exact ⟨h', c.trans c', .inr e⟩
    · have z : decide (i < xs.length) = false := decide_eq_false w
      rw [z, List.drop_eq_nil_of_le (by omega)]
      exact ⟨h, Chg.refl _ _, .inl ⟨rfl, by simp⟩⟩
theorem f18_eq (hP : Closed P) (hN : 10000 ≤ N) {a f r0 : Int} {kn lo co : List D} (tl : ∀ d ∈ lo, rwLo P d) (tc : ∀ d ∈ co, rwIn d) {m : MiV} (x : Dt h V (miD a f r0 kn lo co) (mic m)) : ∃ b h', f18 N m h = some (b, h') ∧ Chg [] h h' ∧ (b = false → co.length ≤ 60 ∧ lo.length ≤ 30 ∧ r0 ≤ 200 ∧ kn.length ≤ 100 ∧ (∀ d ∈ lo, isLo d) ∧ ∀ d ∈ co, smIn d) := by
  obtain ⟨s1, s2, s3, hc, y1, y2, y3⟩ := inv_mi x
  have hm := mic_inj hc
  clear x hc
  unfold f18
  have o := own_push h (mic m)
  have c := chg_push h (.row (mic m) .own)
  have e1 : h.push (.row (rowM m) .own) = h.push (.row (mic m) .own) := rfl
  dsimp only
  rw [e1]
  have y1 := y1.chg c (by simp)
  have y2 := y2.chg c (by simp)
  have y3 := y3.chg c (by simp)
  generalize h.push (.row (mic m) .own) = H at *
  subst hm
  have a2 : H.cell (h.next, 2) = some (.int .i64 r0) := o.cell 2
  have a3 : H.cell (h.next, 3) = some (.slice s1.a s1.len s1.cap s1.sz) := o.cell 3
  have a4 : H.cell (h.next, 4) = some (.slice s2.a s2.len s2.cap s2.sz) := o.cell 4
  have a5 : H.cell (h.next, 5) = some (.slice s3.a s3.len s3.cap s3.sz) := o.cell 5
  have g5 : ltInt 60 (Int.ofNat s3.len) = decide (60 < co.length) := by rw [y3.len]; exact lt_nat 60 _
  have g4 : ltInt 30 (Int.ofNat s2.len) = decide (30 < lo.length) := by rw [y2.len]; exact lt_nat 30 _
  have g3 : ltInt 100 (Int.ofNat s1.len) = decide (100 < kn.length) := by rw [y1.len]; exact lt_nat 100 _
  simp only [Nat.zero_add, a2, a3, a4, a5, bindV_some, cast_slice, cast_int, g5, g4, g3]
  rw [ltI 200 r0]
  by_cases h5 : 60 < co.length
  · simp only [decide_eq_true h5, cond_true]
    exact ⟨true, H, rfl, c, fun h => by cases h⟩
  simp only [decide_eq_false h5, cond_false]
  by_cases h4 : 30 < lo.length
  · simp only [decide_eq_true h4, cond_true]
    exact ⟨true, H, rfl, c, fun h => by cases h⟩
  simp only [decide_eq_false h4, cond_false]
  by_cases h2 : 200 < r0
  · simp only [decide_eq_true h2, cond_true]
    exact ⟨true, H, rfl, c, fun h => by cases h⟩
  simp only [decide_eq_false h2, cond_false]
  by_cases h3 : 100 < kn.length
  · simp only [decide_eq_true h3, cond_true]
    exact ⟨true, H, rfl, c, fun h => by cases h⟩
  simp only [decide_eq_false h3, cond_false]
  obtain ⟨H1, c1, L⟩ := great_locals (N := N) hP (by omega) (by omega) tl N 0 H o y2 (Nat.zero_le _) (by omega)
  rw [List.drop_zero, show ((0 : Nat) : Int) = 0 from rfl] at L
  rcases L with ⟨e, ql⟩ | e
  case inr =>
    rw [e]
    simp only [bind3_some, show eqOut .ret (.exit 0) = false from rfl, cond_false]
    exact ⟨true, H1, rfl, c.trans c1, fun h => by cases h⟩
  rw [e]
  simp only [bind3_some, eqOut_exit, decide_true, cond_true]
  obtain ⟨H2, c2, L⟩ := great_code (N := N) (by omega) tc N 0 H1 (o.chg c1 (by simp)) (y3.chg c1 (by simp)) (Nat.zero_le _) (by omega)
  rw [List.drop_zero, show ((0 : Nat) : Int) = 0 from rfl] at L
  rcases L with ⟨e, qc⟩ | e
  · rw [e]
    simp only [bind3_some, eqOut_exit, decide_true, cond_true]
    exact ⟨false, H2, rfl, (c.trans c1).trans c2, fun _ => ⟨by omega, by omega, by omega, by omega, ql, qc⟩⟩
  · rw [e]
    simp only [bind3_some, show eqOut .ret (.exit 2) = false from rfl, cond_false]
    exact ⟨true, H2, rfl, (c.trans c1).trans c2, fun h => by cases h⟩
end
end Go.Proofs.YtjeaammlambkeaaDoor.My

set_option linter.unusedVariables false
set_option linter.unusedSimpArgs false
set_option maxRecDepth 100000
open Go Go.Proofs.YtjeaammlambkeaaDoor.Ai Go.Proofs
namespace Go.Proofs.YtjeaammlambkeaaDoor.My
/-! copies of slices, and one thing of them changed -/
theorem app34 : AppN E 34 45 22 1000 := AppN.of (by kernel_rfl)
theorem app33 : AppN E 33 50 6 1000 := AppN.of (by kernel_rfl)
theorem app40 : AppN E 40 3 1 1000 := AppN.of (by kernel_rfl)
/-- a block that an append made -/
def grw (h : Heap) (A : Nat) (cs : List AV) : Prop := h.g A = some (.row cs .grown) ∧ A < h.next
section
variable {N : Nat} {h h' : Heap} {V W : Nat → Prop} {A : Nat} {cs vs : List AV} {M : List Nat}
theorem grw_push (h : Heap) (cs : List AV) : grw (h.push (.row cs .grown)) h.next cs := ⟨g_push_eq _ rfl, Nat.lt_succ_self _⟩
theorem grw_put (x : grw h A cs) (vs : List AV) : grw (h.put A (.row vs .grown)) A vs := ⟨g_put_eq _ rfl, x.2⟩
theorem grw.chg (x : grw h A cs) (c : Chg M h h') (hM : A ∉ M) : grw h' A cs := ⟨(c.g A x.2 hM).trans x.1, Nat.lt_of_lt_of_le x.2 c.next⟩
theorem grw.cells (x : grw h A cs) {j m : Nat} (hj : j + m ≤ cs.length) : h.cells (A, j) m = some (.agg ((cs.drop j).take m)) := by
  rw [Heap.cells_g, x.1, cellsB_row]
  simp only [rowB, Option.bind]
  rw [takeN_of _ _ (by rw [List.length_drop]; omega)]; rfl
theorem grw.store (x : grw h A cs) {j : Nat} (hj : j + vs.length ≤ cs.length) : h.store (A, j) vs = some (h.put A (.row (cs.take j ++ vs ++ cs.drop (j + vs.length)) .grown)) := by
  rw [Heap.store_g, x.1]
  show (over j cs vs).map _ = _
  rw [over_many j cs vs hj]; rfl
theorem own.storeN (x : h.own A cs) {j : Nat} (hj : j + vs.length ≤ cs.length) : h.store (A, j) vs = some (h.put A (.row (cs.take j ++ vs ++ cs.drop (j + vs.length)) .own)) := by
  rw [Heap.store_g, x.1, storeB_own, over_many j cs vs hj]; rfl
theorem grw_sl {n : Nat} {xs : List D} (o : grw h A cs) (hv : V A) (d : De h V n xs cs) : Sl h V ⟨some (A, 0), xs.length, xs.length, n⟩ xs := by
  refine ⟨rfl, Nat.le_refl _, fun C hC => ?_, cs, ⟨d.length, (fun h => by cases h), fun A' off e => ?_⟩, d⟩
  · simp [SL.blk] at hC; subst hC; exact hv
  · cases e
    exact ⟨o.2, _, by rw [o.1]; rfl, by rw [List.drop_zero, List.take_length]⟩
theorem De.set {n : Nat} {xs : List D} {vs : List AV} (x : De h V n xs vs) {d : D} {cs : List AV} (hd : Dt h V d cs) (hc : cs.length = n) {p : Nat} (hp : p < xs.length) : De h V n (xs.set p d) (vs.take (p * n) ++ cs ++ vs.drop (p * n + cs.length)) := by
  have e : xs.set p d = xs.take p ++ [d] ++ xs.drop (p + 1) := by
    rw [List.set_eq_take_append_cons_drop, if_pos hp]
    simp
  have e2 : p * n + cs.length = (p + 1) * n := by rw [hc, Nat.add_mul, Nat.one_mul]
  rw [e, e2]
  exact ((x.take p (by omega)).append (by simp only [De]; exact ⟨cs, [], by simp, hc, hd, rfl⟩)).append (x.drop (p + 1) (by omega))
theorem De.single {n : Nat} : ∀ {xs : List D} {vs : List AV}, De h V n xs vs → vs.all AV.single = true
  | [], _, x => by simp only [De] at x; subst x; rfl
  | d :: r, _, x => by
    simp only [De] at x
    obtain ⟨a, b, rfl, _, h2, h3⟩ := x
    rw [List.all_append, De.single h3, Bool.and_true, List.all_eq_true]
    exact h2.single
theorem sees_first {s : SL} (x : Sees h s vs) : firstCellsA h s.sz s.len (.slice s.a s.len s.cap s.sz) = some vs := by
  obtain ⟨h3, h4, h5⟩ := x
  cases ha : s.a with
  | none =>
    have hl : vs.length = 0 := by rw [h3, h4 ha, Nat.zero_mul]
    have : vs = [] := List.length_eq_zero_iff.1 hl
    subst this; rfl
  | some q =>
    obtain ⟨A, off⟩ := q
    obtain ⟨h6, cs, h7, h8⟩ := h5 A off ha
    have hlen : ((cs.drop off).take vs.length).length = vs.length := by rw [h8]
    rw [List.length_take] at hlen
    simp only [firstCellsA, Heap.read, row_of_rowB A h7]
    rw [takeN_of _ _ (by omega), ← h3, h8]
/-- a slice appended to an empty one: a block of its own -/
theorem append_copy {st e n W : Nat} (ha : AppN E st e n W) {C : Nat} (o : h.own C []) {s : SL} {xs : List D} (x : Sl h V s xs) (hz : s.sz = n) (h1 : 0 < xs.length) (hl : xs.length * W ≤ 1073741824) : ∃ vs, De h V n xs vs ∧ appendA E st st (.slice (some (C, 0)) 0 0 n) (.slice s.a s.len s.cap s.sz) h = some (.slice (some (h.next, 0)) xs.length xs.length n, h.push (.row vs .grown)) := by
  obtain ⟨hu, ⟨i, hi, hi1, hi2⟩, ⟨z, hz0, hz1⟩⟩ := ha
  obtain ⟨vs, sv, d⟩ := x.els
  have f := sees_first sv
  rw [hz] at f d
  refine ⟨vs, d, ?_⟩
  have hroom : Nat.ble ((0 + s.len) * (i.bytes + i.size + 1)) roomA = true := by
    have h1 : (0 + s.len) * (i.bytes + i.size + 1) ≤ xs.length * W := Nat.mul_le_mul (by rw [x.len]; omega) (by omega)
    simp only [roomA, Nat.ble_eq]; omega
  have hz2 : Nat.beq z.cells.length i.size = true := by rw [hz1, hi1]; exact Nat.beq_refl _
  have hnl : Nat.beq vs.length (s.len * i.size) = true := by rw [hi1, d.length, x.len]; exact Nat.beq_refl _
  have hs : Nat.beq n i.size = true := by rw [hi1]; exact Nat.beq_refl _
  have hn0 : Nat.beq s.len 0 = false := by rw [x.len]; cases hx : xs.length with
    | zero => omega
    | succ k => rfl
  have hg : h.t.get C = some (.row [] .own) := o.1
  have f' : firstCellsA h i.size s.len (.slice s.a s.len s.cap s.sz) = some vs := by rw [hi1, hz]; rw [hz] at *; exact f
  have hb : Nat.ble xs.length 0 = false := by
    cases hx : xs.length with
    | zero => omega
    | succ k => simp [Nat.ble]
  simp only [appendA, hu, isIntD, isStrD, cond_false, hi, hz0, lenOfA]
  rw [f']
  simp only [hn0, hroom, hz2, hs, hnl, De.single d, Bool.true_or, Bool.and_self, cond_true, cond_false, growA, hg]
  rw [hi1, Nat.zero_mul]
  simp only [List.drop_zero, takeN, List.nil_append, Nat.zero_add, x.len, hb, cond_false]
end
end Go.Proofs.YtjeaammlambkeaaDoor.My

set_option linter.unusedVariables false
set_option linter.unusedSimpArgs false
set_option maxRecDepth 100000
open Go Go.Proofs.YtjeaammlambkeaaDoor.Ai Go.Proofs
namespace Go.Proofs.YtjeaammlambkeaaDoor.My
/-! MirSpoils -/
noncomputable def TL (N : Nat) (j76 : (Option (Nat × Nat) × Option (Nat × Nat) × Int × Option (Nat × Nat) × Unit)) (h77 : Heap) : Option (Bool × Heap) :=
   (need j76.2.1 fun q78 =>
   (bindV (.val (.one .slice)) (h77.cell (q78.1, q78.2 + 5)) fun (x79 : SL) =>
   (need j76.2.2.2.1 fun q80 =>
   (bindV (.val (.agg [(.int .i64), (.int .i64), .bool, (.int .i64), .slice, (.int .i64), (.int .i64), (.int .i64), (.int .i64), .slice, (.int .i64), (.int .i64), (.int .i64), .slice, (.int .i64), (.int .i64), .slice, (.int .i64), .str, .slice, .slice, .slice])) (h77.cells q80 22) fun (x81 : (Int × Int × Bool × Int × SL × Int × Int × Int × Int × SL × Int × Int × Int × SL × Int × Int × SL × Int × List UInt8 × SL × SL × SL × Unit)) =>
   (ixK x79.a x79.len j76.2.2.1 22 fun q82 =>
   (need (h77.store q82 [(.int .i64 x81.1), (.int .i64 x81.2.1), (.bool x81.2.2.1), (.int .i64 x81.2.2.2.1), (.slice x81.2.2.2.2.1.a x81.2.2.2.2.1.len x81.2.2.2.2.1.cap x81.2.2.2.2.1.sz), (.int .i64 x81.2.2.2.2.2.1), (.int .i64 x81.2.2.2.2.2.2.1), (.int .i64 x81.2.2.2.2.2.2.2.1), (.int .i64 x81.2.2.2.2.2.2.2.2.1), (.slice x81.2.2.2.2.2.2.2.2.2.1.a x81.2.2.2.2.2.2.2.2.2.1.len x81.2.2.2.2.2.2.2.2.2.1.cap x81.2.2.2.2.2.2.2.2.2.1.sz), (.int .i64 x81.2.2.2.2.2.2.2.2.2.2.1), (.int .i64 x81.2.2.2.2.2.2.2.2.2.2.2.1), (.int .i64 x81.2.2.2.2.2.2.2.2.2.2.2.2.1), (.slice x81.2.2.2.2.2.2.2.2.2.2.2.2.2.1.a x81.2.2.2.2.2.2.2.2.2.2.2.2.2.1.len x81.2.2.2.2.2.2.2.2.2.2.2.2.2.1.cap x81.2.2.2.2.2.2.2.2.2.2.2.2.2.1.sz), (.int .i64 x81.2.2.2.2.2.2.2.2.2.2.2.2.2.2.1), (.int .i64 x81.2.2.2.2.2.2.2.2.2.2.2.2.2.2.2.1), (.slice x81.2.2.2.2.2.2.2.2.2.2.2.2.2.2.2.2.1.a x81.2.2.2.2.2.2.2.2.2.2.2.2.2.2.2.2.1.len x81.2.2.2.2.2.2.2.2.2.2.2.2.2.2.2.2.1.cap x81.2.2.2.2.2.2.2.2.2.2.2.2.2.2.2.2.1.sz), (.int .i64 x81.2.2.2.2.2.2.2.2.2.2.2.2.2.2.2.2.2.1), (.str x81.2.2.2.2.2.2.2.2.2.2.2.2.2.2.2.2.2.2.1), (.slice x81.2.2.2.2.2.2.2.2.2.2.2.2.2.2.2.2.2.2.2.1.a x81.2.2.2.2.2.2.2.2.2.2.2.2.2.2.2.2.2.2.2.1.len x81.2.2.2.2.2.2.2.2.2.2.2.2.2.2.2.2.2.2.2.1.cap x81.2.2.2.2.2.2.2.2.2.2.2.2.2.2.2.2.2.2.2.1.sz), (.slice x81.2.2.2.2.2.2.2.2.2.2.2.2.2.2.2.2.2.2.2.2.1.a x81.2.2.2.2.2.2.2.2.2.2.2.2.2.2.2.2.2.2.2.2.1.len x81.2.2.2.2.2.2.2.2.2.2.2.2.2.2.2.2.2.2.2.2.1.cap x81.2.2.2.2.2.2.2.2.2.2.2.2.2.2.2.2.2.2.2.2.1.sz), (.slice x81.2.2.2.2.2.2.2.2.2.2.2.2.2.2.2.2.2.2.2.2.2.1.a x81.2.2.2.2.2.2.2.2.2.2.2.2.2.2.2.2.2.2.2.2.2.1.len x81.2.2.2.2.2.2.2.2.2.2.2.2.2.2.2.2.2.2.2.2.2.1.cap x81.2.2.2.2.2.2.2.2.2.2.2.2.2.2.2.2.2.2.2.2.2.1.sz)]) fun h83 =>
   (bind2 (f6 N  h83) fun (x84 : Bool) h85 =>
   (bif x84 then
    (need j76.1 fun q86 =>
    (bindV (.val (.agg [(.int .i64), (.int .i64), (.int .i64), .slice, .slice, .slice])) (h85.cells q86 6) fun (x87 : (Int × Int × Int × SL × SL × SL × Unit)) =>
    (bind2 (f20 N (x87.1, x87.2.1, x87.2.2.1, x87.2.2.2.1, x87.2.2.2.2.1, x87.2.2.2.2.2.1, ()) h85) fun (x88 : Bool) h89 =>
    (bif x88 then
     (need j76.2.1 fun q90 =>
     (bindV (.val (.agg [(.int .i64), (.int .i64), (.int .i64), .slice, .slice, .slice])) (h89.cells q90 6) fun (x91 : (Int × Int × Int × SL × SL × SL × Unit)) =>
     (bind2 (f20 N (x91.1, x91.2.1, x91.2.2.1, x91.2.2.2.1, x91.2.2.2.2.1, x91.2.2.2.2.2.1, ()) h89) fun (x92 : Bool) h93 =>
     let x94 : Bool := !x92
     (bif x94 then
      (need j76.1 fun q95 =>
      (bindV (.val (.agg [(.int .i64), (.int .i64), (.int .i64), .slice, .slice, .slice])) (h93.cells q95 6) fun (x96 : (Int × Int × Int × SL × SL × SL × Unit)) =>
      (need j76.2.1 fun q97 =>
      (bindV (.val (.agg [(.int .i64), (.int .i64), (.int .i64), .slice, .slice, .slice])) (h93.cells q97 6) fun (x98 : (Int × Int × Int × SL × SL × SL × Unit)) =>
      (bind2 (f21 N (x96.1, x96.2.1, x96.2.2.1, x96.2.2.2.1, x96.2.2.2.2.1, x96.2.2.2.2.2.1, ()) (x98.1, x98.2.1, x98.2.2.1, x98.2.2.2.1, x98.2.2.2.2.1, x98.2.2.2.2.2.1, ()) h93) fun (x99 : Bool) h100 =>
      let x101 : Bool := !x99
      some (x101, h100))))))
     else
      some (false, h93)))))
    else
     some (false, h89)))))
   else
    some (false, h85)))))))))
noncomputable def SP (N : Nat) (j9 : (Int × Int × Option (Nat × Nat) × Bool × Unit)) (bb dd : Nat) (x34 : Int) (h39 : Heap) : Option ((Option (Nat × Nat) × Option (Nat × Nat) × Int × Option (Nat × Nat) × Unit) × Heap) :=
    (bindV (.val (.one (.int .i64))) (binInt .rem .i64 j9.2.1 6) fun (x40 : Int) =>
    let x41 : Int := wrapA .i64 (x40 + 6)
    (bindV (.val (.one (.int .i64))) (binInt .rem .i64 x41 6) fun (x42 : Int) =>
    let x43 : Bool := eqInt x42 0
    (bif x43 then
     (need (h39.store ((dd, 0).1, (dd, 0).2 + 0) [(.int .i64 7)]) fun h44 =>
     some ((j9.2.2.1, (some (bb, 0)), x34, (some (dd, 0)), ()), h44))
    else
     let x45 : Bool := eqInt x42 1
     (bif x45 then
      let h46 : Heap := h39.push (.row [] .own)
      (bindV (.val (.one .slice)) (h46.cell ((dd, 0).1, (dd, 0).2 + 21)) fun (x47 : SL) =>
      (bindT (.val (.one .slice)) (appendA E 40 40 (.slice (some (h39.next, 0)) 0 0 1) (.slice x47.a x47.len x47.cap x47.sz) h46) fun (x48 : SL) h49 =>
      let h50 : Heap := h49.push (.row [(.int .i64 0)] .own)
      (bindT (.val (.one .slice)) (appendA E 40 40 (.slice x48.a x48.len x48.cap x48.sz) (.slice (some (h49.next, 0)) 1 1 1) h50) fun (x51 : SL) h52 =>
      (need (h52.store ((dd, 0).1, (dd, 0).2 + 21) [(.slice x51.a x51.len x51.cap x51.sz)]) fun h53 =>
      some ((j9.2.2.1, (some (bb, 0)), x34, (some (dd, 0)), ()), h53)))))
     else
      let x54 : Bool := eqInt x42 2
      (bif x54 then
       (need j9.2.2.1 fun q55 =>
       (bindV (.val (.one .slice)) (h39.cell (q55.1, q55.2 + 4)) fun (x56 : SL) =>
       let h57 : Heap := h39.push (.row [(.int .i64 0)] .own)
       (need (h57.store (dd, 0) [(.int .i64 2), (.int .i64 0), (.bool false), (.int .i64 (Int.ofNat x56.len)), (.slice none 0 0 0), (.int .i64 0), (.int .i64 0), (.int .i64 0), (.int .i64 0), (.slice none 0 0 0), (.int .i64 0), (.int .i64 0), (.int .i64 0), (.slice none 0 0 0), (.int .i64 0), (.int .i64 0), (.slice none 0 0 0), (.int .i64 0), (.str []), (.slice none 0 0 0), (.slice none 0 0 0), (.slice (some (h39.next, 0)) 1 1 1)]) fun h58 =>
       some ((j9.2.2.1, (some (bb, 0)), x34, (some (dd, 0)), ()), h58))))
      else
       let x59 : Bool := eqInt x42 3
       (bif x59 then
        (need j9.2.2.1 fun q60 =>
        (bindV (.val (.one .slice)) (h39.cell (q60.1, q60.2 + 5)) fun (x61 : SL) =>
        let h62 : Heap := h39.push (.row [(.int .i64 (Int.ofNat x61.len))] .own)
        (need (h62.store (dd, 0) [(.int .i64 5), (.int .i64 0), (.bool false), (.int .i64 0), (.slice none 0 0 0), (.int .i64 0), (.int .i64 0), (.int .i64 0), (.int .i64 0), (.slice none 0 0 0), (.int .i64 0), (.int .i64 0), (.int .i64 0), (.slice none 0 0 0), (.int .i64 0), (.int .i64 0), (.slice none 0 0 0), (.int .i64 0), (.str []), (.slice none 0 0 0), (.slice none 0 0 0), (.slice (some (h39.next, 0)) 1 1 1)]) fun h63 =>
        some ((j9.2.2.1, (some (bb, 0)), x34, (some (dd, 0)), ()), h63))))
       else
        let x64 : Bool := eqInt x42 4
        (bif x64 then
         (bindV (.val (.one .slice)) (h39.cell ((bb, 0).1, (bb, 0).2 + 4)) fun (x65 : SL) =>
         (need j9.2.2.1 fun q66 =>
         (bindV (.val (.one (.int .i64))) (h39.cell (q66.1, q66.2 + 2)) fun (x67 : Int) =>
         let h68 : Heap := h39.push (.row [(.int .i64 x67)] .own)
         let h69 : Heap := h68.push (.row [(.int .i64 1), (.str []), (.slice none 0 0 0), (.slice none 0 0 0)] .own)
         (ixK x65.a x65.len 0 6 fun q70 =>
         (need (h69.store (q70.1, q70.2 + 1) [(.int .i64 4), (.str []), (.slice (some (h39.next, 0)) 1 1 1), (.slice (some (h68.next, 0)) 1 1 4)]) fun h71 =>
         some ((j9.2.2.1, (some (bb, 0)), x34, (some (dd, 0)), ()), h71))))))
        else
         (need j9.2.2.1 fun q72 =>
         (bindV (.val (.one (.int .i64))) (h39.cell (q72.1, q72.2 + 2)) fun (x73 : Int) =>
         let x74 : Int := wrapA .i64 (x73 + 1)
         (need (h39.store ((bb, 0).1, (bb, 0).2 + 1) [(.int .i64 x74)]) fun h75 =>
         some ((j9.2.2.1, (some (bb, 0)), x34, (some (dd, 0)), ()), h75)))))))))))
noncomputable def K9 (N : Nat) (j9 : (Int × Int × Option (Nat × Nat) × Bool × Unit)) (h10 : Heap) : Option (Bool × Heap) :=
  (bif j9.2.2.2.1 then
   (bind2 (f6 N  h10) fun (x11 : Bool) h12 =>
   some (x11, h12))
  else
   (need j9.2.2.1 fun q13 =>
   (bindV (.val (.agg [(.int .i64), (.int .i64), (.int .i64), .slice, .slice, .slice])) (h10.cells q13 6) fun (x14 : (Int × Int × Int × SL × SL × SL × Unit)) =>
   let h15 : Heap := h10.push (.row [(.int .i64 0), (.int .i64 0), (.int .i64 0), (.slice none 0 0 0), (.slice none 0 0 0), (.slice none 0 0 0)] .own)
   (need (h15.store (h10.next, 0) [(.int .i64 x14.1), (.int .i64 x14.2.1), (.int .i64 x14.2.2.1), (.slice x14.2.2.2.1.a x14.2.2.2.1.len x14.2.2.2.1.cap x14.2.2.2.1.sz), (.slice x14.2.2.2.2.1.a x14.2.2.2.2.1.len x14.2.2.2.2.1.cap x14.2.2.2.2.1.sz), (.slice x14.2.2.2.2.2.1.a x14.2.2.2.2.2.1.len x14.2.2.2.2.2.1.cap x14.2.2.2.2.2.1.sz)]) fun h16 =>
   let h17 : Heap := h16.push (.row [] .own)
   (need j9.2.2.1 fun q18 =>
   (bindV (.val (.one .slice)) (h17.cell (q18.1, q18.2 + 5)) fun (x19 : SL) =>
   (bindT (.val (.one .slice)) (appendA E 34 34 (.slice (some (h16.next, 0)) 0 0 22) (.slice x19.a x19.len x19.cap x19.sz) h17) fun (x20 : SL) h21 =>
   (need (h21.store ((h10.next, 0).1, (h10.next, 0).2 + 5) [(.slice x20.a x20.len x20.cap x20.sz)]) fun h22 =>
   let h23 : Heap := h22.push (.row [] .own)
   (need j9.2.2.1 fun q24 =>
   (bindV (.val (.one .slice)) (h23.cell (q24.1, q24.2 + 4)) fun (x25 : SL) =>
   (bindT (.val (.one .slice)) (appendA E 33 33 (.slice (some (h22.next, 0)) 0 0 6) (.slice x25.a x25.len x25.cap x25.sz) h23) fun (x26 : SL) h27 =>
   (need (h27.store ((h10.next, 0).1, (h10.next, 0).2 + 4) [(.slice x26.a x26.len x26.cap x26.sz)]) fun h28 =>
   (bindV (.val (.one .slice)) (h28.cell ((h10.next, 0).1, (h10.next, 0).2 + 5)) fun (x29 : SL) =>
   (bindV (.val (.one (.int .i64))) (binInt .rem .i64 j9.1 (Int.ofNat x29.len)) fun (x30 : Int) =>
   (bindV (.val (.one .slice)) (h28.cell ((h10.next, 0).1, (h10.next, 0).2 + 5)) fun (x31 : SL) =>
   let x32 : Int := wrapA .i64 (x30 + (Int.ofNat x31.len))
   (bindV (.val (.one .slice)) (h28.cell ((h10.next, 0).1, (h10.next, 0).2 + 5)) fun (x33 : SL) =>
   (bindV (.val (.one (.int .i64))) (binInt .rem .i64 x32 (Int.ofNat x33.len)) fun (x34 : Int) =>
   (bindV (.val (.one .slice)) (h28.cell ((h10.next, 0).1, (h10.next, 0).2 + 5)) fun (x35 : SL) =>
   (ixK x35.a x35.len x34 22 fun q36 =>
   (bindV (.val (.agg [(.int .i64), (.int .i64), .bool, (.int .i64), .slice, (.int .i64), (.int .i64), (.int .i64), (.int .i64), .slice, (.int .i64), (.int .i64), (.int .i64), .slice, (.int .i64), (.int .i64), .slice, (.int .i64), .str, .slice, .slice, .slice])) (h28.cells q36 22) fun (x37 : (Int × Int × Bool × Int × SL × Int × Int × Int × Int × SL × Int × Int × Int × SL × Int × Int × SL × Int × List UInt8 × SL × SL × SL × Unit)) =>
   let h38 : Heap := h28.push (.row [(.int .i64 0), (.int .i64 0), (.bool false), (.int .i64 0), (.slice none 0 0 0), (.int .i64 0), (.int .i64 0), (.int .i64 0), (.int .i64 0), (.slice none 0 0 0), (.int .i64 0), (.int .i64 0), (.int .i64 0), (.slice none 0 0 0), (.int .i64 0), (.int .i64 0), (.slice none 0 0 0), (.int .i64 0), (.str []), (.slice none 0 0 0), (.slice none 0 0 0), (.slice none 0 0 0)] .own)
   (need (h38.store (h28.next, 0) [(.int .i64 x37.1), (.int .i64 x37.2.1), (.bool x37.2.2.1), (.int .i64 x37.2.2.2.1), (.slice x37.2.2.2.2.1.a x37.2.2.2.2.1.len x37.2.2.2.2.1.cap x37.2.2.2.2.1.sz), (.int .i64 x37.2.2.2.2.2.1), (.int .i64 x37.2.2.2.2.2.2.1), (.int .i64 x37.2.2.2.2.2.2.2.1), (.int .i64 x37.2.2.2.2.2.2.2.2.1), (.slice x37.2.2.2.2.2.2.2.2.2.1.a x37.2.2.2.2.2.2.2.2.2.1.len x37.2.2.2.2.2.2.2.2.2.1.cap x37.2.2.2.2.2.2.2.2.2.1.sz), (.int .i64 x37.2.2.2.2.2.2.2.2.2.2.1), (.int .i64 x37.2.2.2.2.2.2.2.2.2.2.2.1), (.int .i64 x37.2.2.2.2.2.2.2.2.2.2.2.2.1), (.slice x37.2.2.2.2.2.2.2.2.2.2.2.2.2.1.a x37.2.2.2.2.2.2.2.2.2.2.2.2.2.1.len x37.2.2.2.2.2.2.2.2.2.2.2.2.2.1.cap x37.2.2.2.2.2.2.2.2.2.2.2.2.2.1.sz), (.int .i64 x37.2.2.2.2.2.2.2.2.2.2.2.2.2.2.1), (.int .i64 x37.2.2.2.2.2.2.2.2.2.2.2.2.2.2.2.1), (.slice x37.2.2.2.2.2.2.2.2.2.2.2.2.2.2.2.2.1.a x37.2.2.2.2.2.2.2.2.2.2.2.2.2.2.2.2.1.len x37.2.2.2.2.2.2.2.2.2.2.2.2.2.2.2.2.1.cap x37.2.2.2.2.2.2.2.2.2.2.2.2.2.2.2.2.1.sz), (.int .i64 x37.2.2.2.2.2.2.2.2.2.2.2.2.2.2.2.2.2.1), (.str x37.2.2.2.2.2.2.2.2.2.2.2.2.2.2.2.2.2.2.1), (.slice x37.2.2.2.2.2.2.2.2.2.2.2.2.2.2.2.2.2.2.2.1.a x37.2.2.2.2.2.2.2.2.2.2.2.2.2.2.2.2.2.2.2.1.len x37.2.2.2.2.2.2.2.2.2.2.2.2.2.2.2.2.2.2.2.1.cap x37.2.2.2.2.2.2.2.2.2.2.2.2.2.2.2.2.2.2.2.1.sz), (.slice x37.2.2.2.2.2.2.2.2.2.2.2.2.2.2.2.2.2.2.2.2.1.a x37.2.2.2.2.2.2.2.2.2.2.2.2.2.2.2.2.2.2.2.2.1.len x37.2.2.2.2.2.2.2.2.2.2.2.2.2.2.2.2.2.2.2.2.1.cap x37.2.2.2.2.2.2.2.2.2.2.2.2.2.2.2.2.2.2.2.2.1.sz), (.slice x37.2.2.2.2.2.2.2.2.2.2.2.2.2.2.2.2.2.2.2.2.2.1.a x37.2.2.2.2.2.2.2.2.2.2.2.2.2.2.2.2.2.2.2.2.2.1.len x37.2.2.2.2.2.2.2.2.2.2.2.2.2.2.2.2.2.2.2.2.2.1.cap x37.2.2.2.2.2.2.2.2.2.2.2.2.2.2.2.2.2.2.2.2.2.1.sz)]) fun h39 =>
   (bind2 (α := (Option (Nat × Nat) × Option (Nat × Nat) × Int × Option (Nat × Nat) × Unit)) (SP N j9 h10.next h28.next x34 h39) (TL N)))))))))))))))))))))))
noncomputable def f5_c (N : Nat) (a0 : (Int × Int × Int × SL × SL × SL × Unit)) (a1 : Int) (a2 : Int) (h : Heap) : Option (Bool × Heap) :=
  let h1 : Heap := h.push (.row [(.int .i64 a0.1), (.int .i64 a0.2.1), (.int .i64 a0.2.2.1), (.slice a0.2.2.2.1.a a0.2.2.2.1.len a0.2.2.2.1.cap a0.2.2.2.1.sz), (.slice a0.2.2.2.2.1.a a0.2.2.2.2.1.len a0.2.2.2.2.1.cap a0.2.2.2.2.1.sz), (.slice a0.2.2.2.2.2.1.a a0.2.2.2.2.2.1.len a0.2.2.2.2.2.1.cap a0.2.2.2.2.2.1.sz)] .own)
  (bind2 (α := (Int × Int × Option (Nat × Nat) × Bool × Unit)) (
   (bindV (.val (.agg [(.int .i64), (.int .i64), (.int .i64), .slice, .slice, .slice])) (h1.cells (h.next, 0) 6) fun (x2 : (Int × Int × Int × SL × SL × SL × Unit)) =>
   (bind2 (f18 N (x2.1, x2.2.1, x2.2.2.1, x2.2.2.2.1, x2.2.2.2.2.1, x2.2.2.2.2.2.1, ()) h1) fun (x3 : Bool) h4 =>
   (bif x3 then
    some ((a1, a2, (some (h.next, 0)), true, ()), h4)
   else
    (bindV (.val (.agg [(.int .i64), (.int .i64), (.int .i64), .slice, .slice, .slice])) (h4.cells (h.next, 0) 6) fun (x5 : (Int × Int × Int × SL × SL × SL × Unit)) =>
    (bind2 (f19 N (x5.1, x5.2.1, x5.2.2.1, x5.2.2.2.1, x5.2.2.2.2.1, x5.2.2.2.2.2.1, ()) h4) fun (x6 : Bool) h7 =>
    let x8 : Bool := !x6
    some ((a1, a2, (some (h.next, 0)), x8, ()), h7))))))) (K9 N))

theorem f5_eqc (N : Nat) (a0 : (Int × Int × Int × SL × SL × SL × Unit)) (a1 : Int) (a2 : Int) (h : Heap) : f5 N a0 a1 a2 h = f5_c N a0 a1 a2 h := rfl

section
variable {N : Nat} {h h' : Heap} {V W : Nat → Prop}
theorem dt_it {k a : Int} {hs : Bool} {to va : D} {nx : List Int} {rt : PaV} {rv : VaV} {s : SL} (xt : Dt h V to (pac rt)) (xv : Dt h V va (vac rv)) (y : Sl h V s (nx.map D.i)) : Dt h V (itD k a hs to va nx) (itc (itOf k a hs rt rv s)) := by
  have z := dt_av.2 y
  simp only [itD, Dt, Dp] at z ⊢
  exact ⟨[.int .i64 k], _, rfl, rfl, [.int .i64 a], _, rfl, rfl, [.bool hs], _, rfl, rfl, pac rt, _, rfl, xt, vac rv, _, rfl, xv, [s.av], [], rfl, z, rfl⟩
theorem dt_mi {a f r : Int} {kn lo co : List D} {s1 s2 s3 : SL} (y1 : Sl h V s1 kn) (y2 : Sl h V s2 lo) (y3 : Sl h V s3 co) : Dt h V (miD a f r kn lo co) (mic (a, f, r, s1, s2, s3, ())) := by
  have z1 := dt_av.2 y1
  have z2 := dt_av.2 y2
  have z3 := dt_av.2 y3
  simp only [miD, Dt, Dp] at z1 z2 z3 ⊢
  exact ⟨[.int .i64 a], _, rfl, rfl, [.int .i64 f], _, rfl, rfl, [.int .i64 r], _, rfl, rfl, [s1.av], _, rfl, z1, [s2.av], _, rfl, z2, [s3.av], [], rfl, z3, rfl⟩
theorem dt_rt {k : Int} {nm : Bs} {rs : List Int} {el : List D} {s1 s2 : SL} (y1 : Sl h V s1 (rs.map D.i)) (y2 : Sl h V s2 el) : Dt h V (rtD k nm rs el) (tyc (k, nm, s1, s2, ())) := by
  have z1 := dt_av.2 y1
  have z2 := dt_av.2 y2
  simp only [rtD, Dt, Dp] at z1 z2 ⊢
  exact ⟨[.int .i64 k], _, rfl, rfl, [.str nm], _, rfl, rfl, [s1.av], _, rfl, z1, [s2.av], [], rfl, z2, rfl⟩
theorem dt_lo {nm : Bs} {ty : D} {pm : Bool} {r : TyV} (x : Dt h V ty (tyc r)) : Dt h V (loD nm ty pm) (loc (nm, r.1, r.2.1, r.2.2.1, r.2.2.2.1, pm, ())) := by
  simp only [loD, Dt, Dp]
  exact ⟨[.str nm], _, rfl, rfl, tyc r, _, rfl, x, [.bool pm], [], rfl, rfl, rfl⟩
abbrev sl0 : SL := ⟨none, 0, 0, 0⟩
theorem dt_pa0 (h : Heap) (V : Nat → Prop) (l : Int) : Dt h V (paD l []) (pac (l, sl0, ())) := by
  have z := dt_av.2 (Sl.nil h V 0)
  simp only [paD, Dt, Dp, List.map_nil] at z ⊢
  exact ⟨[.int .i64 l], _, rfl, rfl, [sl0.av], [], rfl, z, rfl⟩
theorem dt_op {k n : Int} {p : D} {rp : PaV} (x : Dt h V p (pac rp)) : Dt h V (opD k n p) (opc (k, n, rp.1, rp.2.1, ())) := by
  simp only [opD, Dt, Dp]
  exact ⟨[.int .i64 k], _, rfl, rfl, [.int .i64 n], _, rfl, rfl, pac rp, [], rfl, x, rfl⟩
theorem dt_va {k op rg : Int} {a b p : D} {nm : Bs} {rs : List Int} {ag : List D} {ra rb : OpV} {rp : PaV} {s1 s2 : SL} (xa : Dt h V a (opc ra)) (xb : Dt h V b (opc rb)) (xp : Dt h V p (pac rp)) (y1 : Sl h V s1 (rs.map D.i)) (y2 : Sl h V s2 ag) : Dt h V (vaD k a b op p rg nm rs ag) (vac (vaOf k ra rb op rp rg nm s1 s2)) := by
  have z1 := dt_av.2 y1
  have z2 := dt_av.2 y2
  simp only [vaD, Dt, Dp] at z1 z2 ⊢
  exact ⟨[.int .i64 k], _, rfl, rfl, opc ra, _, rfl, xa, opc rb, _, rfl, xb, [.int .i64 op], _, rfl, rfl, pac rp, _, rfl, xp, [.int .i64 rg], _, rfl, rfl, [.str nm], _, rfl, rfl, [s1.av], _, rfl, z1, [s2.av], [], rfl, z2, rfl⟩
/-- the last part: what is spoilt is laid back, and asked -/
theorem tl_eq (hN : 9223372036854775807 < N) {A B Dd G p : Nat} {x34 : Int} (hx : x34 = (p : Int)) {a f r f2 : Int} {kn lo co lo2 : List D} {d2 : D} {m : MiV} {r2 : InV} {s1 t2 t3 : SL} {vs : List AV}
    (oA : h.own A (mic m)) (xA : Dt h V (miD a f r kn lo co) (mic m)) (oB : h.own B (mic (a, f2, r, s1, t2, t3, ()))) (ht3 : t3 = ⟨some (G, 0), co.length, co.length, 22⟩) (oD : h.own Dd (itc r2)) (g : grw h G vs) (de : De h V 22 co vs) (hV : ∀ X, V X → X ≠ G) (dd : Dt h V d2 (itc r2)) (k1 : Sl h V s1 kn) (k2 : Sl h V t2 lo2) (hp : p < co.length) (hAG : A ≠ G) (hBG : B ≠ G)
    (may : miB (miD a f r kn lo co) = true) (may2 : miB (miD a f2 r kn lo2 (co.set p d2)) = false) (tm : isMi kn lo co) (tm2 : isMi kn lo2 (co.set p d2)) (tc : ∀ d ∈ co, smIn d) (tc2 : ∀ d ∈ co.set p d2, smIn d) : ∃ h', TL N (some (A, 0), some (B, 0), x34, some (Dd, 0), ()) h = some (true, h') := by
  subst hx
  unfold TL
  have b5 : h.cell (B, 5) = some (.slice t3.a t3.len t3.cap t3.sz) := oB.cell 5
  have cD : h.cells (Dd, 0) 22 = some (.agg (itc r2)) := oD.cells (j := 0) (m := 22) (show 0 + 22 ≤ 22 by decide)
  simp only [need_some, Nat.zero_add, b5, bindV_some, cast_slice]
  rw [cD, recIn.agg]
  have hix : ∀ {β : Type} (K : Nat × Nat → Option β), ixK t3.a t3.len (p : Int) 22 K = K (t3.at p 22) := fun K => ixK_at (by rw [ht3]; rfl) (by rw [ht3]; exact hp) K
  have hat : t3.at p 22 = (G, p * 22) := by rw [ht3]; simp [SL.at]
  have lv := de.length
  have st : h.store (G, p * 22) (itc r2) = some (h.put G (.row (vs.take (p * 22) ++ itc r2 ++ vs.drop (p * 22 + (itc r2).length)) .grown)) := g.store (by rw [show (itc r2).length = 22 from rfl, lv]; have : (p + 1) * 22 ≤ co.length * 22 := Nat.mul_le_mul_right 22 hp; omega)
  rw [hix, hat]
  have st' : h.store (G, p * 22) (rowI r2) = some (h.put G (.row (vs.take (p * 22) ++ itc r2 ++ vs.drop (p * 22 + (itc r2).length)) .grown)) := st
  have c : Chg [G] h (h.put G (.row (vs.take (p * 22) ++ itc r2 ++ vs.drop (p * 22 + (itc r2).length)) .grown)) := (Chg.refl [G] h).put (.inl (by simp)) _
  have g2 := grw_put g (vs.take (p * 22) ++ itc r2 ++ vs.drop (p * 22 + (itc r2).length))
  rw [st', need_some]
  have hV' : ∀ X, V X → X ∉ [G] := fun X h1 h2 => hV X h1 (by simpa using h2)
  have de2 := De.chg c hV' (De.set de dd rfl hp)
  have oA := oA.chg c (by simpa using hAG)
  have oB := oB.chg c (by simpa using hBG)
  have xA := Dt.chg c hV' xA
  have k1 := k1.chg c hV'
  have k2 := k2.chg c hV'
  generalize h.put G (.row (vs.take (p * 22) ++ itc r2 ++ vs.drop (p * 22 + (itc r2).length)) .grown) = H at *
  have k3 : Sl H AllV t3 (co.set p d2) := by
    have := grw_sl (V := AllV) g2 trivial (De.weak (fun _ _ _ => trivial) de2)
    rw [List.length_set] at this
    rw [ht3]; exact this
  have xB : Dt H AllV (miD a f2 r kn lo2 (co.set p d2)) (mic (a, f2, r, s1, t2, t3, ())) := dt_mi (k1.weak (fun _ _ _ => trivial)) (k2.weak (fun _ _ _ => trivial)) k3
  have f6e : ∀ h, f6 N h = some (true, h) := fun _ => rfl
  have cA : H.cells (A, 0) 6 = some (.agg (mic m)) := oA.cells (j := 0) (m := 6) (show 0 + 6 ≤ 6 by decide)
  rw [f6e, bind2_some]
  simp only [cond_true, need_some]
  rw [cA, aggM]
  obtain ⟨H1, e1, c1⟩ := f20_eq (N := N) (by omega) tm xA
  have e1' : f20 N (m.1, m.2.1, m.2.2.1, m.2.2.2.1, m.2.2.2.2.1, m.2.2.2.2.2.1, ()) H = some (true, H1) := by rw [← may]; exact e1
  have cB : H1.cells (B, 0) 6 = some (.agg (mic (a, f2, r, s1, t2, t3, ()))) := (oB.chg c1 (by simp)).cells (j := 0) (m := 6) (show 0 + 6 ≤ 6 by decide)
  rw [e1', bind2_some]
  simp only [cond_true, need_some]
  rw [cB, aggM]
  obtain ⟨H2, e2, c2⟩ := f20_eq (N := N) (by omega) tm2 (Dt.chg c1 (by simp) xB)
  have e2' : f20 N (a, f2, r, s1, t2, t3, ()) H1 = some (false, H2) := by rw [← may2]; exact e2
  have cA2 : H2.cells (A, 0) 6 = some (.agg (mic m)) := ((oA.chg c1 (by simp)).chg c2 (by simp)).cells (j := 0) (m := 6) (show 0 + 6 ≤ 6 by decide)
  have cB2 : H2.cells (B, 0) 6 = some (.agg (mic (a, f2, r, s1, t2, t3, ()))) := ((oB.chg c1 (by simp)).chg c2 (by simp)).cells (j := 0) (m := 6) (show 0 + 6 ≤ 6 by decide)
  rw [e2', bind2_some]
  simp only [Bool.not_false, cond_true, need_some]
  rw [cA2, aggM, cB2, aggM]
  obtain ⟨b, H3, e3, c3, hb⟩ := f21_eq (N := N) (h := H2) hN tm.p1 tm2.p1 tm.p2 tm2.p2 tc tc2 tm.l1 tm.l2 tm.l3 (Dt.chg c2 (by simp) (Dt.chg c1 (by simp) xA)) (Dt.chg c2 (by simp) (Dt.chg c1 (by simp) xB))
  have hbf : b = false := by
    cases hbb : b with
    | false => rfl
    | true => rw [hb hbb, may2] at may; cases may
  have e3' : f21 N (m.1, m.2.1, m.2.2.1, m.2.2.2.1, m.2.2.2.2.1, m.2.2.2.2.2.1, ()) (a, f2, r, s1, t2, t3, ()) H2 = some (false, H3) := by rw [← hbf]; exact e3
  rw [e3', bind2_some]
  exact ⟨H3, rfl⟩
end
end Go.Proofs.YtjeaammlambkeaaDoor.My

set_option linter.unusedVariables false
set_option linter.unusedSimpArgs false
set_option maxRecDepth 100000
open Go Go.Proofs.YtjeaammlambkeaaDoor.Ai Go.Proofs
namespace Go.Proofs.YtjeaammlambkeaaDoor.My
/-! MirSpoils: one thing spoilt -/
section
variable {N : Nat} {h h' : Heap}
theorem append_none {st e n W : Nat} (ha : AppN E st e n W) {C : Nat} {V : Nat → Prop} {s : SL} (x : Sl h V s []) : appendA E st st (.slice (some (C, 0)) 0 0 n) (.slice s.a s.len s.cap s.sz) h = some (.slice (some (C, 0)) 0 0 n, h) := by
  obtain ⟨hu, ⟨i, hi, hi1, hi2⟩, ⟨z, hz0, hz1⟩⟩ := ha
  obtain ⟨vs, sv, d⟩ := x.els
  have l0 : s.len = 0 := x.len
  have f' : firstCellsA h i.size s.len (.slice s.a s.len s.cap s.sz) = some [] := by
    cases hs : s.a with
    | none => rfl
    | some q =>
      obtain ⟨A, off⟩ := q
      obtain ⟨_, cs, h7, _⟩ := sv.2.2 A off hs
      simp only [firstCellsA, Heap.read, row_of_rowB A h7, l0, Nat.zero_mul]
      rfl
  simp only [appendA, hu, isIntD, isStrD, cond_false, hi, hz0, lenOfA]
  rw [f', l0]
  rfl
theorem bindT_sl {β : Type} (a : Option (Nat × Nat)) (l c z : Nat) (h : Heap) (K : SL → Heap → Option β) : bindT (.val (.one .slice)) (some (.slice a l c z, h)) K = K ⟨a, l, c, z⟩ h := rfl
theorem set21 {k a : Int} {hs : Bool} {rt : PaV} {rv : VaV} {s x : SL} : (itc (itOf k a hs rt rv s)).set 21 (.slice x.a x.len x.cap x.sz) = itc (itOf k a hs rt rv x) := by simp only [itc, itOf]; rfl
theorem set0 {k c a : Int} {hs : Bool} {rt : PaV} {rv : VaV} {s : SL} : (itc (itOf k a hs rt rv s)).set 0 (.int .i64 c) = itc (itOf c a hs rt rv s) := by simp only [itc, itOf]; rfl
theorem rem6 (a : Int) : binInt .rem .i64 a 6 = some (.int .i64 (a.tmod 6)) := rfl
/-- what is left of a spoilt point -/
structure Spoilt (h' : Heap) (A B Dd G1 : Nat) (m : MiV) (a r : Int) (kn co : List D) (s1 t2 t3 : SL) (vs3 : List AV) (p : Nat) (n : Nat) (xm : D) : Prop where
  oA : h'.own A (mic m)
  xA : Dt h' (fun X => X ≠ G1) xm (mic m)
  g1 : grw h' G1 vs3
  de : De h' (fun X => X ≠ G1) 22 co vs3
  k1 : Sl h' (fun X => X ≠ G1) s1 kn
  ex : ∃ (f2 : Int) (lo2 : List D) (d2 : D) (r2 : InV), h'.own B (mic (a, f2, r, s1, t2, t3, ())) ∧ h'.own Dd (itc r2) ∧ Dt h' (fun X => X ≠ G1) d2 (itc r2) ∧ Sl h' (fun X => X ≠ G1) t2 lo2 ∧ miB (miD a f2 r kn lo2 (co.set p d2)) = false ∧ (∀ d ∈ lo2, isLo d) ∧ lo2.length = n ∧ smIn d2
abbrev va00 : D := vaD 0 (opD 0 0 (paD 0 [])) (opD 0 0 (paD 0 [])) 0 (paD 0 []) 0 [] [] []
theorem va00_sm : smVa va00 := ⟨0, _, _, 0, _, 0, [], [], [], rfl, ⟨0, 0, _, rfl, 0, [], rfl, by simp⟩, ⟨0, 0, _, rfl, 0, [], rfl, by simp⟩, ⟨0, [], rfl, by simp⟩, by simp, by simp, by simp⟩
abbrev rv00 : VaV := vaOf 0 (0, 0, 0, sl0, ()) (0, 0, 0, sl0, ()) 0 (0, sl0, ()) 0 [] sl0 sl0
theorem dt_va00 (h : Heap) (V : Nat → Prop) : Dt h V va00 (vac rv00) := dt_va (dt_op (rp := (0, sl0, ())) (dt_pa0 h V 0)) (dt_op (rp := (0, sl0, ())) (dt_pa0 h V 0)) (dt_pa0 h V 0) (Sl.nil h V 0) (Sl.nil h V 0)
theorem sp_eq {A B Dd G1 G2 p : Nat} {a1 a2 x34 : Int} {a f r : Int} {kn lo co : List D} {s1 s2 s3 t2 t3 : SL} {ro : InV} {vs2 vs3 : List AV} {c0 : D} (hp : p < co.length) (hc0 : co[p] = c0)
    (oA : h.own A (mic (a, f, r, s1, s2, s3, ()))) (l2 : s2.len = lo.length) (l3 : s3.len = co.length) (oB : h.own B (mic (a, f, r, s1, t2, t3, ()))) (ht2 : t2 = ⟨some (G2, 0), lo.length, lo.length, 6⟩) (oD : h.own Dd (itc ro))
    (x : Dt h (fun X => X < B) c0 (itc ro)) (g2 : grw h G2 vs2) (e2 : De h (fun X => X < B) 6 lo vs2) (g1 : grw h G1 vs3) (e3 : De h (fun X => X < B) 22 co vs3) (k1 : Sl h (fun X => X < B) s1 kn) (xA : Dt h (fun X => X < B) (miD a f r kn lo co) (mic (a, f, r, s1, s2, s3, ())))
    (hAB : A < B) (hBG : B < G1) (hGG : G1 < G2) (hGD : G2 < Dd) (may : miB (miD a f r kn lo co) = true) (hlo : ∀ d ∈ lo, isLo d) (ht : smIn c0) (hr : r ≤ 200) :
    ∃ h', SP N (a1, a2, some (A, 0), false, ()) B Dd x34 h = some ((some (A, 0), some (B, 0), x34, some (Dd, 0), ()), h') ∧ Spoilt h' A B Dd G1 (a, f, r, s1, s2, s3, ()) a r kn co s1 t2 t3 vs3 p lo.length (miD a f r kn lo co) := by
  have hin : inB lo.length r co.length c0 = true := by
    have h1 := may
    simp only [miD, miB, Bool.and_eq_true] at h1
    have h2 := List.all_eq_true.1 h1.2 _ (List.getElem_mem hp)
    rw [hc0] at h2
    exact h2
  have hlo1 : 0 < lo.length := by
    have h1 := may
    simp only [miD, miB, Bool.and_eq_true, decide_eq_true_eq] at h1
    omega
  obtain ⟨k, ia, hs, to, va, nx, rfl, tt, tv, hnx⟩ := ht
  obtain ⟨rt, rv, s, hc, xt, xv, y⟩ := inv_it tt.is tv.is x
  have hro := recIn.inj hc
  clear x hc
  obtain ⟨tl, ss, rfl, hss⟩ := tt
  have inE : ∀ (k a : Int) (hs : Bool) (tl : Int) (ss : List Bs) (va : D) (nx : List Int), itD k a hs (paD tl ss) va nx = inD k a hs tl (ss.map D.s) va (nx.map D.i) := fun _ _ _ _ _ _ _ => rfl
  have hn : nx.length ≤ 2 := by
    rw [inE] at hin
    simp only [inD, inB, Bool.and_eq_true, List.length_map] at hin
    have h1 := hin.1
    revert h1
    repeat' split
    all_goals try simp only [Bool.and_eq_true, decide_eq_true_eq]
    all_goals intro h1
    all_goals first | omega | cases h1
  have nA : A ≠ B := by omega
  have VG : ∀ X, X < B → X < h.next → X ≠ G1 := fun X h1 _ => by omega
  -- what stays
  have keep : ∀ {H : Heap} {M : List Nat}, Chg M h H → (∀ X ∈ M, X = B ∨ X = Dd ∨ X = G2 ∨ h.next ≤ X) → H.own A (mic (a, f, r, s1, s2, s3, ())) ∧ Dt H (fun X => X ≠ G1) (miD a f r kn lo co) (mic (a, f, r, s1, s2, s3, ())) ∧ grw H G1 vs3 ∧ De H (fun X => X ≠ G1) 22 co vs3 ∧ Sl H (fun X => X ≠ G1) s1 kn ∧ Dt H (fun X => X ≠ G1) (paD tl ss) (pac rt) ∧ Dt H (fun X => X ≠ G1) va (vac rv) ∧ Sl H (fun X => X ≠ G1) s (nx.map D.i) := by
    intro H M c hM
    have nM : ∀ X, X < B → X ∉ M := fun X hX hm => by
      have := oB.2
      rcases hM X hm with h1 | h1 | h1 | h1 <;> omega
    have VW : ∀ X, X < B → X < H.next → X ≠ G1 := fun X h1 _ => by omega
    refine ⟨oA.chg c (nM A hAB), Dt.weak VW (Dt.chg c nM xA), g1.chg c (fun hm => ?_), De.weak VW (De.chg c nM e3), (k1.chg c nM).weak VW, Dt.weak VW (Dt.chg c nM xt), Dt.weak VW (Dt.chg c nM xv), (y.chg c nM).weak VW⟩
    have := g1.2
    rcases hM G1 hm with h1 | h1 | h1 | h1 <;> omega
  have sl2 : ∀ {H : Heap} {M : List Nat}, Chg M h H → G2 ∉ M → (∀ X ∈ M, B ≤ X) → Sl H (fun X => X ≠ G1) t2 lo := by
    intro H M c h1 h2
    rw [ht2]
    refine grw_sl (g2.chg c h1) (by omega) (De.weak (fun X hX _ => ?_) (De.chg c (fun X hX hm => ?_) e2))
    · show X ≠ G1
      omega
    · have := h2 X hm
      omega
  subst hro
  unfold SP
  have q1 := Int.tmod_lt_of_pos a2 (show (0 : Int) < 6 by decide)
  have q2 := Int.lt_tmod_of_pos a2 (show (0 : Int) < 6 by decide)
  have w6 : wrapA .i64 (a2.tmod 6 + 6) = a2.tmod 6 + 6 := wrapA_small (by omega) (by omega)
  simp only [rem6, bindV_some, cast_int, w6]
  have q3 := Int.tmod_lt_of_pos (a2.tmod 6 + 6) (show (0 : Int) < 6 by decide)
  have q4 := Int.tmod_nonneg (a := a2.tmod 6 + 6) 6 (by omega)
  generalize (a2.tmod 6 + 6).tmod 6 = q at *
  have z : ∀ c : Int, q ≠ c → eqInt q c = false := fun c h => by rw [eqI, decide_eq_false h]
  by_cases h0 : q = 0
  · subst h0
    have st := oD.store1 (j := 0) (show 0 < 22 by decide) (.int .i64 7)
    rw [set0] at st
    have c : Chg [Dd] h (h.put Dd (.row (itc (itOf 7 ia hs rt rv s)) .own)) := oD.put _
    simp only [show eqInt 0 0 = true from rfl, cond_true, Nat.zero_add]
    rw [st, need_some]
    have oD2 := own_put oD (itc (itOf 7 ia hs rt rv s))
    obtain ⟨v1, v2, v3, v4, v5, v6, v7, v8⟩ := keep c (by simp)
    refine ⟨_, rfl, ⟨v1, v2, v3, v4, v5, f, lo, itD 7 ia hs (paD tl ss) va nx, itOf 7 ia hs rt rv s, oB.chg c (by simp; omega), oD2, dt_it v6 v7 v8, sl2 c (by simp; omega) (by simp; omega), spoil_code hp (by rw [inE]; exact bad_kind), hlo, rfl, ⟨7, ia, hs, _, va, nx, rfl, ⟨tl, ss, rfl, hss⟩, tv, hnx⟩⟩⟩
  have a2' : ∀ {H : Heap}, H.own A (mic (a, f, r, s1, s2, s3, ())) → H.cell (A, 2) = some (.int .i64 r) := fun o => o.cell 2
  have lit : ∀ {H : Heap} {k' l' : Int} {v : Int}, Chg [] h H → H = h.push (.row [(.int .i64 v)] .own) → inB lo.length r co.length (itD k' 0 false (paD l' []) va00 [v]) = false → ∃ H', H.store (Dd, 0) (itc (itOf k' 0 false (l', sl0, ()) rv00 ⟨some (h.next, 0), 1, 1, 1⟩)) = some H' ∧ Spoilt H' A B Dd G1 (a, f, r, s1, s2, s3, ()) a r kn co s1 t2 t3 vs3 p lo.length (miD a f r kn lo co) := by
    intro H k' l' v c hH hb
    have oG : H.own h.next [(.int .i64 v)] := by rw [hH]; exact own_push h _
    have oD' := oD.chg c (by simp)
    have st := oD'.store (vs := itc (itOf k' 0 false (l', sl0, ()) rv00 ⟨some (h.next, 0), 1, 1, 1⟩)) rfl
    refine ⟨_, st, ?_⟩
    have c1 : Chg [Dd] h (H.put Dd (.row (itc (itOf k' 0 false (l', sl0, ()) rv00 ⟨some (h.next, 0), 1, 1, 1⟩)) .own)) := (c.mono (by simp)).put (.inl (by simp)) _
    have c2 : Chg [Dd] H (H.put Dd (.row (itc (itOf k' 0 false (l', sl0, ()) rv00 ⟨some (h.next, 0), 1, 1, 1⟩)) .own)) := (Chg.refl [Dd] H).put (.inl (by simp)) _
    have oD2 := own_put oD' (itc (itOf k' 0 false (l', sl0, ()) rv00 ⟨some (h.next, 0), 1, 1, 1⟩))
    obtain ⟨v1, v2, v3, v4, v5, v6, v7, v8⟩ := keep c1 (by simp)
    have oG2 := oG.chg c2 (by simp; have := oD.2; omega)
    have sg := own_sl (V := fun X => X ≠ G1) (n := 1) (xs := [v].map D.i) oG2 (by have := g1.2; omega) (by simp only [List.map_cons, List.map_nil, De, Dt]; exact ⟨_, [], by simp, rfl, rfl, rfl⟩)
    exact ⟨v1, v2, v3, v4, v5, f, lo, itD k' 0 false (paD l' []) va00 [v], _, oB.chg c1 (by simp; omega), oD2, dt_it (dt_pa0 _ _ l') (dt_va00 _ _) sg, sl2 c1 (by simp; omega) (by simp; omega), spoil_code hp hb, hlo, rfl, ⟨k', 0, false, _, va00, [v], rfl, ⟨l', [], rfl, by simp⟩, va00_sm, by simp⟩⟩
  by_cases h2 : q = 2
  · subst h2
    have oA' := oA.chg (chg_push h (.row [(.int .i64 0)] .own)) (by simp)
    have a4 : h.cell (A, 4) = some (.slice s2.a s2.len s2.cap s2.sz) := oA.cell 4
    obtain ⟨H', st, sp⟩ := lit (k' := 2) (l' := (lo.length : Int)) (v := 0) (chg_push h (.row [(.int .i64 0)] .own)) rfl (by rw [inE]; exact bad_dead)
    simp only [show eqInt 2 0 = false from rfl, show eqInt 2 1 = false from rfl, show eqInt 2 2 = true from rfl, cond_true, cond_false, need_some, Nat.zero_add, a4, bindV_some, cast_slice, l2]
    have st' : (h.push (.row [(.int .i64 0)] .own)).store (Dd, 0) [(.int .i64 2), (.int .i64 0), (.bool false), (.int .i64 (Int.ofNat lo.length)), (.slice none 0 0 0), (.int .i64 0), (.int .i64 0), (.int .i64 0), (.int .i64 0), (.slice none 0 0 0), (.int .i64 0), (.int .i64 0), (.int .i64 0), (.slice none 0 0 0), (.int .i64 0), (.int .i64 0), (.slice none 0 0 0), (.int .i64 0), (.str []), (.slice none 0 0 0), (.slice none 0 0 0), (.slice (some (h.next, 0)) 1 1 1)] = some H' := st
    rw [st', need_some]
    exact ⟨H', rfl, sp⟩
  by_cases h3 : q = 3
  · subst h3
    have a5 : h.cell (A, 5) = some (.slice s3.a s3.len s3.cap s3.sz) := oA.cell 5
    obtain ⟨H', st, sp⟩ := lit (k' := 5) (l' := 0) (v := (co.length : Int)) (chg_push h (.row [(.int .i64 (co.length : Int))] .own)) rfl (by rw [inE]; exact bad_go)
    simp only [show eqInt 3 0 = false from rfl, show eqInt 3 1 = false from rfl, show eqInt 3 2 = false from rfl, show eqInt 3 3 = true from rfl, cond_true, cond_false, need_some, Nat.zero_add, a5, bindV_some, cast_slice, l3]
    have st' : (h.push (.row [(.int .i64 (Int.ofNat co.length))] .own)).store (Dd, 0) [(.int .i64 5), (.int .i64 0), (.bool false), (.int .i64 0), (.slice none 0 0 0), (.int .i64 0), (.int .i64 0), (.int .i64 0), (.int .i64 0), (.slice none 0 0 0), (.int .i64 0), (.int .i64 0), (.int .i64 0), (.slice none 0 0 0), (.int .i64 0), (.int .i64 0), (.slice none 0 0 0), (.int .i64 0), (.str []), (.slice none 0 0 0), (.slice none 0 0 0), (.slice (some (h.next, 0)) 1 1 1)] = some H' := st
    rw [st', need_some]
    exact ⟨H', rfl, sp⟩
  by_cases h4 : q = 4
  · subst h4
    have b4 : h.cell (B, 4) = some (.slice t2.a t2.len t2.cap t2.sz) := oB.cell 4
    simp only [show eqInt 4 0 = false from rfl, show eqInt 4 1 = false from rfl, show eqInt 4 2 = false from rfl, show eqInt 4 3 = false from rfl, show eqInt 4 4 = true from rfl, cond_true, cond_false, need_some, Nat.zero_add, b4, a2' oA, bindV_some, cast_slice, cast_int]
    have hix : ∀ {β : Type} (K : Nat × Nat → Option β), ixK t2.a t2.len 0 6 K = K (G2, 0) := fun K => by
      have := ixK_at (s := t2) (i := 0) (n := 6) (by rw [ht2]; rfl) (by rw [ht2]; exact hlo1) K
      rw [show ((0 : Nat) : Int) = 0 from rfl] at this
      rw [this, ht2]
      simp [SL.at]
    rw [hix]
    have oE := own_push h [(.int .i64 r)]
    have cE := chg_push h (.row [(.int .i64 r)] .own)
    have nE : (h.push (.row [(.int .i64 r)] .own)).next = h.next + 1 := rfl
    generalize h.push (.row [(.int .i64 r)] .own) = hE at *
    have oF := own_push hE (tyc (1, [], sl0, sl0, ()))
    have cF := chg_push hE (.row (tyc (1, [], sl0, sl0, ())) .own)
    have eF : hE.push (.row [(.int .i64 1), (.str []), (.slice none 0 0 0), (.slice none 0 0 0)] .own) = hE.push (.row (tyc (1, [], sl0, sl0, ())) .own) := rfl
    rw [eF]
    have oE := oE.chg cF (by simp)
    have cEF := cE.trans cF
    generalize hE.push (.row (tyc (1, [], sl0, sl0, ())) .own) = hF at *
    obtain ⟨cs0, hl0, hd0, rest, hv0⟩ := e2.at 0 hlo1
    obtain ⟨nm, ty, pm, h00, tt0⟩ := hlo _ (List.getElem_mem hlo1)
    rw [h00] at hd0
    obtain ⟨rt0, hcs, _⟩ := inv_lo tt0 hd0
    rw [Nat.zero_mul, List.drop_zero] at hv0
    subst hcs
    have g2F := g2.chg cEF (by simp)
    have hvl : vs2.length = lo.length * 6 := e2.length
    have st := g2F.store (j := 1) (vs := tyc (4, [], ⟨some (h.next, 0), 1, 1, 1⟩, ⟨some (hE.next, 0), 1, 1, 4⟩, ())) (by show 1 + 4 ≤ _; omega)
    have st' : hF.store (G2, 1) [(.int .i64 4), (.str []), (.slice (some (h.next, 0)) 1 1 1), (.slice (some (hE.next, 0)) 1 1 4)] = _ := st
    rw [st', need_some]
    have hnew : vs2.take 1 ++ tyc (4, [], ⟨some (h.next, 0), 1, 1, 1⟩, ⟨some (hE.next, 0), 1, 1, 4⟩, ()) ++ vs2.drop (1 + (tyc (4, [], ⟨some (h.next, 0), 1, 1, 1⟩, ⟨some (hE.next, 0), 1, 1, 4⟩, ())).length) = loc (nm, 4, [], ⟨some (h.next, 0), 1, 1, 1⟩, ⟨some (hE.next, 0), 1, 1, 4⟩, pm, ()) ++ rest := by rw [hv0]; rfl
    rw [hnew]
    have c1 : Chg [G2] h (hF.put G2 (.row (loc (nm, 4, [], ⟨some (h.next, 0), 1, 1, 1⟩, ⟨some (hE.next, 0), 1, 1, 4⟩, pm, ()) ++ rest) .grown)) := (cEF.mono (by simp)).put (.inl (by simp)) _
    have c2 : Chg [G2] hF (hF.put G2 (.row (loc (nm, 4, [], ⟨some (h.next, 0), 1, 1, 1⟩, ⟨some (hE.next, 0), 1, 1, 4⟩, pm, ()) ++ rest) .grown)) := (Chg.refl [G2] hF).put (.inl (by simp)) _
    have gN := grw_put g2F (loc (nm, 4, [], ⟨some (h.next, 0), 1, 1, 1⟩, ⟨some (hE.next, 0), 1, 1, 4⟩, pm, ()) ++ rest)
    obtain ⟨v1, v2, v3, v4, v5, v6, v7, v8⟩ := keep c1 (by simp)
    have hg2 := g2.2
    have hg1 := g1.2
    have oE2 := oE.chg c2 (by simp; omega)
    have oF2 := oF.chg c2 (by simp; omega)
    have e2w : De (hF.put G2 (.row (loc (nm, 4, [], ⟨some (h.next, 0), 1, 1, 1⟩, ⟨some (hE.next, 0), 1, 1, 4⟩, pm, ()) ++ rest) .grown)) (fun X => X ≠ G1) 6 lo vs2 := De.weak (fun X hX _ => by show X ≠ G1; omega) (De.chg c1 (fun X hX hm => by simp at hm; omega) e2)
    generalize hF.put G2 (.row (loc (nm, 4, [], ⟨some (h.next, 0), 1, 1, 1⟩, ⟨some (hE.next, 0), 1, 1, 4⟩, pm, ()) ++ rest) .grown) = HH at *
    have sE := own_sl (V := fun X => X ≠ G1) (n := 1) (xs := [r].map D.i) oE2 (by omega) (by simp only [List.map_cons, List.map_nil, De, Dt]; exact ⟨_, [], by simp, rfl, rfl, rfl⟩)
    have d1 : Dt HH (fun X => X ≠ G1) (rtD 1 [] [] []) (tyc (1, [], sl0, sl0, ())) := dt_rt (Sl.nil _ _ 0) (Sl.nil _ _ 0)
    have sF := own_sl (V := fun X => X ≠ G1) (n := 4) (xs := [rtD 1 [] [] []]) oF2 (by omega) (by simp only [De]; exact ⟨_, [], by simp, rfl, d1, rfl⟩)
    have dl : Dt HH (fun X => X ≠ G1) (loD nm (rtD 4 [] [r] [rtD 1 [] [] []]) pm) (loc (nm, 4, [], ⟨some (h.next, 0), 1, 1, 1⟩, ⟨some (hE.next, 0), 1, 1, 4⟩, pm, ())) := dt_lo (dt_rt sE sF)
    have eN := De.set e2w dl rfl hlo1
    have hlist : vs2.take (0 * 6) ++ loc (nm, 4, [], ⟨some (h.next, 0), 1, 1, 1⟩, ⟨some (hE.next, 0), 1, 1, 4⟩, pm, ()) ++ vs2.drop (0 * 6 + (loc (nm, 4, [], ⟨some (h.next, 0), 1, 1, 1⟩, ⟨some (hE.next, 0), 1, 1, 4⟩, pm, ())).length) = loc (nm, 4, [], ⟨some (h.next, 0), 1, 1, 1⟩, ⟨some (hE.next, 0), 1, 1, 4⟩, pm, ()) ++ rest := by rw [hv0]; rfl
    rw [hlist] at eN
    have sN := grw_sl (V := fun X => X ≠ G1) gN (by omega) eN
    rw [List.length_set] at sN
    refine ⟨HH, rfl, ⟨v1, v2, v3, v4, v5, f, lo.set 0 (loD nm (rtD 4 [] [r] [rtD 1 [] [] []]) pm), _, _, oB.chg c1 (by simp; omega), oD.chg c1 (by simp; omega), dt_it v6 v7 v8, by rw [ht2]; exact sN, ?_, ?_, List.length_set .., ⟨k, ia, hs, _, va, nx, rfl, ⟨tl, ss, rfl, hss⟩, tv, hnx⟩⟩⟩
    · exact spoil_type hlo1
    · intro d hd
      rcases List.mem_or_eq_of_mem_set hd with hd | rfl
      · exact hlo d hd
      · exact ⟨nm, _, pm, rfl, 4, [], [r], [rtD 1 [] [] []], rfl, by simp, by simp, fun e he => by
          simp only [List.mem_singleton] at he
          subst he
          exact ⟨1, [], [], [], rfl, by simp, by simp, by simp⟩⟩
  by_cases h5 : q = 5
  · subst h5
    have hr0 : 0 ≤ r := by
      have h1 := may
      simp only [miD, miB, Bool.and_eq_true, decide_eq_true_eq] at h1
      omega
    have wr : wrapA .i64 (r + 1) = r + 1 := wrapA_small (by omega) (by omega)
    have st := oB.store1 (j := 1) (show 1 < 6 by decide) (.int .i64 (r + 1))
    have c : Chg [B] h (h.put B (.row ((mic (a, f, r, s1, t2, t3, ())).set 1 (.int .i64 (r + 1))) .own)) := oB.put _
    have oB2 := own_put oB ((mic (a, f, r, s1, t2, t3, ())).set 1 (.int .i64 (r + 1)))
    simp only [show eqInt 5 0 = false from rfl, show eqInt 5 1 = false from rfl, show eqInt 5 2 = false from rfl, show eqInt 5 3 = false from rfl, show eqInt 5 4 = false from rfl, cond_true, cond_false, need_some, Nat.zero_add, a2' oA, bindV_some, cast_int, wr]
    rw [st, need_some]
    obtain ⟨v1, v2, v3, v4, v5, v6, v7, v8⟩ := keep c (by simp)
    exact ⟨_, rfl, ⟨v1, v2, v3, v4, v5, r + 1, lo, itD k ia hs (paD tl ss) va nx, _, oB2, oD.chg c (by simp; omega), dt_it v6 v7 v8, sl2 c (by simp; omega) (by simp), spoil_free, hlo, rfl, ⟨k, ia, hs, _, va, nx, rfl, ⟨tl, ss, rfl, hss⟩, tv, hnx⟩⟩⟩
  have h1 : q = 1 := by omega
  subst h1
  simp only [show eqInt 1 0 = false from rfl, show eqInt 1 1 = true from rfl, cond_true, cond_false, Nat.zero_add]
  have oC := own_push h []
  have cC := chg_push h (.row [] .own)
  have nC : (h.push (.row [] .own)).next = h.next + 1 := rfl
  have hDn := oD.2
  have hG1n := g1.2
  generalize h.push (.row [] .own) = h46 at *
  have a21 : h46.cell (Dd, 21) = some (.slice s.a s.len s.cap s.sz) := (oD.chg cC (by simp)).cell 21
  rw [a21, bindV_some, cast_slice]
  have y46 : Sl h46 (fun X => X < B) s (nx.map D.i) := y.chg cC (by simp)
  obtain ⟨x48, h49, e48, ow, c49, hblk⟩ : ∃ x48 h49, appendA E 40 40 (.slice (some (h.next, 0)) 0 0 1) (.slice s.a s.len s.cap s.sz) h46 = some (.slice x48.a x48.len x48.cap x48.sz, h49) ∧ Ow h.next h49 x48 1 (nx.map D.i) ∧ Chg [] h46 h49 ∧ (∀ X ∈ x48.blk.toList, h.next ≤ X) := by
    by_cases hnx0 : nx.length = 0
    · have hn0 : nx = [] := List.length_eq_zero_iff.1 hnx0
      subst hn0
      exact ⟨⟨some (h.next, 0), 0, 0, 1⟩, h46, append_none app40 y46, .inr ⟨h.next, [], .own, [], rfl, rfl, Nat.le_refl _, oC.2, oC.1, rfl, rfl, by simp only [List.map_nil, De], Nat.le_refl _, .inr ⟨rfl, rfl⟩⟩, Chg.refl _ _, by simp [SL.blk]⟩
    · have hz : s.sz = 1 := by
        have w : 0 < (nx.map D.i).length := by rw [List.length_map]; omega
        obtain ⟨cs, e⟩ := y46.elt (i := 0) w
        have hd := e.dt
        rw [List.getElem_map] at hd
        simp only [Dt] at hd
        have hl := e.len
        rw [hd] at hl
        simpa using hl.symm
      obtain ⟨vs, dv, ea⟩ := append_copy app40 oC y46 hz (by rw [List.length_map]; omega) (by rw [List.length_map]; omega)
      have gp := grw_push h46 vs
      have cp := chg_push h46 (.row vs .grown)
      refine ⟨⟨some (h46.next, 0), (nx.map D.i).length, (nx.map D.i).length, 1⟩, h46.push (.row vs .grown), ea, .inr ⟨h46.next, vs, .grown, vs, rfl, rfl, by omega, gp.2, gp.1, rfl, List.take_length, ?_, Nat.le_refl _, .inl rfl⟩, cp, by simp [SL.blk]; omega⟩
      have ints : ∀ (V : Nat → Prop) (l : List Int) (vs : List AV) (H H' : Heap) (W : Nat → Prop), De H V 1 (l.map D.i) vs → De H' W 1 (l.map D.i) vs := by
        intro V l
        induction l with
        | nil => intro vs H H' W x; simpa only [List.map_nil, De] using x
        | cons a l ih =>
          intro vs H H' W x
          simp only [List.map_cons, De, Dt] at x ⊢
          obtain ⟨a1, b1, h1, h2, h3, h4⟩ := x
          exact ⟨a1, b1, h1, h2, h3, ih b1 H H' W h4⟩
      exact ints _ _ _ _ _ _ dv
  rw [e48, bindT_sl]
  obtain ⟨x51, h52, e51, ow2, c52, _⟩ := append_ow app40 (by decide) ow (d := .i 0) (cs := [.int .i64 0]) (by simp only [Dt]) rfl (by have := cC.next; have := c49.next; omega) (by rw [List.length_map]; omega)
  have e51' : appendA E 40 40 (.slice x48.a x48.len x48.cap x48.sz) (.slice (some (h49.next, 0)) 1 1 1) (h49.push (.row [(.int .i64 0)] .own)) = some (.slice x51.a x51.len x51.cap x51.sz, h52) := e51
  rw [e51', bindT_sl]
  have c0 : Chg [] h h52 := (cC.trans c49).step c52 (fun X h1 h2 => by have := hblk X h1; omega)
  have oD2 := oD.chg c0 (by simp)
  have st := oD2.store1 (j := 21) (show 21 < 22 by decide) (.slice x51.a x51.len x51.cap x51.sz)
  rw [set21] at st
  rw [st, need_some]
  have c : Chg [Dd] h (h52.put Dd (.row (itc (itOf k ia hs rt rv x51)) .own)) := (c0.mono (by simp)).put (.inl (by simp)) _
  have c2 : Chg [Dd] h52 (h52.put Dd (.row (itc (itOf k ia hs rt rv x51)) .own)) := (Chg.refl [Dd] h52).put (.inl (by simp)) _
  have oD3 := own_put oD2 (itc (itOf k ia hs rt rv x51))
  obtain ⟨v1, v2, v3, v4, v5, v6, v7, v8⟩ := keep c (by simp)
  have sx := (ow2.sl.chg c2 (fun X (hX : h.next ≤ X) => by simp; omega)).weak (W := fun X => X ≠ G1) (fun X (hX : h.next ≤ X) _ => by omega)
  have sx' : Sl (h52.put Dd (.row (itc (itOf k ia hs rt rv x51)) .own)) (fun X => X ≠ G1) x51 ((nx ++ [0]).map D.i) := by rw [List.map_append]; exact sx
  refine ⟨_, rfl, ⟨v1, v2, v3, v4, v5, f, lo, itD k ia hs (paD tl ss) va (nx ++ [0]), itOf k ia hs rt rv x51, oB.chg c (by simp; omega), oD3, dt_it v6 v7 sx', sl2 c (by simp; omega) (by simp; omega), spoil_code hp ?_, hlo, rfl, ⟨k, ia, hs, _, va, nx ++ [0], rfl, ⟨tl, ss, rfl, hss⟩, tv, by simp; omega⟩⟩⟩
  rw [inE, List.map_append]
  rw [inE] at hin
  exact bad_next hin
end
end Go.Proofs.YtjeaammlambkeaaDoor.My

set_option linter.unusedVariables false
set_option linter.unusedSimpArgs false
set_option maxRecDepth 100000
open Go Go.Proofs.YtjeaammlambkeaaDoor.Ai Go.Proofs
namespace Go.Proofs.YtjeaammlambkeaaDoor.My
/-! MirSpoils, the whole -/
section
variable {N : Nat} {h h' : Heap} {V : Nat → Prop}
theorem Rec.sz {tys : List CTy} {n : Nat} {c : dens tys → List AV} {P : D → Prop} (R : Rec tys n c P) {s : SL} {xs : List D} (x : Sl h V s xs) {i : Nat} (hi : i < xs.length) (hP : P xs[i]) : s.sz = n := by
  obtain ⟨cs, e⟩ := x.elt hi
  obtain ⟨r, rfl⟩ := R.inv hP e.dt
  rw [← e.len, R.len]
theorem mset5 {a f r : Int} {s1 s2 s3 x : SL} : (mic (a, f, r, s1, s2, s3, ())).set 5 (.slice x.a x.len x.cap x.sz) = mic (a, f, r, s1, s2, x, ()) := rfl
theorem mset4 {a f r : Int} {s1 s2 s3 x : SL} : (mic (a, f, r, s1, s2, s3, ())).set 4 (.slice x.a x.len x.cap x.sz) = mic (a, f, r, s1, x, s3, ()) := rfl
theorem rem_pos {x y : Int} (h : 0 < y) : binInt .rem .i64 x y = some (.int .i64 (x.tmod y)) := by
  have : eqInt y 0 = false := by rw [eqI]; exact decide_eq_false (by omega)
  simp only [binInt, this, cond_false]
abbrev zeroM : List AV := [(.int .i64 0), (.int .i64 0), (.int .i64 0), (.slice none 0 0 0), (.slice none 0 0 0), (.slice none 0 0 0)]
theorem k9_eq (hN : 9223372036854775807 < N) {A : Nat} {a1 a2 a f r : Int} {kn lo co : List D} {s1 s2 s3 : SL} (oA : h.own A (mic (a, f, r, s1, s2, s3, ()))) (xA : Dt h (fun X => X < h.next) (miD a f r kn lo co) (mic (a, f, r, s1, s2, s3, ()))) (may : miB (miD a f r kn lo co) = true) (hkn : ∀ d ∈ kn, isPr d) (hlo : ∀ d ∈ lo, isLo d) (hco : ∀ d ∈ co, smIn d) (hr : r ≤ 200) (n1 : kn.length ≤ 100) (n2 : lo.length ≤ 30) (n3 : co.length ≤ 60) : ∃ h', K9 N (a1, a2, some (A, 0), false, ()) h = some (true, h') := by
  have hlo1 : 0 < lo.length ∧ 0 < co.length := by
    have h1 := may
    simp only [miD, miB, Bool.and_eq_true, decide_eq_true_eq] at h1
    omega
  obtain ⟨hl2, hl3⟩ := hlo1
  obtain ⟨z1, z2, z3, hc, y1, y2, y3⟩ := inv_mi xA
  have hm := mic_inj hc
  simp only [Prod.mk.injEq, and_true, true_and] at hm
  obtain ⟨rfl, rfl, rfl⟩ := hm
  clear hc
  have hA := oA.2
  have sz3 : s3.sz = 22 := recIn.sz y3 hl3 (hco _ (List.getElem_mem hl3)).is
  have sz2 : s2.sz = 6 := recLo.sz y2 hl2 (hlo _ (List.getElem_mem hl2))
  unfold K9
  have cA : h.cells (A, 0) 6 = some (.agg (mic (a, f, r, s1, s2, s3, ()))) := oA.cells (j := 0) (m := 6) (show 0 + 6 ≤ 6 by decide)
  simp only [cond_false, need_some]
  rw [cA, aggM]
  -- the copy
  have oB0 := own_push h zeroM
  have st := oB0.store (vs := mic (a, f, r, s1, s2, s3, ())) rfl
  have st' : (h.push (.row zeroM .own)).store (h.next, 0) (rowM (a, f, r, s1, s2, s3, ())) = _ := st
  have c16 : Chg [] h ((h.push (.row zeroM .own)).put h.next (.row (mic (a, f, r, s1, s2, s3, ())) .own)) := (chg_push h _).put (.inr (Nat.le_refl _)) _
  have oB := own_put oB0 (mic (a, f, r, s1, s2, s3, ()))
  have nx16 : ((h.push (.row zeroM .own)).put h.next (.row (mic (a, f, r, s1, s2, s3, ())) .own)).next = h.next + 1 := rfl
  rw [st', need_some]
  generalize (h.push (.row zeroM .own)).put h.next (.row (mic (a, f, r, s1, s2, s3, ())) .own) = h16 at *
  have oC := own_push h16 []
  have cC := chg_push h16 (.row [] .own)
  have nx17 : (h16.push (.row [] .own)).next = h16.next + 1 := rfl
  generalize h16.push (.row [] .own) = h17 at *
  have c17 := c16.trans cC
  have a5 : h17.cell (A, 5) = some (.slice s3.a s3.len s3.cap s3.sz) := (oA.chg c17 (by simp)).cell 5
  simp only [Nat.zero_add, a5, bindV_some, cast_slice]
  obtain ⟨vs3, e3, ea⟩ := append_copy app34 oC (y3.chg c17 (by simp)) sz3 hl3 (by omega)
  rw [ea, bindT_sl]
  have g1 := grw_push h17 vs3
  have cG := chg_push h17 (.row vs3 .grown)
  have nx21 : (h17.push (.row vs3 .grown)).next = h17.next + 1 := rfl
  generalize h17.push (.row vs3 .grown) = h21 at *
  have c21 := c17.trans cG
  have e3 := De.chg cG (by simp) e3
  have oB := (oB.chg cC (by simp)).chg cG (by simp)
  have st := oB.store1 (j := 5) (show 5 < 6 by decide) (.slice (some (h17.next, 0)) co.length co.length 22)
  have ms : (mic (a, f, r, s1, s2, s3, ())).set 5 (.slice (some (h17.next, 0)) co.length co.length 22) = mic (a, f, r, s1, s2, ⟨some (h17.next, 0), co.length, co.length, 22⟩, ()) := rfl
  rw [ms] at st
  rw [st, need_some]
  have cS : Chg [h.next] h21 (h21.put h.next (.row (mic (a, f, r, s1, s2, ⟨some (h17.next, 0), co.length, co.length, 22⟩, ())) .own)) := (Chg.refl [h.next] h21).put (.inl (by simp)) _
  have c22 : Chg [] h (h21.put h.next (.row (mic (a, f, r, s1, s2, ⟨some (h17.next, 0), co.length, co.length, 22⟩, ())) .own)) := c21.put (.inr (Nat.le_refl _)) _
  have nx22 : (h21.put h.next (.row (mic (a, f, r, s1, s2, ⟨some (h17.next, 0), co.length, co.length, 22⟩, ())) .own)).next = h21.next := rfl
  have oB := own_put oB (mic (a, f, r, s1, s2, ⟨some (h17.next, 0), co.length, co.length, 22⟩, ()))
  have g1 := g1.chg cS (by simp; omega)
  have e3 := De.chg cS (fun X (hX : X < h.next) => by simp; omega) e3
  generalize h21.put h.next (.row (mic (a, f, r, s1, s2, ⟨some (h17.next, 0), co.length, co.length, 22⟩, ())) .own) = h22 at *
  have oC := own_push h22 []
  have cC2 := chg_push h22 (.row [] .own)
  have nx23 : (h22.push (.row [] .own)).next = h22.next + 1 := rfl
  generalize h22.push (.row [] .own) = h23 at *
  have c23 := c22.trans cC2
  have a4 : h23.cell (A, 4) = some (.slice s2.a s2.len s2.cap s2.sz) := (oA.chg c23 (by simp)).cell 4
  rw [a4, bindV_some, cast_slice]
  obtain ⟨vs2, e2, ea⟩ := append_copy app33 oC (y2.chg c23 (by simp)) sz2 hl2 (by omega)
  rw [ea, bindT_sl]
  have g2 := grw_push h23 vs2
  have cG2 := chg_push h23 (.row vs2 .grown)
  have nx27 : (h23.push (.row vs2 .grown)).next = h23.next + 1 := rfl
  generalize h23.push (.row vs2 .grown) = h27 at *
  have c27 := c23.trans cG2
  have e2 := De.chg cG2 (by simp) e2
  have g1 := (g1.chg cC2 (by simp)).chg cG2 (by simp)
  have e3 := De.chg cG2 (by simp) (De.chg cC2 (by simp) e3)
  have oB := (oB.chg cC2 (by simp)).chg cG2 (by simp)
  have st := oB.store1 (j := 4) (show 4 < 6 by decide) (.slice (some (h23.next, 0)) lo.length lo.length 6)
  have ms : (mic (a, f, r, s1, s2, ⟨some (h17.next, 0), co.length, co.length, 22⟩, ())).set 4 (.slice (some (h23.next, 0)) lo.length lo.length 6) = mic (a, f, r, s1, ⟨some (h23.next, 0), lo.length, lo.length, 6⟩, ⟨some (h17.next, 0), co.length, co.length, 22⟩, ()) := rfl
  rw [ms] at st
  rw [st, need_some]
  obtain ⟨t2, ht2⟩ : ∃ t : SL, t = ⟨some (h23.next, 0), lo.length, lo.length, 6⟩ := ⟨_, rfl⟩
  obtain ⟨t3, ht3⟩ : ∃ t : SL, t = ⟨some (h17.next, 0), co.length, co.length, 22⟩ := ⟨_, rfl⟩
  rw [← ht2, ← ht3]
  have cS2 : Chg [h.next] h27 (h27.put h.next (.row (mic (a, f, r, s1, t2, t3, ())) .own)) := (Chg.refl [h.next] h27).put (.inl (by simp)) _
  have c28 : Chg [] h (h27.put h.next (.row (mic (a, f, r, s1, t2, t3, ())) .own)) := c27.put (.inr (Nat.le_refl _)) _
  have nx28 : (h27.put h.next (.row (mic (a, f, r, s1, t2, t3, ())) .own)).next = h27.next := rfl
  have oB := own_put oB (mic (a, f, r, s1, t2, t3, ()))
  have g1 := g1.chg cS2 (by simp; omega)
  have g2 := g2.chg cS2 (by simp; omega)
  have e3 := De.chg cS2 (fun X (hX : X < h.next) => by simp; omega) e3
  have e2 := De.chg cS2 (fun X (hX : X < h.next) => by simp; omega) e2
  generalize h27.put h.next (.row (mic (a, f, r, s1, t2, t3, ())) .own) = h28 at *
  have b5 : h28.cell (h.next, 5) = some (.slice t3.a t3.len t3.cap t3.sz) := oB.cell 5
  have t3l : t3.len = co.length := by rw [ht3]
  have pl : (0 : Int) < (co.length : Int) := by omega
  have i2 : ∀ n : Nat, Int.ofNat n = (n : Int) := fun _ => rfl
  have q1 := Int.tmod_lt_of_pos a1 pl
  have q2 := Int.lt_tmod_of_pos a1 pl
  have w6 : wrapA .i64 (a1.tmod (co.length : Int) + (co.length : Int)) = a1.tmod (co.length : Int) + (co.length : Int) := wrapA_small (by omega) (by omega)
  simp only [b5, bindV_some, cast_slice, t3l, i2, rem_pos pl, cast_int, w6]
  have q3 := Int.tmod_lt_of_pos (a1.tmod (co.length : Int) + (co.length : Int)) pl
  have q4 := Int.tmod_nonneg (a := a1.tmod (co.length : Int) + (co.length : Int)) (co.length : Int) (by omega)
  generalize (a1.tmod (co.length : Int) + (co.length : Int)).tmod (co.length : Int) = x34 at *
  obtain ⟨p, rfl⟩ : ∃ p : Nat, x34 = (p : Int) := ⟨x34.toNat, by omega⟩
  have hp : p < co.length := by omega
  have hix : ∀ {β : Type} (K : Nat × Nat → Option β), ixK t3.a co.length (p : Int) 22 K = K (h17.next, p * 22) := fun K => by
    have := ixK_at (s := t3) (i := p) (n := 22) (by rw [ht3]; rfl) (by rw [ht3]; exact hp) K
    rw [t3l] at this
    rw [this, ht3]
    simp [SL.at]
  obtain ⟨cs, hcl, hcd, rest, hcv⟩ := e3.at p hp
  obtain ⟨ro, rfl⟩ := recIn.inv (hco _ (List.getElem_mem hp)).is hcd
  have lv := e3.length
  have cel : h28.cells (h17.next, p * 22) 22 = some (.agg (itc ro)) := by
    rw [g1.cells (j := p * 22) (m := 22) (by rw [lv]; have : (p + 1) * 22 ≤ co.length * 22 := Nat.mul_le_mul_right 22 hp; omega), hcv]
    rfl
  rw [hix, cel, recIn.agg]
  obtain ⟨h39, pk, cD, oD⟩ := recIn.park (z := zeroI) rfl h28 ro
  have pk' : ∀ {β : Type} (K : Heap → Option β), need ((h28.push (.row zeroI .own)).store (h28.next, 0) (rowI ro)) K = K h39 := pk
  rw [pk']
  have c39 := c28.trans cD
  obtain ⟨H, es, sp⟩ := sp_eq (N := N) (A := A) (B := h.next) (Dd := h28.next) (G1 := h17.next) (G2 := h23.next) (p := p) (a1 := a1) (a2 := a2) (x34 := (p : Int)) hp rfl (oA.chg c39 (by simp)) y2.len y3.len (oB.chg cD (by simp)) ht2 oD (Dt.chg cD (by simp) hcd) (g2.chg cD (by simp)) (De.chg cD (by simp) e2) (g1.chg cD (by simp)) (De.chg cD (by simp) e3) (y1.chg c39 (by simp)) (Dt.chg c39 (by simp) xA) hA (by omega) (by omega) (by omega) may hlo (hco _ (List.getElem_mem hp)) hr
  rw [es, bind2_some]
  obtain ⟨f2, lo2, d2, r2, oB2, oD2, dd, k2, may2, hlo2, hll, hd2⟩ := sp.ex
  have hco2 : ∀ d ∈ co.set p d2, smIn d := fun d hd => by
    rcases List.mem_or_eq_of_mem_set hd with hd | rfl
    · exact hco d hd
    · exact hd2
  exact tl_eq hN rfl sp.oA sp.xA oB2 ht3 oD2 sp.g1 sp.de (fun _ h => h) dd sp.k1 k2 hp (by omega) (by omega) may may2 ⟨hkn, hlo, fun d hd => (hco d hd).is, by omega, by omega, by omega⟩ ⟨hkn, hlo2, fun d hd => (hco2 d hd).is, by omega, by omega, by rw [List.length_set]; omega⟩ hco hco2
theorem f5_true {P : D → Prop} (hP : Closed P) (hN : 9223372036854775807 < N) {a f r : Int} {kn lo co : List D} (hkn : ∀ d ∈ kn, isPr d) (hlo : ∀ d ∈ lo, rwLo P d) (hco : ∀ d ∈ co, rwIn d) {m : MiV} (a1 a2 : Int) (x : Dt h AllV (miD a f r kn lo co) (mic m)) : ∃ h', f5 N m a1 a2 h = some (true, h') := by
  obtain ⟨s1, s2, s3, hc, _⟩ := inv_mi x
  have hm := mic_inj hc
  clear hc
  rw [f5_eqc]
  unfold f5_c
  have o := own_push h (mic m)
  have c := chg_push h (.row (mic m) .own)
  have e1 : h.push (.row (rowM m) .own) = h.push (.row (mic m) .own) := rfl
  dsimp only
  rw [e1]
  have x : Dt h (fun X => X < h.next) (miD a f r kn lo co) (mic m) := Dt.weak (fun _ _ h => h) x
  have x := Dt.chg c (by simp) x
  have nx1 : h.next < (h.push (.row (mic m) .own)).next := o.2
  generalize h.push (.row (mic m) .own) = h1 at *
  have cm : h1.cells (h.next, 0) 6 = some (.agg (mic m)) := o.cells (j := 0) (m := 6) (show 0 + 6 ≤ 6 by decide)
  rw [cm, aggM]
  obtain ⟨b, H1, e18, c1, g18⟩ := f18_eq (N := N) hP (by omega) hlo hco x
  have e18' : f18 N (m.1, m.2.1, m.2.2.1, m.2.2.2.1, m.2.2.2.2.1, m.2.2.2.2.2.1, ()) h1 = some (b, H1) := e18
  rw [e18', bind2_some]
  cases hb : b
  case true =>
    exact ⟨H1, rfl⟩
  obtain ⟨n3, n2, hr, n1, hlo', hco'⟩ := g18 hb
  have o1 := o.chg c1 (by simp)
  have cm1 : H1.cells (h.next, 0) 6 = some (.agg (mic m)) := o1.cells (j := 0) (m := 6) (show 0 + 6 ≤ 6 by decide)
  simp only [cond_false]
  rw [cm1, aggM]
  have x1 := Dt.chg c1 (by simp) x
  obtain ⟨H2, e19, c2⟩ := f19_eq (N := N) (by omega) (⟨hkn, hlo', fun d hd => (hco' d hd).is, by omega, by omega, by omega⟩ : isMi kn lo co) x1
  have e19' : f19 N (m.1, m.2.1, m.2.2.1, m.2.2.2.1, m.2.2.2.2.1, m.2.2.2.2.2.1, ()) H1 = some (miB (miD a f r kn lo co), H2) := e19
  rw [e19', bind2_some]
  cases may : miB (miD a f r kn lo co) with
  | false => exact ⟨H2, rfl⟩
  | true =>
    simp only [Bool.not_true, bind2_some]
    have x2 := Dt.chg c2 (by simp) x1
    subst hm
    have x2 : Dt H2 (fun X => X < H2.next) (miD a f r kn lo co) (mic (a, f, r, s1, s2, s3, ())) := Dt.weak (fun X _ h => h) x2
    exact k9_eq hN (o1.chg c2 (by simp)) x2 may hkn hlo' hco' hr n1 n2 n3
end
end Go.Proofs.YtjeaammlambkeaaDoor.My

set_option linter.unusedVariables false
set_option linter.unusedSimpArgs false
set_option maxRecDepth 100000
open Go Go.Proofs.YtjeaammlambkeaaDoor.Ai Go.Proofs
namespace Go.Proofs.YtjeaammlambkeaaDoor.My
open Go.ChangeShapes Go.WideShapes
/-! arguments as trees -/
mutual
def Wt (P : Program) : D → TypeId → Prop
  | .b _, t => P.underlying t = some .bool
  | .i n, t => P.underlying t = some (.int .i64) ∧ -9223372036854775808 ≤ n ∧ n ≤ 9223372036854775807
  | .s x, t => P.underlying t = some .string ∧ x.length ≤ 9223372036854775807
  | .l xs, t => ∃ e, P.underlying t = some (.slice e) ∧ Wl P xs e ∧ xs.length ≤ 9223372036854775807
  | .t xs, t => (∃ fs, P.underlying t = some (.struct fs) ∧ Wf P xs fs.toList) ∨ ∃ n e, P.underlying t = some (.array n e) ∧ Wl P xs e ∧ xs.length = n
def Wl (P : Program) : List D → TypeId → Prop
  | [], _ => True
  | x :: r, e => Wt P x e ∧ Wl P r e
def Wf (P : Program) : List D → List Field → Prop
  | [], [] => True
  | x :: r, f :: fs => Wt P x f.type ∧ Wf P r fs
  | _, _ => False
end
def sumC (P : Program) : List Field → Nat
  | [] => 0
  | f :: r => P.cellsOf f.type + sumC P r
def dT (P : Program) (S : List TypeId) (t : TypeId) : Bool :=
  match P.underlying t with
  | some .bool => Nat.beq (P.cellsOf t) 1
  | some (.int .i64) => Nat.beq (P.cellsOf t) 1
  | some .string => Nat.beq (P.cellsOf t) 1
  | some (.slice e) => memL e S && Nat.beq (P.cellsOf t) 1
  | some (.array n e) => memL e S && Nat.beq (P.cellsOf t) (n * P.cellsOf e)
  | some (.struct fs) => fs.toList.all (fun f => memL f.type S) && Nat.beq (P.cellsOf t) (sumC P fs.toList)
  | _ => false
def dB (P : Program) (S : List TypeId) : Bool := S.all (dT P S)
theorem memL_mem' {t : TypeId} {S : List TypeId} (h : memL t S = true) : t ∈ S := memL_iff.1 h
section
variable {H : Type} {P : Program} {h : Heap} {S : List TypeId}
theorem rd_dt (hS : dB P S = true) {t : TypeId} {cs : List AV} {d : DataW H} (x : Rd P h t cs d) : t ∈ S → ∃ y, Wt P y t ∧ Dt h (fun _ => True) y cs ∧ cs.length = P.cellsOf t := by
  have hT : ∀ {t : TypeId}, t ∈ S → dT P S t = true := fun ht => List.all_eq_true.1 hS _ ht
  induction x with
  | bool h1 =>
    rename_i t b
    intro ht
    have hd := hT ht
    unfold dT at hd
    rw [h1] at hd
    refine ⟨.b b, ?_, ?_, ?_⟩
    · simp only [Wt]; exact h1
    · simp only [Dt]
    · rw [Nat.eq_of_beq_eq_true hd]; rfl
  | int h1 h2 =>
    rename_i t k n
    intro ht
    have hd := hT ht
    unfold dT at hd
    rw [h1] at hd
    cases k <;> simp only [Bool.false_eq_true] at hd
    refine ⟨.i n, ?_, ?_, ?_⟩
    · simp only [Wt]
      refine ⟨h1, ?_⟩
      have := Rd.int_inv (H := H) h1 (Rd.int (h := h) h1 h2)
      obtain ⟨n', e1, _, e3⟩ := this
      simp only [List.cons.injEq, AV.int.injEq, true_and, and_true] at e1
      subst e1
      first | exact e3 | simpa using e3
    · simp only [Dt]
    · rw [Nat.eq_of_beq_eq_true hd]; rfl
  | str h1 h2 =>
    rename_i t s
    intro ht
    have hd := hT ht
    unfold dT at hd
    rw [h1] at hd
    refine ⟨.s s, ?_, ?_, ?_⟩
    · simp only [Wt]; exact ⟨h1, h2⟩
    · simp only [Dt]
    · rw [Nat.eq_of_beq_eq_true hd]; rfl
  | nil h1 =>
    rename_i t e
    intro ht
    have hd := hT ht
    unfold dT at hd
    rw [h1] at hd
    simp only [Bool.and_eq_true] at hd
    refine ⟨.l [], ?_, dt_l.2 ⟨⟨none, 0, 0, 0⟩, rfl, Sl.nil _ _ _⟩, ?_⟩
    · simp only [Wt, Wl]; exact ⟨e, h1, trivial, by simp⟩
    · rw [Nat.eq_of_beq_eq_true hd.2]; rfl
  | slice h1 h2 h3 h4 h5 h6 ih =>
    rename_i t e A ass ds sp
    intro ht
    have hd := hT ht
    unfold dT at hd
    rw [h1] at hd
    simp only [Bool.and_eq_true] at hd
    have he := memL_mem' hd.1
    have key : ∀ (ass : List (List AV)) (ds : List (DataW H)), ass.length = ds.length → (∀ (i : Nat) (a : List AV) (d : DataW H), ass[i]? = some a → ds[i]? = some d → ∃ y, Wt P y e ∧ Dt h (fun _ => True) y a ∧ a.length = P.cellsOf e) →
        ∃ ys, Wl P ys e ∧ De h (fun _ => True) (P.cellsOf e) ys ass.flatten ∧ ys.length = ds.length := by
      intro ass
      induction ass with
      | nil =>
        intro ds hl _
        cases ds with
        | nil => exact ⟨[], by simp [Wl], by simp [De], rfl⟩
        | cons d r => cases hl
      | cons a r ihr =>
        intro ds hl hf
        cases ds with
        | nil => cases hl
        | cons d q =>
          obtain ⟨y, y1, y2, y4⟩ := hf 0 a d rfl rfl
          obtain ⟨ys, z1, z2, z4⟩ := ihr q (by simpa using hl) fun i a d h1 h2 => hf (i + 1) a d (by simpa using h1) (by simpa using h2)
          refine ⟨y :: ys, ?_, ?_, by simp [z4]⟩
          · simp only [Wl]; exact ⟨y1, z1⟩
          · simp only [De, List.flatten_cons]; exact ⟨a, r.flatten, rfl, y4, y2, z2⟩
    obtain ⟨ys, z1, z2, z4⟩ := key ass ds h5 fun i a d e1 e2 => ih i a d e1 e2 he
    have hvl := z2.length
    refine ⟨.l ys, ?_, dt_l.2 ⟨⟨some (A, 0), ds.length, ds.length, P.cellsOf e⟩, rfl, z4.symm, Nat.le_refl _, fun _ _ => trivial, ass.flatten, ⟨?_, fun ha => (by cases ha), fun A' off ha => ?_⟩, z2⟩, ?_⟩
    · simp only [Wt]; exact ⟨e, h1, z1, by rw [z4]; exact h4⟩
    · rw [hvl, z4]
    · simp only [Option.some.injEq, Prod.mk.injEq] at ha
      obtain ⟨rfl, rfl⟩ := ha
      refine ⟨h3, ass.flatten, ?_, by rw [List.drop_zero, List.take_length]⟩
      show rowB (h.t.get A) = _
      rw [h2]; rfl
    · rw [Nat.eq_of_beq_eq_true hd.2]; rfl
  | struct h1 h2 h3 h4 ih =>
    rename_i t fs ass ds
    intro ht
    have hd := hT ht
    unfold dT at hd
    rw [h1] at hd
    simp only [Bool.and_eq_true] at hd
    obtain ⟨hd1, hd2⟩ := hd
    have key : ∀ (fl : List Field) (ass : List (List AV)) (ds : List (DataW H)), ass.length = fl.length → ds.length = fl.length → (∀ f ∈ fl, f.type ∈ S) → (∀ (i : Nat) (f : Field) (a : List AV) (d : DataW H), fl[i]? = some f → ass[i]? = some a → ds[i]? = some d → f.type ∈ S → ∃ y, Wt P y f.type ∧ Dt h (fun _ => True) y a ∧ a.length = P.cellsOf f.type) →
        ∃ ys, Wf P ys fl ∧ Dp h (fun _ => True) ys ass.flatten ∧ ass.flatten.length = sumC P fl := by
      intro fl
      induction fl with
      | nil =>
        intro ass ds ha hd _ _
        cases ass with
        | nil =>
          cases ds with
          | nil => exact ⟨[], by simp [Wf], by simp [Dp], rfl⟩
          | cons d r => cases hd
        | cons a r => cases ha
      | cons f fl ihf =>
        intro ass ds ha hd hm hf
        cases ass with
        | nil => cases ha
        | cons a r =>
          cases ds with
          | nil => cases hd
          | cons d q =>
            obtain ⟨y, y1, y2, y4⟩ := hf 0 f a d rfl rfl rfl (hm f (by simp))
            obtain ⟨ys, z1, z2, z4⟩ := ihf r q (by simpa using ha) (by simpa using hd) (fun g hg => hm g (by simp [hg])) fun i f a d h0 h1 h2 => hf (i + 1) f a d (by simpa using h0) (by simpa using h1) (by simpa using h2)
            refine ⟨y :: ys, ?_, ?_, ?_⟩
            · simp only [Wf]; exact ⟨y1, z1⟩
            · simp only [Dp, List.flatten_cons]; exact ⟨a, r.flatten, rfl, y2, z2⟩
            · simp only [List.flatten_cons, List.length_append, sumC, z4, y4]
    obtain ⟨ys, z1, z2, z4⟩ := key fs.toList ass ds (by simpa using h2) (by simpa using h3) (fun f hf => memL_mem' (List.all_eq_true.1 hd1 f hf)) fun i f a d e0 e1 e2 e3 => ih i f a d (by simpa using e0) e1 e2 e3
    refine ⟨.t ys, ?_, ?_, ?_⟩
    · simp only [Wt]; exact .inl ⟨fs, h1, z1⟩
    · simp only [Dt]; exact z2
    · rw [z4, Nat.eq_of_beq_eq_true hd2]
  | array h1 h2 h3 h4 ih =>
    rename_i t n e ass ds
    intro ht
    have hd := hT ht
    unfold dT at hd
    rw [h1] at hd
    simp only [Bool.and_eq_true] at hd
    have he := memL_mem' hd.1
    have key : ∀ (ass : List (List AV)) (ds : List (DataW H)), ass.length = ds.length → (∀ (i : Nat) (a : List AV) (d : DataW H), ass[i]? = some a → ds[i]? = some d → ∃ y, Wt P y e ∧ Dt h (fun _ => True) y a ∧ a.length = P.cellsOf e) →
        ∃ ys, Wl P ys e ∧ Dp h (fun _ => True) ys ass.flatten ∧ ys.length = ds.length ∧ ass.flatten.length = ds.length * P.cellsOf e := by
      intro ass
      induction ass with
      | nil =>
        intro ds hl _
        cases ds with
        | nil => exact ⟨[], by simp [Wl], by simp [Dp], rfl, by simp⟩
        | cons d r => cases hl
      | cons a r ihr =>
        intro ds hl hf
        cases ds with
        | nil => cases hl
        | cons d q =>
          obtain ⟨y, y1, y2, y4⟩ := hf 0 a d rfl rfl
          obtain ⟨ys, z1, z2, z4, z5⟩ := ihr q (by simpa using hl) fun i a d h1 h2 => hf (i + 1) a d (by simpa using h1) (by simpa using h2)
          refine ⟨y :: ys, ?_, ?_, by simp [z4], ?_⟩
          · simp only [Wl]; exact ⟨y1, z1⟩
          · simp only [Dp, List.flatten_cons]; exact ⟨a, r.flatten, rfl, y2, z2⟩
          · simp only [List.flatten_cons, List.length_append, z5, y4, List.length_cons, Nat.add_mul, Nat.one_mul]; omega
    obtain ⟨ys, z1, z2, z4, z5⟩ := key ass ds (by omega) fun i a d e1 e2 => ih i a d e1 e2 he
    refine ⟨.t ys, ?_, ?_, ?_⟩
    · simp only [Wt]; exact .inr ⟨n, e, h1, z1, by omega⟩
    · simp only [Dt]; exact z2
    · rw [z5, h3, Nat.eq_of_beq_eq_true hd.2]
/-! what shape a tree of a type has -/
theorem Wt.int_inv {y : D} {t : TypeId} (hu : P.underlying t = some (.int .i64)) (x : Wt P y t) : ∃ n, y = .i n ∧ -9223372036854775808 ≤ n ∧ n ≤ 9223372036854775807 := by
  cases y with
  | i n => simp only [Wt] at x; exact ⟨n, rfl, x.2⟩
  | b _ => simp only [Wt, hu] at x; cases x
  | s _ => simp only [Wt, hu] at x; cases x.1
  | l _ => simp only [Wt, hu] at x; obtain ⟨e, h1, _⟩ := x; cases h1
  | t _ =>
    simp only [Wt, hu] at x
    rcases x with ⟨e, h1, _⟩ | ⟨n, e, h1, _⟩ <;> cases h1
theorem Wt.bool_inv {y : D} {t : TypeId} (hu : P.underlying t = some .bool) (x : Wt P y t) : ∃ b, y = .b b := by
  cases y with
  | b n => exact ⟨n, rfl⟩
  | i _ => simp only [Wt, hu] at x; cases x.1
  | s _ => simp only [Wt, hu] at x; cases x.1
  | l _ => simp only [Wt, hu] at x; obtain ⟨e, h1, _⟩ := x; cases h1
  | t _ =>
    simp only [Wt, hu] at x
    rcases x with ⟨e, h1, _⟩ | ⟨n, e, h1, _⟩ <;> cases h1
theorem Wt.str_inv {y : D} {t : TypeId} (hu : P.underlying t = some .string) (x : Wt P y t) : ∃ s, y = .s s ∧ s.length ≤ 9223372036854775807 := by
  cases y with
  | s n => simp only [Wt] at x; exact ⟨n, rfl, x.2⟩
  | i _ => simp only [Wt, hu] at x; cases x.1
  | b _ => simp only [Wt, hu] at x; cases x
  | l _ => simp only [Wt, hu] at x; obtain ⟨e, h1, _⟩ := x; cases h1
  | t _ =>
    simp only [Wt, hu] at x
    rcases x with ⟨e, h1, _⟩ | ⟨n, e, h1, _⟩ <;> cases h1
theorem Wt.slice_inv {y : D} {t e : TypeId} (hu : P.underlying t = some (.slice e)) (x : Wt P y t) : ∃ xs, y = .l xs ∧ Wl P xs e ∧ xs.length ≤ 9223372036854775807 := by
  cases y with
  | l xs =>
    simp only [Wt, hu] at x
    obtain ⟨e', h1, h2, h3⟩ := x
    simp only [Option.some.injEq, TypeDesc.slice.injEq] at h1
    subst h1
    exact ⟨xs, rfl, h2, h3⟩
  | i _ => simp only [Wt, hu] at x; cases x.1
  | b _ => simp only [Wt, hu] at x; cases x
  | s _ => simp only [Wt, hu] at x; cases x.1
  | t _ =>
    simp only [Wt, hu] at x
    rcases x with ⟨e, h1, _⟩ | ⟨n, e, h1, _⟩ <;> cases h1
theorem Wt.struct_inv {y : D} {t : TypeId} {fs : Array Field} (hu : P.underlying t = some (.struct fs)) (x : Wt P y t) : ∃ xs, y = .t xs ∧ Wf P xs fs.toList := by
  cases y with
  | t xs =>
    simp only [Wt, hu] at x
    rcases x with ⟨e', h1, h2⟩ | ⟨n, e, h1, _⟩
    · simp only [Option.some.injEq, TypeDesc.struct.injEq] at h1
      subst h1
      exact ⟨xs, rfl, h2⟩
    · cases h1
  | i _ => simp only [Wt, hu] at x; cases x.1
  | b _ => simp only [Wt, hu] at x; cases x
  | s _ => simp only [Wt, hu] at x; cases x.1
  | l _ => simp only [Wt, hu] at x; obtain ⟨e, h1, _⟩ := x; cases h1
theorem Wf.cons_inv {xs : List D} {f : Field} {fs : List Field} (x : Wf P xs (f :: fs)) : ∃ y r, xs = y :: r ∧ Wt P y f.type ∧ Wf P r fs := by
  cases xs with
  | nil => simp only [Wf] at x
  | cons y r => simp only [Wf] at x; exact ⟨y, r, rfl, x.1, x.2⟩
theorem Wf.nil_inv {xs : List D} (x : Wf P xs []) : xs = [] := by
  cases xs with
  | nil => rfl
  | cons y r => simp only [Wf] at x
theorem Wl.mem : ∀ {xs : List D} {e : TypeId}, Wl P xs e → ∀ y ∈ xs, Wt P y e
  | [], _, _, y, hy => by cases hy
  | z :: r, e, x, y, hy => by
    simp only [Wl] at x
    rcases List.mem_cons.1 hy with rfl | hy
    · exact x.1
    · exact x.2.mem y hy
theorem Wl.strs {e : TypeId} (hu : P.underlying e = some .string) : ∀ {xs : List D}, Wl P xs e → ∃ l : List Bs, xs = l.map D.s ∧ ∀ s ∈ l, s.length ≤ 9223372036854775807
  | [], _ => ⟨[], rfl, by simp⟩
  | z :: r, x => by
    simp only [Wl] at x
    obtain ⟨s, rfl, hs⟩ := x.1.str_inv hu
    obtain ⟨l, rfl, hl⟩ := Wl.strs hu x.2
    refine ⟨s :: l, rfl, fun y hy => ?_⟩
    rcases List.mem_cons.1 hy with rfl | hy
    · exact hs
    · exact hl y hy
end
theorem Wt.arr_inv {P : Program} {y : D} {t e : TypeId} {n : Nat} (hu : P.underlying t = some (.array n e)) (x : Wt P y t) : ∃ xs, y = .t xs ∧ Wl P xs e ∧ xs.length = n := by
  cases y with
  | t xs =>
    simp only [Wt, hu] at x
    rcases x with ⟨e', h1, h2⟩ | ⟨m, e', h1, h2, h3⟩
    · cases h1
    · simp only [Option.some.injEq, TypeDesc.array.injEq] at h1
      obtain ⟨rfl, rfl⟩ := h1
      exact ⟨xs, rfl, h2, h3⟩
  | i _ => simp only [Wt, hu] at x; cases x.1
  | b _ => simp only [Wt, hu] at x; cases x
  | s _ => simp only [Wt, hu] at x; cases x.1
  | l _ => simp only [Wt, hu] at x; obtain ⟨e, h1, _⟩ := x; cases h1
theorem Wf.of_types {P : Program} {xs : List D} : ∀ {fs : List Field} {ts : List TypeId}, fs.map (·.type) = ts → Wf P xs fs → xs.length = ts.length ∧ ∀ (i : Nat) (y : D) (t : TypeId), xs[i]? = some y → ts[i]? = some t → Wt P y t := by
  induction xs with
  | nil =>
    intro fs ts h x
    cases fs with
    | nil => subst h; exact ⟨rfl, fun i y t h1 h2 => by simp at h1⟩
    | cons f r => simp only [Wf] at x
  | cons y r ih =>
    intro fs ts h x
    cases fs with
    | nil => simp only [Wf] at x
    | cons f q =>
      subst h
      simp only [Wf] at x
      obtain ⟨h1, h2⟩ := ih rfl x.2
      refine ⟨by simpa using h1, fun i z t e1 e2 => ?_⟩
      cases i with
      | zero => simp only [List.getElem?_cons_zero, List.map_cons, Option.some.injEq] at e1 e2; subst e1 e2; exact x.1
      | succ i => exact h2 i z t (by simpa using e1) (by simpa using e2)
theorem Wl.ints {P : Program} {e : TypeId} (hu : P.underlying e = some (.int .i64)) : ∀ {xs : List D}, Wl P xs e → ∃ l : List Int, xs = l.map D.i
  | [], _ => ⟨[], rfl⟩
  | z :: r, x => by
    simp only [Wl] at x
    obtain ⟨s, rfl, _⟩ := x.1.int_inv hu
    obtain ⟨l, rfl⟩ := Wl.ints hu x.2
    exact ⟨s :: l, rfl⟩
/-! this program's types -/
theorem ud3 : Tryd.prog.underlying 3 = some (.int .i64) := by kernel_rfl
theorem ud9 : Tryd.prog.underlying 9 = some (.string) := by kernel_rfl
theorem ud4 : Tryd.prog.underlying 4 = some (.bool) := by kernel_rfl
theorem ud22 : Tryd.prog.underlying 22 = some (.slice 9) := by kernel_rfl
theorem ud40 : Tryd.prog.underlying 40 = some (.slice 3) := by kernel_rfl
theorem ud41 : Tryd.prog.underlying 41 = some (.slice 39) := by kernel_rfl
theorem ud46 : Tryd.prog.underlying 46 = some (.slice 48) := by kernel_rfl
theorem ud32 : Tryd.prog.underlying 32 = some (.slice 60) := by kernel_rfl
theorem ud33 : Tryd.prog.underlying 33 = some (.slice 50) := by kernel_rfl
theorem ud34 : Tryd.prog.underlying 34 = some (.slice 45) := by kernel_rfl
theorem ud60 : Tryd.prog.underlying 60 = some (.array 2 3) := by kernel_rfl
noncomputable def st24 : Array Field := match Tryd.prog.underlying 24 with | some (.struct fs) => fs | _ => #[]
theorem us24 : Tryd.prog.underlying 24 = some (.struct st24) := by kernel_rfl
theorem fl24 : st24.toList.map (·.type) = [3, 22] := by kernel_rfl
noncomputable def st39 : Array Field := match Tryd.prog.underlying 39 with | some (.struct fs) => fs | _ => #[]
theorem us39 : Tryd.prog.underlying 39 = some (.struct st39) := by kernel_rfl
theorem fl39 : st39.toList.map (·.type) = [3, 3, 24] := by kernel_rfl
noncomputable def st43 : Array Field := match Tryd.prog.underlying 43 with | some (.struct fs) => fs | _ => #[]
theorem us43 : Tryd.prog.underlying 43 = some (.struct st43) := by kernel_rfl
theorem fl43 : st43.toList.map (·.type) = [3, 39, 39, 3, 24, 3, 9, 40, 41] := by kernel_rfl
noncomputable def st45 : Array Field := match Tryd.prog.underlying 45 with | some (.struct fs) => fs | _ => #[]
theorem us45 : Tryd.prog.underlying 45 = some (.struct st45) := by kernel_rfl
theorem fl45 : st45.toList.map (·.type) = [3, 3, 4, 24, 43, 40] := by kernel_rfl
noncomputable def st48 : Array Field := match Tryd.prog.underlying 48 with | some (.struct fs) => fs | _ => #[]
theorem us48 : Tryd.prog.underlying 48 = some (.struct st48) := by kernel_rfl
theorem fl48 : st48.toList.map (·.type) = [3, 9, 40, 46] := by kernel_rfl
noncomputable def st50 : Array Field := match Tryd.prog.underlying 50 with | some (.struct fs) => fs | _ => #[]
theorem us50 : Tryd.prog.underlying 50 = some (.struct st50) := by kernel_rfl
theorem fl50 : st50.toList.map (·.type) = [9, 48, 4] := by kernel_rfl
noncomputable def st36 : Array Field := match Tryd.prog.underlying 36 with | some (.struct fs) => fs | _ => #[]
theorem us36 : Tryd.prog.underlying 36 = some (.struct st36) := by kernel_rfl
theorem fl36 : st36.toList.map (·.type) = [3, 3, 3, 32, 33, 34] := by kernel_rfl
theorem dB_mi : dB Tryd.prog [36, 3, 9, 4, 22, 40, 41, 46, 32, 33, 34, 60, 24, 39, 43, 45, 48, 50] = true := by kernel_rfl
theorem pa_sh {y : D} (x : Wt Tryd.prog y 24) : smPa y := by
  obtain ⟨xs, rfl, hx⟩ := x.struct_inv us24
  obtain ⟨h1, h2⟩ := hx.of_types fl24
  match xs, h1, h2 with
  | [a, b], _, h2 =>
    obtain ⟨k, rfl, _⟩ := (h2 0 a 3 rfl rfl).int_inv ud3
    obtain ⟨l, rfl, hl, hn⟩ := (h2 1 b 22 rfl rfl).slice_inv ud22
    obtain ⟨ss, rfl, _⟩ := hl.strs ud9
    exact ⟨k, ss, rfl, by simpa using hn⟩
theorem op_sh {y : D} (x : Wt Tryd.prog y 39) : smOp y := by
  obtain ⟨xs, rfl, hx⟩ := x.struct_inv us39
  obtain ⟨h1, h2⟩ := hx.of_types fl39
  match xs, h1, h2 with
  | [a, b, c], _, h2 =>
    obtain ⟨k, rfl, _⟩ := (h2 0 a 3 rfl rfl).int_inv ud3
    obtain ⟨n, rfl, _⟩ := (h2 1 b 3 rfl rfl).int_inv ud3
    exact ⟨k, n, c, rfl, pa_sh (h2 2 c 24 rfl rfl)⟩
theorem va_sh {y : D} (x : Wt Tryd.prog y 43) : rwVa y := by
  obtain ⟨xs, rfl, hx⟩ := x.struct_inv us43
  obtain ⟨h1, h2⟩ := hx.of_types fl43
  match xs, h1, h2 with
  | [y0, y1, y2, y3, y4, y5, y6, y7, y8], _, h2 =>
    obtain ⟨k, rfl, _⟩ := (h2 0 y0 3 rfl rfl).int_inv ud3
    obtain ⟨op, rfl, _⟩ := (h2 3 y3 3 rfl rfl).int_inv ud3
    obtain ⟨rg, rfl, _⟩ := (h2 5 y5 3 rfl rfl).int_inv ud3
    obtain ⟨nm, rfl, _⟩ := (h2 6 y6 9 rfl rfl).str_inv ud9
    obtain ⟨l, rfl, hl, _⟩ := (h2 7 y7 40 rfl rfl).slice_inv ud40
    obtain ⟨rs, rfl⟩ := hl.ints ud3
    obtain ⟨ag, rfl, ha, _⟩ := (h2 8 y8 41 rfl rfl).slice_inv ud41
    exact ⟨k, y1, y2, op, y4, rg, nm, rs, ag, rfl, op_sh (h2 1 y1 39 rfl rfl), op_sh (h2 2 y2 39 rfl rfl), pa_sh (h2 4 y4 24 rfl rfl), fun o ho => op_sh (ha.mem o ho)⟩
theorem in_sh {y : D} (x : Wt Tryd.prog y 45) : rwIn y := by
  obtain ⟨xs, rfl, hx⟩ := x.struct_inv us45
  obtain ⟨h1, h2⟩ := hx.of_types fl45
  match xs, h1, h2 with
  | [y0, y1, y2, y3, y4, y5], _, h2 =>
    obtain ⟨k, rfl, _⟩ := (h2 0 y0 3 rfl rfl).int_inv ud3
    obtain ⟨a, rfl, _⟩ := (h2 1 y1 3 rfl rfl).int_inv ud3
    obtain ⟨hs, rfl⟩ := (h2 2 y2 4 rfl rfl).bool_inv ud4
    obtain ⟨l, rfl, hl, _⟩ := (h2 5 y5 40 rfl rfl).slice_inv ud40
    obtain ⟨nx, rfl⟩ := hl.ints ud3
    exact ⟨k, a, hs, y3, y4, nx, rfl, pa_sh (h2 3 y3 24 rfl rfl), va_sh (h2 4 y4 43 rfl rfl)⟩
theorem rt_sh : Closed (fun y => Wt Tryd.prog y 48) := by
  intro y x
  obtain ⟨xs, rfl, hx⟩ := x.struct_inv us48
  obtain ⟨h1, h2⟩ := hx.of_types fl48
  match xs, h1, h2 with
  | [y0, y1, y2, y3], _, h2 =>
    obtain ⟨k, rfl, _⟩ := (h2 0 y0 3 rfl rfl).int_inv ud3
    obtain ⟨nm, rfl, _⟩ := (h2 1 y1 9 rfl rfl).str_inv ud9
    obtain ⟨l, rfl, hl, _⟩ := (h2 2 y2 40 rfl rfl).slice_inv ud40
    obtain ⟨rs, rfl⟩ := hl.ints ud3
    obtain ⟨el, rfl, he, _⟩ := (h2 3 y3 46 rfl rfl).slice_inv ud46
    exact ⟨k, nm, rs, el, rfl, he.mem⟩
theorem lo_sh {y : D} (x : Wt Tryd.prog y 50) : rwLo (fun y => Wt Tryd.prog y 48) y := by
  obtain ⟨xs, rfl, hx⟩ := x.struct_inv us50
  obtain ⟨h1, h2⟩ := hx.of_types fl50
  match xs, h1, h2 with
  | [y0, y1, y2], _, h2 =>
    obtain ⟨nm, rfl, _⟩ := (h2 0 y0 9 rfl rfl).str_inv ud9
    obtain ⟨pm, rfl⟩ := (h2 2 y2 4 rfl rfl).bool_inv ud4
    exact ⟨nm, y1, pm, rfl, h2 1 y1 48 rfl rfl⟩
theorem pr_sh {y : D} (x : Wt Tryd.prog y 60) : isPr y := by
  obtain ⟨xs, rfl, hl, hn⟩ := x.arr_inv ud60
  obtain ⟨l, rfl⟩ := hl.ints ud3
  match l, hn with
  | [a, b], _ => exact ⟨a, b, rfl⟩
theorem mi_sh {y : D} (x : Wt Tryd.prog y 36) : ∃ a f r kn lo co, y = miD a f r kn lo co ∧ (∀ d ∈ kn, isPr d) ∧ (∀ d ∈ lo, rwLo (fun y => Wt Tryd.prog y 48) d) ∧ ∀ d ∈ co, rwIn d := by
  obtain ⟨xs, rfl, hx⟩ := x.struct_inv us36
  obtain ⟨h1, h2⟩ := hx.of_types fl36
  match xs, h1, h2 with
  | [y0, y1, y2, y3, y4, y5], _, h2 =>
    obtain ⟨a, rfl, _⟩ := (h2 0 y0 3 rfl rfl).int_inv ud3
    obtain ⟨f, rfl, _⟩ := (h2 1 y1 3 rfl rfl).int_inv ud3
    obtain ⟨r, rfl, _⟩ := (h2 2 y2 3 rfl rfl).int_inv ud3
    obtain ⟨kn, rfl, hk, _⟩ := (h2 3 y3 32 rfl rfl).slice_inv ud32
    obtain ⟨lo, rfl, hl, _⟩ := (h2 4 y4 33 rfl rfl).slice_inv ud33
    obtain ⟨co, rfl, hc, _⟩ := (h2 5 y5 34 rfl rfl).slice_inv ud34
    exact ⟨a, f, r, kn, lo, co, rfl, fun d hd => pr_sh (hk.mem d hd), fun d hd => lo_sh (hl.mem d hd), fun d hd => in_sh (hc.mem d hd)⟩
theorem spoillaw_true {H : Type} (h : Heap) (vs : List AV) (ds : List (DataW H)) (hr : RdArgs Tryd.prog h [36, 3, 3] vs ds) : ∃ (xs : vdens [.agg [.int .i64, .int .i64, .int .i64, .slice, .slice, .slice], .one (.int .i64), .one (.int .i64)]) (h' : Heap), VTy.tos _ xs = vs ∧ (fun (x : vdens [.agg [.int .i64, .int .i64, .int .i64, .slice, .slice, .slice], .one (.int .i64), .one (.int .i64)]) h => f5 9223372036854775808 x.1 x.2.1 x.2.2.1 h) xs h = some (true, h') := by
  obtain ⟨c0, d0, _, _, rfl, rfl, r0, hr⟩ := hr.cons_inv
  obtain ⟨c1, d1, _, _, rfl, rfl, r1, hr⟩ := hr.cons_inv
  obtain ⟨c2, d2, _, _, rfl, rfl, r2, hr⟩ := hr.cons_inv
  obtain ⟨rfl, rfl⟩ := hr.nil_inv
  obtain ⟨y, y1, y2, _⟩ := rd_dt dB_mi r0 (by simp)
  obtain ⟨a, f, r, kn, lo, co, rfl, k1, k2, k3⟩ := mi_sh y1
  obtain ⟨s1, s2, s3, rfl, _⟩ := inv_mi y2
  obtain ⟨n1, rfl, _⟩ := r1.int_inv ud3
  obtain ⟨n2, rfl, _⟩ := r2.int_inv ud3
  obtain ⟨h', e⟩ := f5_true (N := 9223372036854775808) rt_sh (by omega) k1 k2 k3 n1 n2 y2
  exact ⟨((a, f, r, s1, s2, s3, ()), n1, n2, ()), h', by simp only [argOf_struct us36]; rfl, e⟩
end Go.Proofs.YtjeaammlambkeaaDoor.My
