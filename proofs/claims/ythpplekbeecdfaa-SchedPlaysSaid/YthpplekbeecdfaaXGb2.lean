import Derived.Test.YthpplekbeecdfaaXGb1
import Derived.Test.YthpplekbeecdfaaAi3
/- Functions of the program as plain functions, and what they come to; part 2. -/
set_option linter.unusedVariables false
set_option linter.unusedSimpArgs false
open Go Go.Proofs.Ythpplekbeecdfaa.Ai Go.Proofs
namespace Go.Proofs.Ythpplekbeecdfaa.Gb
variable {N : Nat} {s v5 v9 : SL} {ss : List SL} {d : List (List Int)} {l : List Int} {h : Heap}
theorem l1_spec (hr : Rows h v5 ss d) (hd : d.length ≤ 64) (v1 : Int) (v4 : Bool) : ∀ (M k : Nat), k ≤ d.length → d.length - k < M →
    (f3_l1 N M v1 v4 v5 (k : Int) h = some (.exit 0, (v1, v4, v5, ()), h) ∧ ∀ i, k ≤ i → i < d.length → (d.getD i []).length ≤ 64) ∨ f3_l1 N M v1 v4 v5 (k : Int) h = some (.ret, (v1, true, v5, ()), h) := by
  intro M
  induction M with
  | zero => intro k h1 h2; omega
  | succ M ih =>
    intro k h1 h2
    rw [f3_l1_succ]
    unfold f3_l1_b
    have ht := hr.top.sl (β := Out × (Int × Bool × SL × Unit) × Heap) (x := (k : Int)) (by omega)
    simp only [hr.slen] at ht ⊢
    by_cases hk : k < d.length
    · have ew : wrapA .i64 ((k : Int) + 1) = ((k + 1 : Nat) : Int) := wrapA_small (by omega) (by omega)
      have hrow := hr.row k hk
      simp only [ltInt_dec, Int.ofNat_eq_natCast, Int.ofNat_lt, hk, decide_true, cond_true]
      rw [ht (by rw [hr.len]; omega)]
      simp only [Int.toNat_natCast, Ints.len hrow]
      by_cases hl : (d.getD k []).length ≤ 64
      · simp only [show ¬ (64 : Int) < ((d.getD k []).length : Int) by omega, decide_false, cond_false, ew]
        rcases ih (k + 1) (by omega) (by omega) with ⟨e, h3⟩ | e
        · refine .inl ⟨e, fun i hi1 hi2 => ?_⟩
          by_cases hik : i = k
          · subst hik; exact hl
          · exact h3 i (by omega) hi2
        · exact .inr e
      · simp only [show (64 : Int) < ((d.getD k []).length : Int) by omega, decide_true, cond_true, f11, bind2_some]
        exact .inr trivial
    · have : k = d.length := by omega
      subst this
      left
      refine ⟨by simp [ltInt_dec], fun i h3 h4 => by omega⟩
/-- reading a row's number -/
theorem row_int {β : Type} (hr : Rows h v5 ss d) {y : Int} (h0 : 0 ≤ y) (h1 : y < d.length) (K : SL → Option β) : (ixK v5.a v5.len y 1 fun q => bindV (.val (.one .slice)) (h.cell q) K) = K (ss.getD y.toNat nilS) := hr.top.sl h0 (by rw [hr.len]; omega) K
theorem l2_spec (hr : Rows h v5 ss d) (hf : Fine d) (hl9 : Ints h v9 l) (hll : l.length ≤ 64) (hN : 1000001 ≤ N) {n : Int} (hn0 : 0 ≤ n) (hn1 : n < d.length) (hall : ∀ x ∈ d.getD n.toNat [], x ∈ l) (v4 : Bool) : ∀ (M k : Nat), k ≤ (d.getD n.toNat []).length → (d.getD n.toNat []).length - k < M →
    f3_l2 N M v4 v5 n v9 (k : Int) h = some (.exit 2, (v4, v5, n, v9, ()), h) := by
  intro M
  induction M with
  | zero => intro k h1 h2; omega
  | succ M ih =>
    intro k h1 h2
    rw [f3_l2_succ]
    unfold f3_l2_b
    have hnl : n.toNat < d.length := by omega
    have hrow := hr.row n.toNat hnl
    have hrl := hf.row n.toNat hnl
    rw [row_int hr hn0 hn1]
    simp only [Ints.len hrow]
    by_cases hk : k < (d.getD n.toNat []).length
    · have ew : wrapA .i64 ((k : Int) + 1) = ((k + 1 : Nat) : Int) := wrapA_small (by omega) (by omega)
      have hg := getD_lt (d.getD n.toNat []) 0 hk
      simp only [ltInt_dec, Int.ofNat_eq_natCast, Int.ofNat_lt, hk, decide_true, cond_true]
      rw [row_int hr hn0 hn1]
      rw [hrow.int (x := (k : Int)) (by omega) (by omega)]
      have hm := hall _ (List.getElem_mem hk)
      simp only [Int.toNat_natCast, hg, has_spec hl9 hN (by omega), bind2_some, hm, decide_true, Bool.not_true, cond_false, ew]
      exact ih (k + 1) (by omega) (by omega)
    · have : k = (d.getD n.toNat []).length := by omega
      subst this
      simp [ltInt_dec]
theorem l5_spec (hr : Rows h v5 ss d) (hf : Fine d) (hl9 : Ints h v9 l) (hll : l.length ≤ 64) (hN : 1000001 ≤ N) (hin : ∀ x ∈ l, 0 ≤ x ∧ x < d.length) {j : Nat} (hj : j < l.length) (hall : ∀ x ∈ d.getD l[j].toNat [], x ∈ l) (v4 : Bool) (v8 v11 : Int) (v12 : Bool) : ∀ (M k : Nat), k ≤ (d.getD l[j].toNat []).length → (d.getD l[j].toNat []).length - k < M →
    f3_l5 N M v4 v5 v8 v9 v11 v12 (j : Int) (k : Int) h = some (.exit 8, (v4, v5, v8, v9, v11, v12, (j : Int), ()), h) := by
  intro M
  induction M with
  | zero => intro k h1 h2; omega
  | succ M ih =>
    intro k h1 h2
    rw [f3_l5_succ]
    unfold f3_l5_b
    have hy := hin _ (List.getElem_mem hj)
    have hnl : l[j].toNat < d.length := by omega
    have hrow := hr.row l[j].toNat hnl
    have hrl := hf.row l[j].toNat hnl
    have hgj := getD_lt l 0 hj
    rw [hl9.int (x := (j : Int)) (by omega) (by omega)]
    simp only [Int.toNat_natCast, hgj]
    rw [row_int hr hy.1 hy.2]
    simp only [Ints.len hrow]
    by_cases hk : k < (d.getD l[j].toNat []).length
    · have ew : wrapA .i64 ((k : Int) + 1) = ((k + 1 : Nat) : Int) := wrapA_small (by omega) (by omega)
      have hg := getD_lt (d.getD l[j].toNat []) 0 hk
      simp only [ltInt_dec, Int.ofNat_eq_natCast, Int.ofNat_lt, hk, decide_true, cond_true]
      rw [hl9.int (x := (j : Int)) (by omega) (by omega)]
      simp only [Int.toNat_natCast, hgj]
      rw [row_int hr hy.1 hy.2, hrow.int (x := (k : Int)) (by omega) (by omega)]
      have hm := hall _ (List.getElem_mem hk)
      simp only [Int.toNat_natCast, hg, has_spec hl9 hN (by omega), bind2_some, hm, decide_true, Bool.not_true, cond_false, ew]
      exact ih (k + 1) (by omega) (by omega)
    · have : k = (d.getD l[j].toNat []).length := by omega
      subst this
      simp [ltInt_dec]
theorem l4_spec (hr : Rows h v5 ss d) (hf : Fine d) (hl9 : Ints h v9 l) (hll : l.length ≤ 64) (hN : 1000001 ≤ N) (hin : ∀ x ∈ l, 0 ≤ x ∧ x < d.length) {k : Nat} (hk : k < l.length) (hall : ∀ y ∈ l, ∀ x ∈ d.getD y.toNat [], x ∈ l) (v4 : Bool) (v8 : Int) : ∀ (M j : Nat) (v12 : Bool), j ≤ l.length → l.length - j < M →
    ∃ b : Bool, f3_l4 N M v4 v5 v8 v9 (k : Int) v12 (j : Int) h = some (.exit 6, (v4, v5, v8, v9, (k : Int), b, ()), h) ∧ (v12 = true → b = true) ∧ ((∃ i, ∃ hi : i < l.length, j ≤ i ∧ i ≠ k ∧ l[k] ∈ d.getD l[i].toNat []) → b = true) := by
  intro M
  induction M with
  | zero => intro j v12 h1 h2; omega
  | succ M ih =>
    intro j v12 h1 h2
    rw [f3_l4_succ]
    unfold f3_l4_b
    simp only [Ints.len hl9]
    by_cases hj : j < l.length
    · have ew : wrapA .i64 ((j : Int) + 1) = ((j + 1 : Nat) : Int) := wrapA_small (by omega) (by omega)
      have hy := hin _ (List.getElem_mem hj)
      have hnl : l[j].toNat < d.length := by omega
      have hrow := hr.row l[j].toNat hnl
      have hrl := hf.row l[j].toNat hnl
      have hgj := getD_lt l 0 hj
      have hgk := getD_lt l 0 hk
      have h5 : ∀ b, f3_l5 N N v4 v5 v8 v9 (k : Int) b (j : Int) 0 h = some (.exit 8, (v4, v5, v8, v9, (k : Int), b, (j : Int), ()), h) := fun b => by
        have := l5_spec (N := N) hr hf hl9 hll hN hin hj (hall _ (List.getElem_mem hj)) v4 v8 (k : Int) b N 0 (by omega) (by omega)
        simpa using this
      simp only [ltInt_dec, Int.ofNat_eq_natCast, Int.ofNat_lt, hj, decide_true, cond_true]
      cases v12 with
      | true =>
        simp only [cond_true, bind2_some, h5, bind3_some, eqOut_exit, decide_true, ew]
        obtain ⟨b, e, g1, g2⟩ := ih (j + 1) true (by omega) (by omega)
        exact ⟨b, e, fun _ => g1 rfl, fun _ => g1 rfl⟩
      | false =>
        simp only [cond_false, eqInt_dec]
        by_cases hjk : j = k
        · subst hjk
          simp only [decide_true, Bool.not_true, cond_false, bind2_some, h5, bind3_some, eqOut_exit, decide_true, cond_true, ew]
          obtain ⟨b, e, g1, g2⟩ := ih (j + 1) false (by omega) (by omega)
          refine ⟨b, e, by simp, ?_⟩
          rintro ⟨i, hi, h6, h7, h8⟩
          exact g2 ⟨i, hi, by omega, h7, h8⟩
        · have hjk' : ¬ ((j : Int) = (k : Int)) := by omega
          simp only [hjk', decide_false, Bool.not_false, cond_true]
          rw [show (ixK v9.a l.length (j : Int) 1) = ixK v9.a v9.len (j : Int) 1 by rw [Ints.len hl9]]
          rw [hl9.int (x := (j : Int)) (by omega) (by omega)]
          simp only [Int.toNat_natCast, hgj]
          rw [row_int hr hy.1 hy.2]
          rw [show (ixK v9.a l.length (k : Int) 1) = ixK v9.a v9.len (k : Int) 1 by rw [Ints.len hl9]]
          rw [hl9.int (x := (k : Int)) (by omega) (by omega)]
          simp only [Int.toNat_natCast, hgk, has_spec hrow hN (by omega), bind2_some, h5, bind3_some, eqOut_exit, decide_true, cond_true, ew]
          obtain ⟨b, e, g1, g2⟩ := ih (j + 1) (decide (l[k] ∈ d.getD l[j].toNat [])) (by omega) (by omega)
          refine ⟨b, e, by simp, ?_⟩
          rintro ⟨i, hi, h6, h7, h8⟩
          by_cases hij : i = j
          · subst hij; exact g1 (by simpa using h8)
          · exact g2 ⟨i, hi, by omega, h7, h8⟩
    · have : j = l.length := by omega
      subst this
      refine ⟨v12, by simp [ltInt_dec], id, ?_⟩
      rintro ⟨i, hi, h6, _⟩
      omega
theorem l6_l4 (M : Nat) : f3_l6 N M = f3_l4 N M := rfl
end Go.Proofs.Ythpplekbeecdfaa.Gb

open Go Go.Proofs.Ythpplekbeecdfaa.Ai Go.Proofs
namespace Go.Proofs.Ythpplekbeecdfaa.Gb
variable {N : Nat} {s v5 v9 : SL} {ss : List SL} {d : List (List Int)} {l : List Int} {h : Heap}
theorem l3_spec (hr : Rows h v5 ss d) (hf : Fine d) (hl9 : Ints h v9 l) (hll : l.length ≤ 64) (hN : 1000001 ≤ N) (hin : ∀ x ∈ l, 0 ≤ x ∧ x < d.length) (hsort : l.Pairwise (· < ·)) (hall : ∀ y ∈ l, ∀ x ∈ d.getD y.toNat [], x ∈ l)
    {n : Int} (hn0 : 0 ≤ n) (hn1 : n < d.length) (hfrom : ∀ k, ∀ hk : k < l.length, l[k] ∈ d.getD n.toNat [] ∨ ∃ i, ∃ hi : i < l.length, i ≠ k ∧ l[k] ∈ d.getD l[i].toNat []) (v4 : Bool) : ∀ (M k : Nat), k ≤ l.length → l.length - k < M →
    f3_l3 N M v4 v5 n v9 (k : Int) h = some (.exit 4, (v4, ()), h) := by
  intro M
  induction M with
  | zero => intro k h1 h2; omega
  | succ M ih =>
    intro k h1 h2
    rw [f3_l3_succ]
    unfold f3_l3_b
    by_cases hk : k < l.length
    · have ew : wrapA .i64 ((k : Int) + 1) = ((k + 1 : Nat) : Int) := wrapA_small (by omega) (by omega)
      have hy := hin _ (List.getElem_mem hk)
      have hnl : n.toNat < d.length := by omega
      have hrow := hr.row n.toNat hnl
      have hrl := hf.row n.toNat hnl
      have hgk := getD_lt l 0 hk
      obtain ⟨b, e4, g1, g2⟩ := l4_spec (N := N) hr hf hl9 hll hN hin hk hall v4 n N 0 (decide (l[k] ∈ d.getD n.toNat [])) (by omega) (by omega)
      have hb : b = true := by
        rcases hfrom k hk with h3 | ⟨i, hi, h3, h4⟩
        · exact g1 (by simpa using h3)
        · exact g2 ⟨i, hi, by omega, h3, h4⟩
      subst hb
      simp only [Int.ofNat_zero] at e4
      have e6 : f3_l6 N N v4 v5 n v9 (k : Int) (decide (l[k] ∈ d.getD n.toNat [])) 0 h = some (.exit 6, (v4, v5, n, v9, (k : Int), true, ()), h) := e4
      have rx : ∀ (i : Nat) (hi : i < l.length) (K : Int → Option (Out × (Bool × Unit) × Heap)), (ixK v9.a l.length (i : Int) 1 fun q => bindV (.val (.one (.int .i64))) (h.cell q) K) = K l[i] := fun i hi K => by
        have := hl9.int (x := (i : Int)) (by omega) (by omega) K
        rw [Ints.len hl9] at this
        rw [this]; simp only [Int.toNat_natCast, getD_lt l 0 hi]
      have rn : ∀ (K : SL → Option (Out × (Bool × Unit) × Heap)), (ixK v5.a d.length n 1 fun q => bindV (.val (.one .slice)) (h.cell q) K) = K (ss.getD n.toNat nilS) := fun K => by
        have := row_int hr hn0 hn1 K
        rw [hr.slen] at this; exact this
      have rk := rx k hk
      simp only [Ints.len hl9, hr.slen, ltInt_dec, leInt_dec, Int.ofNat_eq_natCast, Int.ofNat_lt, hk, decide_true, cond_true, rk, show ¬ l[k] < 0 by omega, show ¬ (d.length : Int) ≤ l[k] by omega, decide_false, cond_false]
      by_cases hk0 : 0 < k
      · have ew1 : wrapA .i64 ((k : Int) - 1) = ((k - 1 : Nat) : Int) := by rw [wrapA_small (by omega) (by omega)]; omega
        have hs : l[k - 1] < l[k] := List.pairwise_iff_getElem.1 hsort (k - 1) k (by omega) hk (by omega)
        have rk1 := rx (k - 1) (by omega)
        simp only [show (0 : Int) < (k : Int) by omega, decide_true, cond_true, ew1, rk1, show ¬ l[k] ≤ l[k - 1] by omega, decide_false, cond_false, rn, has_spec hrow hN (by omega), bind2_some, e4, bind3_some, eqOut_exit, Bool.not_true, ew]
        exact ih (k + 1) (by omega) (by omega)
      · simp only [show ¬ (0 : Int) < (k : Int) by omega, decide_false, cond_false, rn, has_spec hrow hN (by omega), bind2_some, e6, bind3_some, eqOut_exit, decide_true, cond_true, Bool.not_true, ew]
        exact ih (k + 1) (by omega) (by omega)
    · have : k = l.length := by omega
      subst this
      simp [ltInt_dec, Ints.len hl9]

theorem Reach.inr {i x : Int} (hf : Fine d) (hx : Reach d i x) : 0 ≤ x ∧ x < d.length := by
  have key : ∀ y : Int, ∀ x ∈ d.getD y.toNat [], 0 ≤ x ∧ x < d.length := by
    intro y x hx
    rcases Nat.lt_or_ge y.toNat d.length with h | h
    · exact hf.inr _ h x hx
    · rw [List.getD_eq_getElem?_getD, List.getElem?_eq_none h] at hx; simp at hx
  cases hx with
  | one h => exact key _ _ h
  | step _ h => exact key _ _ h
theorem Reach.other {i x : Int} (hx : Reach d i x) : x ∈ d.getD i.toNat [] ∨ ∃ y, Reach d i y ∧ y ≠ x ∧ x ∈ d.getD y.toNat [] := by
  induction hx with
  | one h => exact .inl h
  | @step y k h1 h2 ih =>
    by_cases he : y = k
    · subst he; exact ih
    · exact .inr ⟨y, h1, he, h2⟩
theorem conv_rem {m : Nat} (hm : 0 < m) (h1 : m < 1000) (x : Int) : binInt .rem .u64 (wrapA .u64 x) (wrapA .u64 (m : Int)) = some (.int .u64 (conv m x)) ∧ wrapA .i64 (conv m x) = conv m x := by
  rw [wrap_small m h1]; exact rem_conv hm h1 x
theorem below_law (hr : RowsB h.next h s ss d) (i : Int) : ∃ h', f3 2000000 s i h = some (true, h') := by
  rcases fit_spec (N := 2000000) hr (by omega) with ⟨s', h1, ss', e1, k1, r1, hl⟩ | ⟨s', h1, e1⟩
  · have hlen : (fitL d (mOf d)).length = mOf d := fitL_len (by unfold mOf; omega)
    generalize hdd : fitL d (mOf d) = dd at *
    have hsl : s'.len = dd.length := r1.r.slen
    by_cases h0 : dd.length = 0
    · refine ⟨h1, ?_⟩
      simp [f3, e1, hsl, h0, eqInt_dec, f11]
    · by_cases h64 : dd.length ≤ 64
      · rcases l1_spec (N := 2000000) r1.r h64 i false 2000000 0 (by omega) (by omega) with ⟨e2, hrows⟩ | e2
        · have hf : Fine dd := by
            refine ⟨h64, fun i hi => hrows i (by omega) hi, fun i hi x hx => ?_⟩
            rw [← hdd] at hx
            unfold fitL at hx
            rw [getD_lt _ _ (by rw [List.length_map, List.length_take]; have : mOf d ≤ d.length := by (unfold mOf; omega)
                                omega)] at hx
            simp only [List.getElem_map, List.mem_map] at hx
            obtain ⟨y, _, rfl⟩ := hx
            rw [hlen]
            exact conv_in (by omega) y
          obtain ⟨c1, c2⟩ := conv_rem (m := dd.length) (by omega) (by omega) i
          have hc := conv_in (m := dd.length) (by omega) i
          obtain ⟨s2, h2, l, e3, k2, o2, hll, hsort, hmem⟩ := Below_spec (N := 2000000) r1 hf (by omega) hc.1 hc.2
          have r2 := r1.keep k2
          have hl9 : Ints h2 s2 l := o2.one
          have hin : ∀ x ∈ l, 0 ≤ x ∧ x < dd.length := fun x hx => ⟨((hmem x).1 hx).1, ((hmem x).1 hx).2.1⟩
          have hall1 : ∀ x ∈ dd.getD (conv dd.length i).toNat [], x ∈ l := fun x hx => by
            have hr := Reach.one (ll := dd) (i := conv dd.length i) hx
            exact (hmem x).2 ⟨(hr.inr hf).1, (hr.inr hf).2, hr⟩
          have hall : ∀ y ∈ l, ∀ x ∈ dd.getD y.toNat [], x ∈ l := fun y hy x hx => by
            have hr := Reach.step ((hmem y).1 hy).2.2 hx
            exact (hmem x).2 ⟨(hr.inr hf).1, (hr.inr hf).2, hr⟩
          have hfrom : ∀ k, ∀ hk : k < l.length, l[k] ∈ dd.getD (conv dd.length i).toNat [] ∨ ∃ i, ∃ hi : i < l.length, i ≠ k ∧ l[k] ∈ dd.getD l[i].toNat [] := by
            intro k hk
            rcases Reach.other ((hmem l[k]).1 (List.getElem_mem hk)).2.2 with h3 | ⟨y, h3, h4, h5⟩
            · exact .inl h3
            · have hy : y ∈ l := (hmem y).2 ⟨(h3.inr hf).1, (h3.inr hf).2, h3⟩
              obtain ⟨j, hj, rfl⟩ := List.mem_iff_getElem.1 hy
              exact .inr ⟨j, hj, fun e => h4 (by subst e; rfl), h5⟩
          have e4 := l2_spec (N := 2000000) r2.r hf hl9 hll (by omega) hc.1 hc.2 hall1 false 2000000 0 (by omega) (by have := hf.row (conv dd.length i).toNat (by omega); omega)
          have e5 := l3_spec (N := 2000000) r2.r hf hl9 hll (by omega) hin hsort hall hc.1 hc.2 hfrom false 2000000 0 (by omega) (by omega)
          simp only [Int.ofNat_zero] at e2 e4 e5
          refine ⟨h2, ?_⟩
          have hne : ¬ ((dd.length : Int) = 0) := by omega
          have hn64 : ¬ ((64 : Int) < (dd.length : Int)) := by omega
          simp [f3, e1, hsl, hne, hn64, eqInt_dec, ltInt_dec, f11, e2, c1, c2, e3, e4, e5, h0]
        · simp only [Int.ofNat_zero] at e2
          refine ⟨h1, ?_⟩
          have hne : ¬ ((dd.length : Int) = 0) := by omega
          have hn64 : ¬ ((64 : Int) < (dd.length : Int)) := by omega
          simp [f3, e1, hsl, hne, hn64, eqInt_dec, ltInt_dec, f11, e2, h0]
      · refine ⟨h1, ?_⟩
        have hne : ¬ ((dd.length : Int) = 0) := by omega
        have hn64 : (64 : Int) < (dd.length : Int) := by omega
        simp [f3, e1, hsl, hne, hn64, eqInt_dec, ltInt_dec, f11, h0]
  · refine ⟨h1, ?_⟩
    simp [f3, e1, f11]

/-! the arguments -/
theorem undP3 : Try.prog.underlying 3 = some (.int .i64) := by kernel_rfl
theorem undP26 : Try.prog.underlying 26 = some (.slice 3) := by kernel_rfl
theorem undP22 : Try.prog.underlying 22 = some (.slice 26) := by kernel_rfl
theorem rows_of {H : Type} {h : Heap} {vs : List AV} {dd : DataW H} (hx : Rd Try.prog h 22 vs dd) : ∃ (s : SL) (ss : List SL) (d : List (List Int)), vs = [.slice s.a s.len s.cap s.sz] ∧ RowsB h.next h s ss d := by
  have hc3 : Try.prog.cellsOf 3 = 1 := by kernel_rfl
  have hc26 : Try.prog.cellsOf 26 = 1 := by kernel_rfl
  obtain ⟨s, ass, rfl, h1, h2, h3, h4, h5⟩ := Rd.sees undP22 (fun a d hd => by
    obtain ⟨s, l, rfl, _⟩ := Rd.ints undP26 undP3 hc3 hd
    exact hc26.symm) hx
  obtain ⟨bs, h6, h7⟩ := flat_of (fun x : { p : SL × List Int // Ints h p.1 p.2 } => SL.av x.1.1) ass fun i a ha => by
    obtain ⟨d, hd⟩ := h5 i a ha
    obtain ⟨s1, l1, rfl, k1, k2, k3, k4, _⟩ := Rd.ints undP26 undP3 hc3 hd
    exact ⟨⟨(s1, l1), by simp [k3], k1, k4⟩, rfl⟩
  refine ⟨s, bs.map (·.1.1), bs.map (·.1.2), rfl, ⟨⟨⟨by simp; omega, by rw [← hc26]; exact h3, by rw [List.map_map]; exact h6 ▸ h4⟩, by simp, fun i hi => ?_⟩, h4.under, fun i hi => ?_⟩⟩
  · have hi' : i < bs.length := by simpa using hi
    rw [getD_lt _ _ (by simpa using hi), getD_lt _ _ hi]
    simp only [List.getElem_map]
    exact bs[i].2
  · have hi' : i < bs.length := by simpa using hi
    rw [getD_lt _ _ (by simpa using hi)]
    simp only [List.getElem_map]
    exact bs[i].2.2.2.under
theorem below_true {H : Type} (h : Heap) (vs : List AV) (ds : List (DataW H)) (hr : RdArgs Try.prog h [22, 3] vs ds) : ∃ xs : vdens [.one .slice, .one (.int .i64)], ∃ h', VTy.tos _ xs = vs ∧ (fun (x : vdens [.one .slice, .one (.int .i64)]) h => f3 2000000 x.1 x.2.1 h) xs h = some (true, h') := by
  obtain ⟨c0, d0, _, _, rfl, rfl, r0, hr⟩ := hr.cons_inv
  obtain ⟨c1, d1, _, _, rfl, rfl, r1, hr⟩ := hr.cons_inv
  obtain ⟨rfl, rfl⟩ := hr.nil_inv
  obtain ⟨s, ss, d, rfl, hrow⟩ := rows_of r0
  obtain ⟨n1, rfl, _⟩ := Rd.int_inv undP3 r1
  obtain ⟨h', e⟩ := below_law hrow n1
  refine ⟨(s, n1, ()), h', ?_, e⟩
  simp [VTy.tos, VTy.to, CTy.to, argOf, undP3, undP22]
end Go.Proofs.Ythpplekbeecdfaa.Gb

open Go Go.Proofs.Ythpplekbeecdfaa.Ai Go.Proofs
namespace Go.Proofs.Ythpplekbeecdfaa.Gb
/-! plain: orders -/
variable {ll : List (List Int)}
theorem countP_le {α : Type} {p q : α → Bool} : ∀ {l : List α}, (∀ x ∈ l, p x = true → q x = true) → l.countP p ≤ l.countP q
  | [], _ => Nat.le_refl _
  | x :: r, h => by
    have ih := countP_le (l := r) fun y hy => h y (by simp [hy])
    rw [List.countP_cons, List.countP_cons]
    have := h x (by simp)
    cases hp : p x <;> cases hq : q x <;> simp_all <;> omega
theorem countP_lt {α : Type} {p q : α → Bool} : ∀ {l : List α}, (∀ x ∈ l, p x = true → q x = true) → (∃ x ∈ l, q x = true ∧ p x = false) → l.countP p < l.countP q
  | [], _, h => by obtain ⟨x, hx, _⟩ := h; simp at hx
  | x :: r, h, he => by
    have hle := countP_le (l := r) fun y hy => h y (by simp [hy])
    rw [List.countP_cons, List.countP_cons]
    have hx := h x (by simp)
    obtain ⟨y, hy, h1, h2⟩ := he
    rcases List.mem_cons.1 hy with rfl | hy
    · simp [h1, h2]; omega
    · have := countP_lt (l := r) (fun y hy => h y (by simp [hy])) ⟨y, hy, h1, h2⟩
      cases hp : p x <;> cases hq : q x <;> simp_all <;> omega
theorem Reach.trans {i j k : Int} (h1 : Reach ll i j) (h2 : Reach ll j k) : Reach ll i k := by
  induction h2 with
  | one h => exact .step h1 h
  | step _ h ih => exact .step ih h
open Classical in
/-- how many things a thing needs -/
noncomputable def need' (ll : List (List Int)) (i : Int) : Nat := (List.range ll.length).countP fun (k : Nat) => decide (Reach ll i (k : Int))
def Acyclic (ll : List (List Int)) : Prop := ∀ i : Int, ¬ Reach ll i i
theorem need_lt (hf : Fine ll) (ha : Acyclic ll) {i k : Int} (hk : k ∈ ll.getD i.toNat []) : need' ll k < need' ll i := by
  have hr : Reach ll i k := .one hk
  have hin := hr.inr hf
  refine countP_lt (fun x _ hx => ?_) ⟨k.toNat, by simp; omega, ?_, ?_⟩
  · simp only [decide_eq_true_eq] at hx ⊢; exact hr.trans hx
  · rw [show ((k.toNat : Nat) : Int) = k by omega]; simpa using hr
  · rw [show ((k.toNat : Nat) : Int) = k by omega]; simpa using ha k
/-- is a thing ready? -/
def ready (ll : List (List Int)) (dn : List Bool) (i : Nat) : Bool := !dn.getD i false && (ll.getD i []).all fun k => dn.getD k.toNat false
theorem ready_exists (hf : Fine ll) (ha : Acyclic ll) (dn : List Bool) : ∀ (m i : Nat), need' ll (i : Int) ≤ m → i < ll.length → dn.getD i false = false → ∃ j, j < ll.length ∧ ready ll dn j = true := by
  intro m
  induction m with
  | zero =>
    intro i hm hi hd
    refine ⟨i, hi, ?_⟩
    simp only [ready, hd, Bool.not_false, Bool.true_and, List.all_eq_true]
    intro k hk
    have := need_lt hf ha (i := (i : Int)) (k := k) (by simpa using hk)
    omega
  | succ m ih =>
    intro i hm hi hd
    by_cases h : (ll.getD i []).all (fun k => dn.getD k.toNat false) = true
    · exact ⟨i, hi, by simp only [ready, hd, Bool.not_false, Bool.true_and, h]⟩
    · simp only [List.all_eq_true] at h
      have ⟨k, hk⟩ := Classical.not_forall.1 h
      have ⟨hk1, hk2⟩ := Classical.not_imp.1 hk
      have hin := hf.inr i hi k hk1
      have := need_lt hf ha (i := (i : Int)) (k := k) (by simpa using hk1)
      refine ih k.toNat (by rw [show ((k.toNat : Nat) : Int) = k by omega]; omega) (by omega) (by simpa using hk2)
/-- the least that is ready, from 'i' on -/
def pick (ll : List (List Int)) (dn : List Bool) : Nat → Nat → Option Nat
  | 0, _ => none
  | m + 1, i => if ready ll dn i then some i else pick ll dn m (i + 1)
theorem pick_some (dn : List Bool) : ∀ (m i j : Nat), pick ll dn m i = some j → i ≤ j ∧ j < i + m ∧ ready ll dn j = true
  | 0, i, j, h => by cases h
  | m + 1, i, j, h => by
    simp only [pick] at h
    split at h
    · simp at h; subst h; exact ⟨Nat.le_refl _, by omega, by assumption⟩
    · have := pick_some dn m (i + 1) j h; exact ⟨by omega, by omega, this.2.2⟩
theorem pick_ex (dn : List Bool) : ∀ (m i j : Nat), i ≤ j → j < i + m → ready ll dn j = true → ∃ j', pick ll dn m i = some j'
  | 0, i, j, h1, h2, _ => by omega
  | m + 1, i, j, h1, h2, h3 => by
    simp only [pick]
    split
    · exact ⟨i, rfl⟩
    · rename_i hn
      have : i ≠ j := fun e => hn (e ▸ h3)
      exact pick_ex dn m (i + 1) j (by omega) (by omega) h3
/-- a list in which each thing stands behind what it needs -/
structure Topo (ll : List (List Int)) (dn : List Bool) (out : List Int) : Prop where
  len : dn.length = ll.length
  cnt : dn.count true = out.length
  mem : ∀ x, x ∈ out ↔ 0 ≤ x ∧ x < ll.length ∧ dn.getD x.toNat false = true
  nod : ∀ i, ∀ hi : i < out.length, out[i] ∉ out.take i
  dep : ∀ i, ∀ hi : i < out.length, ∀ k ∈ ll.getD (out[i]).toNat [], k ∈ out.take i
theorem Topo.start : Topo ll (List.replicate ll.length false) [] := by
  have hno : ∀ k, (List.replicate ll.length false).getD k false = false := by
    intro k
    simp [List.getD_eq_getElem?_getD, List.getElem?_replicate]
    split <;> rfl
  refine ⟨by simp, by rw [count_rep]; rfl, fun x => ?_, fun i hi => by simp at hi, fun i hi => by simp at hi⟩
  rw [hno]; simp
theorem Topo.next (hf : Fine ll) {dn : List Bool} {out : List Int} (ht : Topo ll dn out) {j : Nat} (hj : j < ll.length) (hr : ready ll dn j = true) : Topo ll (dn.set j true) (out ++ [(j : Int)]) := by
  simp only [ready, Bool.and_eq_true, Bool.not_eq_true', List.all_eq_true] at hr
  have hjd : j < dn.length := by rw [ht.len]; exact hj
  refine ⟨by simp [ht.len], by rw [count_set_b _ _ hjd hr.1, ht.cnt]; simp, fun x => ?_, fun i hi => ?_, fun i hi k hk => ?_⟩
  · rw [List.mem_append, ht.mem, getD_set_b _ _ _ hjd]
    simp only [List.mem_singleton]
    constructor
    · rintro (⟨h1, h2, h3⟩ | rfl)
      · exact ⟨h1, h2, .inl h3⟩
      · exact ⟨by omega, by omega, .inr (by simp)⟩
    · rintro ⟨h1, h2, h3 | h3⟩
      · exact .inl ⟨h1, h2, h3⟩
      · right; omega
  · by_cases hi' : i < out.length
    · rw [List.getElem_append_left hi', List.take_append_of_le_length (by omega)]
      exact ht.nod i hi'
    · have : i = out.length := by simp at hi; omega
      subst this
      rw [List.getElem_append_right (Nat.le_refl _), List.take_left' rfl]
      simp only [Nat.sub_self, List.getElem_cons_zero]
      intro hm
      have := ((ht.mem _).1 hm).2.2
      simp only [Int.toNat_natCast] at this
      rw [hr.1] at this; cases this
  · by_cases hi' : i < out.length
    · rw [List.getElem_append_left hi'] at hk
      rw [List.take_append_of_le_length (by omega)]
      exact ht.dep i hi' k hk
    · have : i = out.length := by simp at hi; omega
      subst this
      rw [List.getElem_append_right (Nat.le_refl _)] at hk
      rw [List.take_left' rfl]
      simp only [Nat.sub_self, List.getElem_cons_zero, Int.toNat_natCast] at hk
      have hin := hf.inr j hj k hk
      exact (ht.mem k).2 ⟨hin.1, hin.2, hr.2 k hk⟩
/-- as long as something is left, something is ready -/
theorem Topo.more (hf : Fine ll) (ha : Acyclic ll) {dn : List Bool} {out : List Int} (ht : Topo ll dn out) (hlt : out.length < ll.length) : ∃ j, pick ll dn ll.length 0 = some j ∧ j < ll.length ∧ ready ll dn j = true := by
  have : ∃ i, i < ll.length ∧ dn.getD i false = false := by
    apply Classical.byContradiction
    intro hno
    have hall : ∀ b ∈ dn, true = b := by
      intro b hb
      obtain ⟨i, hi, rfl⟩ := List.mem_iff_getElem.1 hb
      have h1 : ¬ dn.getD i false = false := fun e => hno ⟨i, by rw [← ht.len]; exact hi, e⟩
      rw [getD_lt _ _ hi] at h1
      simpa using h1
    have := List.count_eq_length.2 hall
    rw [ht.cnt, ht.len] at this
    omega
  obtain ⟨i, hi, hd⟩ := this
  obtain ⟨j, hj, hr⟩ := ready_exists hf ha dn _ i (Nat.le_refl _) hi hd
  obtain ⟨j', hj'⟩ := pick_ex dn ll.length 0 j (Nat.zero_le _) (by omega) hr
  have := pick_some dn ll.length 0 j' hj'
  exact ⟨j', hj', by omega, this.2.2⟩
end Go.Proofs.Ythpplekbeecdfaa.Gb

open Go Go.Proofs.Ythpplekbeecdfaa.Ai Go.Proofs
namespace Go.Proofs.Ythpplekbeecdfaa.Gb
variable {N : Nat} {s : SL} {l : List Int} {ss : List SL} {ll : List (List Int)} {B : Nat} {h0 : Heap}
theorem RowsB.mono {C : Nat} {h : Heap} (hl : B ≤ C) (hr : RowsB B h s ss ll) : RowsB C h s ss ll :=
  ⟨hr.r, fun A off ha => Nat.lt_of_lt_of_le (hr.u A off ha) hl, fun i hi A off ha => Nat.lt_of_lt_of_le (hr.ru i hi A off ha) hl⟩
theorem nat_i {n i : Nat} : ltInt (i : Int) (n : Int) = decide (i < n) := by rw [ltInt_dec]; simp
theorem ringed_loop (hf : Fine ll) (hN : 1000 ≤ N) : ∀ (M i : Nat) (h : Heap), i ≤ ll.length → ll.length - i < M → RowsB B h s ss ll → B ≤ h.next → (∀ j : Nat, j < i → ¬ Reach ll (j : Int) (j : Int)) →
    (∃ h', f43_l1 N M s 0 (ll.length : Int) (i : Int) h = some (.exit 0, (0, ()), h') ∧ Keep B h h' ∧ ∀ j : Nat, j < ll.length → ¬ Reach ll (j : Int) (j : Int)) ∨
    (∃ (h' : Heap) (j : Nat), f43_l1 N M s 0 (ll.length : Int) (i : Int) h = some (.ret, ((j : Int), ()), h') ∧ Keep B h h' ∧ j < ll.length ∧ Reach ll (j : Int) (j : Int) ∧ ∀ k : Nat, k < j → ¬ Reach ll (k : Int) (k : Int)) := by
  intro M
  induction M with
  | zero => intro i h h1 h2; omega
  | succ M ih =>
    intro i h h1 h2 hr hb hno
    rw [f43_l1_succ]
    unfold f43_l1_b
    have hlen := hf.len
    by_cases hi : i < ll.length
    · have ew : wrapA .i64 ((i : Int) + 1) = ((i + 1 : Nat) : Int) := wrapA_small (by omega) (by omega)
      obtain ⟨s', h', seen, e1, k1, o1, hl, hs⟩ := below_spec (N := N) (hr.mono hb) hf hN (i := (i : Int)) (by omega) (by omega)
      have hg := getD_lt seen false (n := i) (by omega)
      have hb1 := o1.one.bool (β := Out × (Int × Unit) × Heap) (x := (i : Int)) (by omega) (by omega)
      simp only [nat_i, hi, decide_true, cond_true, e1, bind2_some]
      rw [hb1]
      simp only [Int.toNat_natCast]
      cases hsn : seen.getD i false with
      | true =>
        refine .inr ⟨h', i, rfl, k1.mono hb, hi, (hs i hi).1 hsn, hno⟩
      | false =>
        simp only [cond_false, ew]
        have hni : ¬ Reach ll (i : Int) (i : Int) := fun e => by rw [(hs i hi).2 e] at hsn; cases hsn
        rcases ih (i + 1) h' (by omega) (by omega) (hr.keep (k1.mono hb)) (by have := k1.next; omega) (fun j hj => by
          by_cases hji : j = i
          · subst hji; exact hni
          · exact hno j (by omega)) with ⟨h2, e, k, hx⟩ | ⟨h2, j, e, k, hx⟩
        · exact .inl ⟨h2, e, (k1.mono hb).trans k, hx⟩
        · exact .inr ⟨h2, j, e, (k1.mono hb).trans k, hx⟩
    · have : i = ll.length := by omega
      subst this
      exact .inl ⟨h, by simp [nat_i], Keep.refl _ _, hno⟩
theorem acyclic_of (hf : Fine ll) (h : ∀ j : Nat, j < ll.length → ¬ Reach ll (j : Int) (j : Int)) : Acyclic ll := by
  intro i hi
  have hin := hi.inr hf
  apply h i.toNat (by omega)
  rw [show ((i.toNat : Nat) : Int) = i by omega]; exact hi
/-- an error of the program's -/
def isErr (h : Heap) (v : AV) (code at' : Int) : Prop := ∃ A, v = .iface 69 (.ptr (some (A, 0))) ∧ A < h.next ∧ h.g A = some (.row [.int .i64 code, .int .i64 at', .iface 71 (.int .i64 code)] .own)
theorem isErr.keep {h h' : Heap} (hk : Keep h.next h h') {v : AV} {c a : Int} (hx : isErr h v c a) : isErr h' v c a := by
  obtain ⟨A, h1, h2, h3⟩ := hx
  exact ⟨A, h1, Nat.lt_of_lt_of_le h2 hk.next, by rw [hk.g A h2]; exact h3⟩
theorem nn7 : binA E .neq 32 (.tmp 7) (.const .nilIface) AV.nilIface AV.nilIface = some (.bool false) := by kernel_rfl
/-- which error an order has: none, where there is no ring -/
theorem check_spec {h : Heap} (hf : Fine ll) (hN : 1000 ≤ N) (hr : RowsB B h s ss ll) (hb : B ≤ h.next) :
    (∃ h', f40 N s h = some (.nilIface, h') ∧ Keep B h h' ∧ Acyclic ll) ∨
    (∃ (h' : Heap) (v : AV) (j : Nat), f40 N s h = some (v, h') ∧ Keep B h h' ∧ isErr h' v 42 j ∧ j < ll.length ∧ Reach ll (j : Int) (j : Int) ∧ ∀ k : Nat, k < j → ¬ Reach ll (k : Int) (k : Int)) := by
  have hm := may_spec (N := N) hr.r hf (by omega)
  have hlen := hf.len
  rcases ringed_loop (N := N) hf hN N 0 h (by omega) (by omega) hr hb (fun j hj => by omega) with ⟨h', e, k, ha⟩ | ⟨h', j, e, k, h1, h2, h3⟩
  · left
    simp only [Int.ofNat_zero] at e
    refine ⟨h', ?_, k, acyclic_of hf ha⟩
    simp [f40, hm, nn7, f43, hr.r.slen, e, leInt_dec]
  · right
    simp only [Int.ofNat_zero] at e
    refine ⟨h'.push (.row [.int .i64 42, .int .i64 j, .iface 71 (.int .i64 42)] .own), .iface 69 (.ptr (some (h'.next, 0))), j, ?_, k.trans ((Keep.refl _ _).push (by have := k.next; omega) _), ⟨h'.next, rfl, by simp, g_push_eq _ rfl⟩, h1, h2, h3⟩
    simp [f40, hm, nn7, f43, hr.r.slen, e, leInt_dec, f46, eqInt_dec]
def stL (dn : List Bool) : List Int := dn.map fun b => if b then 2 else 0
theorem stL_get (dn : List Bool) {k : Nat} (hk : k < dn.length) : (stL dn).getD k 0 = if dn.getD k false then 2 else 0 := by
  rw [getD_lt _ _ (by simpa [stL] using hk), getD_lt _ _ hk]; simp [stL]
theorem stL_set (dn : List Bool) (k : Nat) : stL (dn.set k true) = (stL dn).set k 2 := by simp [stL, List.map_set]
theorem scan3 {h : Heap} (hs : Ints h s l) (hl : l.length ≤ 1000) {sv : SL} {dn : List Bool} (hst : Own1 B h sv ((stL dn).map (AV.int .i64))) (hin : ∀ x ∈ l, 0 ≤ x ∧ x < dn.length) (v0 v6 v26 : SL) (v7 v27 v28 : Int) : ∀ (M i : Nat) (v9 : Int), i ≤ l.length → l.length - i < M →
    f14_l3 N M v0 sv v6 v7 v9 v26 v27 v28 s (l.length : Int) (i : Int) h = some (.exit 4, (v0, sv, v6, v7, (if (l.drop i).all (fun k => dn.getD k.toNat false) then v9 else 0), v26, v27, v28, ()), h) := by
  intro M
  induction M with
  | zero => intro i v9 h1 h2; omega
  | succ M ih =>
    intro i v9 h1 h2
    rw [f14_l3_succ]
    unfold f14_l3_b
    by_cases hi : i < l.length
    · have ew : wrapA .i64 ((i : Int) + 1) = ((i + 1 : Nat) : Int) := wrapA_small (by omega) (by omega)
      have hd : l.drop i = l[i] :: l.drop (i + 1) := List.drop_eq_getElem_cons hi
      have hg := getD_lt l 0 hi
      have hx := hin l[i] (List.getElem_mem hi)
      have hsl : (stL dn).length = dn.length := by simp [stL]
      rw [hs.int (x := (i : Int)) (by omega) (by omega)]
      simp only [Int.toNat_natCast, hg]
      rw [hst.one.int (x := l[i]) (by omega) (by omega)]
      simp only [nat_i, hi, decide_true, cond_true, stL_get dn (show l[i].toNat < dn.length by omega), eqInt_dec, hd, List.all_cons, ew]
      cases hb : dn.getD l[i].toNat false with
      | true =>
        simp only [if_true, decide_true, Bool.not_true, cond_false, Bool.true_and]
        exact ih (i + 1) v9 (by omega) (by omega)
      | false =>
        simp only [Bool.false_and, Bool.false_eq_true, if_false, show ¬ ((0 : Int) = 2) by omega, decide_false, Bool.not_false, cond_true]
        have := ih (i + 1) 0 (by omega) (by omega)
        rw [this]; simp
    · have : i = l.length := by omega
      subst this
      simp [nat_i]
/-- the state of the search for an order -/
structure Ost (B : Nat) (h0 h : Heap) (sv ov : SL) (dn : List Bool) (out : List Int) : Prop where
  k : Keep B h0 h
  b0 : B ≤ h0.next
  s : Own1 B h sv ((stL dn).map (AV.int .i64))
  o : Own1 B h ov (out.map (AV.int .i64))
  ne : ∀ A, sv.blk = some A → ov.blk ≠ some A
theorem scan2 (hr : RowsB B h0 s ss ll) (hf : Fine ll) (hN : 1000 ≤ N) {sv ov : SL} {dn : List Bool} {out : List Int} {h : Heap} (hdl : dn.length = ll.length) (hol : out.length ≤ 64) (ho : Ost B h0 h sv ov dn out) : ∀ (M i : Nat), i ≤ ll.length → ll.length - i < M →
    ∃ ov' h', f14_l2 N M s sv ov s (ll.length : Int) (i : Int) h = some (.exit 2, (s, sv, ov', ()), h') ∧
      (match pick ll dn (ll.length - i) i with | some j => Ost B h0 h' sv ov' (dn.set j true) (out ++ [(j : Int)]) | none => Ost B h0 h' sv ov' dn out) := by
  intro M
  induction M with
  | zero => intro i h1 h2; omega
  | succ M ih =>
    intro i h1 h2
    rw [f14_l2_succ]
    unfold f14_l2_b
    have hlen := hf.len
    by_cases hi : i < ll.length
    · have ew : wrapA .i64 ((i : Int) + 1) = ((i + 1 : Nat) : Int) := wrapA_small (by omega) (by omega)
      have hrk := hr.keep ho.k
      have hrow := hrk.r.row i hi
      have hrl := hf.row i hi
      have hp : pick ll dn (ll.length - i) i = if ready ll dn i then some i else pick ll dn (ll.length - (i + 1)) (i + 1) := by
        rw [show ll.length - i = (ll.length - (i + 1)) + 1 by omega]; rfl
      have hsl : (stL dn).length = dn.length := by simp [stL]
      rw [hrk.r.top.sl (x := (i : Int)) (by omega) (by rw [hrk.r.len]; omega)]
      have e3 := scan3 (N := N) hrow (by omega) ho.s (fun x hx => by rw [hdl]; exact hf.inr i hi x hx) s ov s (i : Int) (ll.length : Int) (i : Int) N 0 1 (by omega) (by omega)
      simp only [List.drop_zero, Int.ofNat_zero] at e3
      simp only [nat_i, hi, decide_true, cond_true, Int.toNat_natCast, Ints.len hrow, Int.ofNat_eq_natCast, e3, bind3_some]
      rw [ho.s.one.int (x := (i : Int)) (by omega) (by omega)]
      simp only [Int.toNat_natCast, stL_get dn (show i < dn.length by omega), eqInt_dec, ew, hp]
      cases hd : dn.getD i false with
      | true =>
        have hrd : ready ll dn i = false := by simp only [ready, hd, Bool.not_true, Bool.false_and]
        simp only [if_true, decide_true, cond_true, hrd, Bool.false_eq_true, if_false]
        exact ih (i + 1) (by omega) (by omega)
      | false =>
        have hrd : ready ll dn i = (ll.getD i []).all fun k => dn.getD k.toNat false := by simp only [ready, hd, Bool.not_false, Bool.true_and]
        simp only [Bool.false_eq_true, if_false, show ¬ ((0 : Int) = 2) by omega, decide_false, cond_false, hrd]
        cases hall : (ll.getD i []).all (fun k => dn.getD k.toNat false) with
        | false =>
          simp only [Bool.false_eq_true, if_false, show ¬ ((0 : Int) = 1) by omega, decide_false, cond_false]
          exact ih (i + 1) (by omega) (by omega)
        | true =>
          simp only [if_true, decide_true, cond_true]
          have hnx := ho.k.next
          have hb0 := ho.b0
          obtain ⟨ov', h1', e1, o1, b1, c1⟩ := append_own1 app26 (v := AV.int .i64 (i : Int)) rfl ho.o (by omega) (by simp; omega)
          rw [e1]
          simp only [bindT_some, cast_slice]
          have os := ho.s.but b1 (fun A hA e => ho.ne A hA e)
          have k1 : Keep B h h1' := b1.keep (by omega) (fun A hA => (ho.o.ge A hA).1)
          have hne : ∀ A, sv.blk = some A → ov'.blk ≠ some A := by
            intro A hA e
            rcases c1 with c1 | ⟨A', c1, c3⟩
            · exact ho.ne A hA (c1 ▸ e)
            · rw [c1] at e; cases e
              have := (ho.s.ge A hA).2; omega
          obtain ⟨h2', e2, o2, b2, n2⟩ := store_own1 os (i := i) (by simp; omega) (AV.int .i64 2)
          have k2 : Keep B h1' h2' := b2.keep (by have := k1.next; omega) (fun A hA => (os.ge A hA).1)
          rw [os.one.ixz (x := (i : Int)) (by omega) (by simp; omega)]
          simp only [Int.toNat_natCast, e2, need_some]
          refine ⟨ov', h2', rfl, ho.k.trans (k1.trans k2), hb0, ?_, ?_, hne⟩
          · rw [stL_set, List.map_set]; exact o2
          · rw [List.map_append]
            exact o1.but b2 (fun A hA e => hne A e hA)
    · have : i = ll.length := by omega
      subst this
      exact ⟨ov, h, by simp [nat_i], by simpa [pick] using ho⟩
end Go.Proofs.Ythpplekbeecdfaa.Gb

open Go Go.Proofs.Ythpplekbeecdfaa.Ai Go.Proofs
namespace Go.Proofs.Ythpplekbeecdfaa.Gb
variable {N : Nat} {s : SL} {l : List Int} {ss : List SL} {ll : List (List Int)} {B : Nat} {h0 : Heap}
theorem order_loop (hr : RowsB B h0 s ss ll) (hf : Fine ll) (ha : Acyclic ll) (hN : 1000 ≤ N) {sv : SL} : ∀ (M : Nat) (h : Heap) (ov : SL) (dn : List Bool) (out : List Int), out.length ≤ ll.length → ll.length - out.length < M → Ost B h0 h sv ov dn out → Topo ll dn out →
    ∃ ov' h' dn' out', f14_l1 N M s sv ov h = some (.exit 0, (ov', ()), h') ∧ Ost B h0 h' sv ov' dn' out' ∧ Topo ll dn' out' ∧ out'.length = ll.length := by
  intro M
  induction M with
  | zero => intro h ov dn out h1 h2; omega
  | succ M ih =>
    intro h ov dn out h1 h2 ho ht
    rw [f14_l1_succ]
    unfold f14_l1_b
    have hlen := hf.len
    have hol : ov.len = out.length := by have := ho.o.len; simpa using this
    by_cases hlt : out.length < ll.length
    · obtain ⟨ov1, h1', e1, hp⟩ := scan2 (N := N) hr hf hN ht.len (by omega) ho N 0 (by omega) (by omega)
      obtain ⟨j, hj1, hj2, hj3⟩ := ht.more hf ha hlt
      rw [Nat.sub_zero, hj1] at hp
      simp only [Int.ofNat_zero] at e1
      obtain ⟨ov2, h2', dn2, out2, e2, ho2, ht2, hl2⟩ := ih h1' ov1 (dn.set j true) (out ++ [(j : Int)]) (by simp; omega) (by simp; omega) hp (ht.next hf hj2 hj3)
      refine ⟨ov2, h2', dn2, out2, ?_, ho2, ht2, hl2⟩
      simp only [hol, hr.r.slen, Int.ofNat_eq_natCast, nat_i, hlt, decide_true, cond_true, e1, bind3_some]
      exact e2
    · refine ⟨ov, h, dn, out, ?_, ho, ht, by omega⟩
      simp only [hol, hr.r.slen, Int.ofNat_eq_natCast, nat_i, hlt, decide_false, cond_false]
theorem app26z : E.zero 3 = some (.int .i64 0) := by kernel_rfl
theorem stL_rep (n : Nat) : stL (List.replicate n false) = List.replicate n 0 := by simp [stL]
theorem nn15 : binA E .neq 32 (.tmp 15) (.const .nilIface) AV.nilIface AV.nilIface = some (.bool false) := by kernel_rfl
theorem nn15e (v : AV) : binA E .neq 32 (.tmp 15) (.const .nilIface) (.iface 69 v) AV.nilIface = some (.bool true) := by kernel_rfl
theorem nn16 : binA E .neq 32 (.tmp 16) (.const .nilIface) AV.nilIface AV.nilIface = some (.bool false) := by kernel_rfl
theorem nn16e (v : AV) : binA E .neq 32 (.tmp 16) (.const .nilIface) (.iface 69 v) AV.nilIface = some (.bool true) := by kernel_rfl
/-- an order that is whole -/
structure Whole (ll : List (List Int)) (out : List Int) : Prop where
  len : out.length = ll.length
  mem : ∀ x, x ∈ out ↔ 0 ≤ x ∧ x < ll.length
  nod : ∀ i, ∀ hi : i < out.length, out[i] ∉ out.take i
  dep : ∀ i, ∀ hi : i < out.length, ∀ k ∈ ll.getD (out[i]).toNat [], k ∈ out.take i
theorem Topo.whole {dn : List Bool} {out : List Int} (ht : Topo ll dn out) (hl : out.length = ll.length) : Whole ll out := by
  refine ⟨hl, fun x => ?_, ht.nod, ht.dep⟩
  rw [ht.mem]
  constructor
  · rintro ⟨h1, h2, _⟩; exact ⟨h1, h2⟩
  · rintro ⟨h1, h2⟩
    refine ⟨h1, h2, ?_⟩
    have hall := List.count_eq_length.1 (show dn.count true = dn.length by rw [ht.cnt, ht.len, hl])
    have hx : x.toNat < dn.length := by rw [ht.len]; omega
    rw [getD_lt _ _ hx]
    exact (hall _ (List.getElem_mem hx)).symm
/-- all things, each behind what it needs; an error, where there is a ring -/
theorem Order_spec {h : Heap} (hf : Fine ll) (hN : 1000 ≤ N) (hr : RowsB B h s ss ll) (hb : B ≤ h.next) :
    (∃ s' h' out, f14 N s h = some ((s', .nilIface, ()), h') ∧ Keep B h h' ∧ Own1 B h' s' (List.map (AV.int .i64) out) ∧ Acyclic ll ∧ Whole ll out) ∨
    (∃ (h' : Heap) (v : AV) (j : Nat), f14 N s h = some ((nilS, v, ()), h') ∧ Keep B h h' ∧ isErr h' v 42 j ∧ j < ll.length ∧ Reach ll (j : Int) (j : Int) ∧ ∀ k : Nat, k < j → ¬ Reach ll (k : Int) (k : Int)) := by
  have hlen := hf.len
  rcases check_spec (N := N) hf hN hr hb with ⟨h1, e1, k1, ha⟩ | ⟨h1, v, j, e1, k1, he, hx⟩
  · left
    have hnx := k1.next
    obtain ⟨m1, m2⟩ := make1 app26 (.int .i64 0) app26z rfl ll.length (by omega) h1
    have kb : Keep B h (h1.push (.row (List.replicate ll.length (.int .i64 0)) .own)) := k1.push hb _
    have hr1 : RowsB B (h1.push (.row (List.replicate ll.length (.int .i64 0)) .own)) s ss ll := hr.keep kb
    have ho : Ost B (h1.push (.row (List.replicate ll.length (.int .i64 0)) .own)) (h1.push (.row (List.replicate ll.length (.int .i64 0)) .own)) ⟨some (h1.next, 0), ll.length, ll.length, 1⟩ nilS (List.replicate ll.length false) [] := by
      refine ⟨Keep.refl _ _, by simp; omega, ?_, Own1.nil _ _ _, fun A hA => by simp [SL.blk]⟩
      rw [stL_rep, List.map_replicate]
      rcases m2 with ⟨h2, _⟩ | ⟨A, cs, st, h2, h3, h4, h5⟩
      · cases h2
      · exact .inr ⟨A, cs, st, h2, h3, by omega, h5⟩
    obtain ⟨ov, h2, dn, out, e2, ho2, ht2, hl2⟩ := order_loop (N := N) hr1 hf ha hN N _ nilS _ [] (by simp) (by simp; omega) ho Topo.start
    have e2' : f14_l1 N N s ⟨some (h1.next, 0), ll.length, ll.length, 1⟩ ⟨none, 0, 0, 0⟩ (h1.push (.row (List.replicate ll.length (.int .i64 0)) .own)) = some (.exit 0, (ov, ()), h2) := e2
    refine ⟨ov, h2, out, ?_, kb.trans ho2.k, ho2.o, ha, ht2.whole hl2⟩
    unfold f14
    simp only [e1, bind2_some, nn15, bindV_some, cast_bool, cond_false, hr.r.slen, Int.ofNat_eq_natCast, m1, bindT_some, cast_slice, e2', bind3_some]
  · right
    obtain ⟨A, rfl, he2⟩ := he
    refine ⟨h1, _, j, ?_, k1, ⟨A, rfl, he2⟩, hx⟩
    unfold f14
    simp only [e1, bind2_some, nn15e, bindV_some, cast_bool, cond_true]
/-! levels -/
def lvOf (lv : List Int) (r : List Int) : Int := r.foldl (fun a k => if a < lv.getD k.toNat 0 + 1 then lv.getD k.toNat 0 + 1 else a) 0
theorem foldl_lv (lv lv' : List Int) : ∀ (r : List Int) (a : Int), (∀ k ∈ r, lv'.getD k.toNat 0 = lv.getD k.toNat 0) → r.foldl (fun a k => if a < lv'.getD k.toNat 0 + 1 then lv'.getD k.toNat 0 + 1 else a) a = r.foldl (fun a k => if a < lv.getD k.toNat 0 + 1 then lv.getD k.toNat 0 + 1 else a) a
  | [], a, _ => rfl
  | k :: r, a, h => by simp only [List.foldl_cons, h k (by simp)]; exact foldl_lv lv lv' r _ fun x hx => h x (by simp [hx])
theorem foldl_b {lv : List Int} {b : Int} : ∀ (r : List Int) (a : Int), (∀ k ∈ r, lv.getD k.toNat 0 + 1 ≤ b) → 0 ≤ a → a ≤ b → 0 ≤ r.foldl (fun a k => if a < lv.getD k.toNat 0 + 1 then lv.getD k.toNat 0 + 1 else a) a ∧ r.foldl (fun a k => if a < lv.getD k.toNat 0 + 1 then lv.getD k.toNat 0 + 1 else a) a ≤ b
  | [], a, _, h1, h2 => ⟨h1, h2⟩
  | k :: r, a, h, h1, h2 => by
    simp only [List.foldl_cons]
    have := h k (by simp)
    exact foldl_b r _ (fun x hx => h x (by simp [hx])) (by split <;> omega) (by split <;> omega)
theorem set_get_ne (lv : List Int) {a k : Nat} (v : Int) (h : a ≠ k) : (lv.set a v).getD k 0 = lv.getD k 0 := by
  simp only [List.getD_eq_getElem?_getD, List.getElem?_set, h, if_false]
theorem set_get_eq (lv : List Int) {a : Nat} (v : Int) (h : a < lv.length) : (lv.set a v).getD a 0 = v := by
  simp [List.getD_eq_getElem?_getD, h]
/-- a row's part of a level -/
theorem lev_row {lv : List Int} {h : Heap} (hs : Ints h0 s l) (hu : s.under B) (hl : l.length ≤ 1000) (hb0 : B ≤ h0.next) {i : Int} (hi0 : 0 ≤ i) (hi1 : i < lv.length) (hni : ∀ k ∈ l, k ≠ i) (hin : ∀ k ∈ l, 0 ≤ k ∧ k < lv.length ∧ 0 ≤ lv.getD k.toNat 0 ∧ lv.getD k.toNat 0 ≤ 100000) (v0 v22 : SL) (v23 v24 : Int) {sv : SL} :
    ∀ (M j : Nat) (h : Heap) (a : Int), j ≤ l.length → l.length - j < M → Keep B h0 h → Own1 B h sv ((lv.set i.toNat a).map (AV.int .i64)) →
    ∃ h', f16_l2 N M v0 sv i v22 v23 v24 s (l.length : Int) (j : Int) h = some (.exit 2, (v0, sv, v22, v23, v24, ()), h') ∧ Keep B h0 h' ∧ Own1 B h' sv ((lv.set i.toNat ((l.drop j).foldl (fun a k => if a < lv.getD k.toNat 0 + 1 then lv.getD k.toNat 0 + 1 else a) a)).map (AV.int .i64)) := by
  intro M
  induction M with
  | zero => intro j h a h1 h2; omega
  | succ M ih =>
    intro j h a h1 h2 hk ho
    rw [f16_l2_succ]
    unfold f16_l2_b
    by_cases hj : j < l.length
    · have ew : wrapA .i64 ((j : Int) + 1) = ((j + 1 : Nat) : Int) := wrapA_small (by omega) (by omega)
      have hd : l.drop j = l[j] :: l.drop (j + 1) := List.drop_eq_getElem_cons hj
      have hg := getD_lt l 0 hj
      obtain ⟨x1, x2, x3, x4⟩ := hin l[j] (List.getElem_mem hj)
      have hne := hni l[j] (List.getElem_mem hj)
      have hlen : (lv.set i.toNat a).length = lv.length := by simp
      have hnx := hk.next
      rw [(One.keep hk hu hs).int (x := (j : Int)) (by omega) (by omega)]
      simp only [Int.toNat_natCast, hg]
      rw [ho.one.int (x := i) hi0 (by rw [hlen]; omega), ho.one.int (x := l[j]) x1 (by rw [hlen]; omega)]
      rw [set_get_eq lv a (show i.toNat < lv.length by omega), set_get_ne lv a (show i.toNat ≠ l[j].toNat by omega)]
      have ew2 : wrapA .i64 (lv.getD l[j].toNat 0 + 1) = lv.getD l[j].toNat 0 + 1 := wrapA_small (by omega) (by omega)
      have hmax : (bif ltInt a (lv.getD l[j].toNat 0 + 1) then lv.getD l[j].toNat 0 + 1 else a) = if a < lv.getD l[j].toNat 0 + 1 then lv.getD l[j].toNat 0 + 1 else a := by
        rw [ltInt_dec]; by_cases h : a < lv.getD l[j].toNat 0 + 1 <;> simp [h]
      obtain ⟨h1', e1, o1, b1, n1⟩ := store_own1 ho (i := i.toNat) (by simp; omega) (AV.int .i64 (if a < lv.getD l[j].toNat 0 + 1 then lv.getD l[j].toNat 0 + 1 else a))
      rw [ho.one.ixz (x := i) hi0 (by simp; omega)]
      simp only [nat_i, hj, decide_true, cond_true, ew2, hmax, e1, need_some, ew, hd, List.foldl_cons]
      refine ih (j + 1) h1' _ (by omega) (by omega) (hk.trans (b1.keep (by omega) (fun A hA => (ho.ge A hA).1))) ?_
      rw [← List.map_set, List.set_set] at o1
      exact o1
    · have : j = l.length := by omega
      subst this
      exact ⟨h, by simp [nat_i], hk, by simpa using ho⟩
end Go.Proofs.Ythpplekbeecdfaa.Gb

open Go Go.Proofs.Ythpplekbeecdfaa.Ai Go.Proofs
namespace Go.Proofs.Ythpplekbeecdfaa.Gb
variable {N : Nat} {s : SL} {l : List Int} {ss : List SL} {ll : List (List Int)} {B : Nat} {h0 : Heap}
/-! needs of any kind: which are refused -/
def errV (h : Heap) : AV := .iface 69 (.ptr (some (h.next, 0)))
def errH (h : Heap) (c a : Int) : Heap := h.push (.row [.int .i64 c, .int .i64 a, .iface 71 (.int .i64 c)] .own)
theorem f46_2 (a : Int) (h : Heap) : f46 N 2 a h = some (errV h, errH h 2 a) := rfl
theorem f46_5 (a : Int) (h : Heap) : f46 N 5 a h = some (errV h, errH h 5 a) := rfl
theorem f46_13 (a : Int) (h : Heap) : f46 N 13 a h = some (errV h, errH h 13 a) := rfl
theorem isErr_of (h : Heap) (c a : Int) : isErr (errH h c a) (errV h) c a := ⟨h.next, rfl, by simp [errH], g_push_eq _ rfl⟩
/-- the first place where something holds -/
def fstI {α : Type} (p : α → Bool) : Nat → List α → Option Nat
  | _, [] => none
  | i, x :: r => if p x then some i else fstI p (i + 1) r
theorem fstI_none {α : Type} {p : α → Bool} : ∀ {r : List α} {i : Nat}, fstI p i r = none ↔ ∀ x ∈ r, p x = false
  | [], i => by simp [fstI]
  | x :: r, i => by
    simp only [fstI]
    cases hx : p x with
    | true => simp [hx]
    | false => simp [hx, fstI_none (r := r) (i := i + 1)]
def rowBad (n : Nat) (l : List Int) : Bool := l.any fun x => decide (x < 0) || decide ((n : Int) ≤ x)
/-- the error of some needs, but for rings: its code and place -/
def badOf (ll : List (List Int)) : Option (Int × Nat) :=
  if 64 < ll.length then some (5, 0) else
  match fstI (fun l : List Int => decide (64 < l.length)) 0 ll with
  | some i => some (5, i)
  | none => match fstI (rowBad ll.length) 0 ll with
    | some i => some (2, i)
    | none => none
theorem badOf_none : badOf ll = none ↔ Fine ll := by
  unfold badOf
  constructor
  · intro hx
    split at hx
    · cases hx
    · split at hx
      · cases hx
      · split at hx
        · cases hx
        · rename_i h1 _ h2 _ h3
          rw [fstI_none] at h2 h3
          refine ⟨by omega, fun i hi => ?_, fun i hi x hx => ?_⟩
          · rw [getD_lt _ _ hi]
            have := h2 _ (List.getElem_mem hi)
            simp at this; omega
          · rw [getD_lt _ _ hi] at hx
            have := h3 _ (List.getElem_mem hi)
            simp only [rowBad, List.any_eq_false, Bool.or_eq_true, decide_eq_true_eq, not_or] at this
            have := this x hx
            omega
  · intro hf
    have h1 := hf.len
    have h2 : fstI (fun l : List Int => decide (64 < l.length)) 0 ll = none := by
      rw [fstI_none]
      intro x hx
      obtain ⟨i, hi, rfl⟩ := List.getElem_of_mem hx
      have := hf.row i hi
      rw [getD_lt _ _ hi] at this
      simp; omega
    have h3 : fstI (rowBad ll.length) 0 ll = none := by
      rw [fstI_none]
      intro x hx
      obtain ⟨i, hi, rfl⟩ := List.getElem_of_mem hx
      have := hf.inr i hi
      rw [getD_lt _ _ hi] at this
      simp only [rowBad, List.any_eq_false, Bool.or_eq_true, decide_eq_true_eq, not_or]
      intro y hy
      have := this y hy
      omega
    rw [if_neg (by omega), h2, h3]
theorem may1x {h : Heap} (hr : Rows h s ss ll) (hl : ll.length ≤ 64) (v : AV) : ∀ (M i : Nat), i ≤ ll.length → ll.length - i < M →
    f38_l1 N M s v s (ll.length : Int) (i : Int) h = match fstI (fun l : List Int => decide (64 < l.length)) i (ll.drop i) with | none => some (.exit 0, (s, v, ()), h) | some j => some (.ret, (s, errV h, ()), errH h 5 j) := by
  intro M
  induction M with
  | zero => intro i h1 h2; omega
  | succ M ih =>
    intro i h1 h2
    rw [f38_l1_succ]
    unfold f38_l1_b
    by_cases hi : i < ll.length
    · have ew : wrapA .i64 ((i : Int) + 1) = ((i + 1 : Nat) : Int) := wrapA_small (by omega) (by omega)
      have hd : ll.drop i = ll[i] :: ll.drop (i + 1) := List.drop_eq_getElem_cons hi
      have hrow := hr.row i hi
      have hlen := Ints.len hrow
      rw [getD_lt _ [] hi] at hlen
      rw [hr.top.sl (x := (i : Int)) (by omega) (by rw [hr.len]; omega)]
      have hlt : ltInt 64 (ll[i].length : Int) = decide (64 < ll[i].length) := by rw [ltInt_dec]; congr 1; apply propext; omega
      simp only [nat_i, hi, decide_true, cond_true, Int.toNat_natCast, hlen, Int.ofNat_eq_natCast, hlt, hd, fstI, ew]
      cases hb : decide (64 < ll[i].length) with
      | true => simp only [cond_true, if_true, f46_2, f46_5, bind2_some]
      | false =>
        simp only [cond_false, Bool.false_eq_true, if_false]
        exact ih (i + 1) (by omega) (by omega)
    · have : i = ll.length := by omega
      subst this
      simp [nat_i, fstI]
theorem may3x {h : Heap} (hs : Ints h s l) (hl : l.length ≤ 1000) {s0 : SL} {n : Nat} (hn : s0.len = n) (v : AV) (a b c : Int) (t : SL) : ∀ (M i : Nat), i ≤ l.length → l.length - i < M →
    f38_l3 N M s0 v a t b c s (l.length : Int) (i : Int) h = if rowBad n (l.drop i) then some (.ret, (s0, errV h, t, b, c, ()), errH h 2 a) else some (.exit 4, (s0, v, t, b, c, ()), h) := by
  intro M
  induction M with
  | zero => intro i h1 h2; omega
  | succ M ih =>
    intro i h1 h2
    rw [f38_l3_succ]
    unfold f38_l3_b
    by_cases hi : i < l.length
    · have ew : wrapA .i64 ((i : Int) + 1) = ((i + 1 : Nat) : Int) := wrapA_small (by omega) (by omega)
      have hd : l.drop i = l[i] :: l.drop (i + 1) := List.drop_eq_getElem_cons hi
      rw [hs.int (x := (i : Int)) (by omega) (by omega)]
      simp only [Int.ofNat_lt, hi, decide_true, cond_true, Int.toNat_natCast, getD_lt _ _ hi, ltInt_dec, leInt_dec, hn, Int.ofNat_eq_natCast, ew, f46_2, f46_5, bind2_some, hd, rowBad, List.any_cons]
      by_cases h3 : l[i] < 0
      · simp [h3]
      · by_cases h4 : (n : Int) ≤ l[i]
        · simp [h4]
        · simp only [h3, h4, decide_false, cond_false, Bool.false_or]
          exact ih (i + 1) (by omega) (by omega)
    · have : i = l.length := by omega
      subst this
      simp [nat_i, rowBad]
theorem may2x {h : Heap} (hr : Rows h s ss ll) (hl : ll.length ≤ 64) (hrl : ∀ i, i < ll.length → (ll.getD i []).length ≤ 64) (hN : 100 ≤ N) (v : AV) : ∀ (M i : Nat), i ≤ ll.length → ll.length - i < M →
    f38_l2 N M s v s (ll.length : Int) (i : Int) h = match fstI (rowBad ll.length) i (ll.drop i) with | none => some (.exit 2, (v, ()), h) | some j => some (.ret, (errV h, ()), errH h 2 j) := by
  intro M
  induction M with
  | zero => intro i h1 h2; omega
  | succ M ih =>
    intro i h1 h2
    rw [f38_l2_succ]
    unfold f38_l2_b
    by_cases hi : i < ll.length
    · have ew : wrapA .i64 ((i : Int) + 1) = ((i + 1 : Nat) : Int) := wrapA_small (by omega) (by omega)
      have hd : ll.drop i = ll[i] :: ll.drop (i + 1) := List.drop_eq_getElem_cons hi
      have hrow := hr.row i hi
      have hlen := Ints.len hrow
      have hll := hrl i hi
      rw [getD_lt _ [] hi] at hlen hll hrow
      have h3 := may3x (N := N) hrow (by omega) hr.slen v (i : Int) (ll.length : Int) (i : Int) s N 0 (by omega) (by omega)
      simp only [Int.ofNat_zero, List.drop_zero] at h3
      rw [hr.top.sl (x := (i : Int)) (by omega) (by rw [hr.len]; omega)]
      simp only [nat_i, hi, decide_true, cond_true, Int.toNat_natCast, hlen, Int.ofNat_eq_natCast, h3, hd, fstI, ew]
      cases hb : rowBad ll.length ll[i] with
      | true => rfl
      | false =>
        simp only [Bool.false_eq_true, if_false, bind3_some, eqOut_exit, decide_true, cond_true, ew]
        exact ih (i + 1) (by omega) (by omega)
    · have : i = ll.length := by omega
      subst this
      simp [nat_i, fstI]
theorem may_any {h : Heap} (hr : Rows h s ss ll) (hN : 100 ≤ N) : f38 N s h = match badOf ll with | none => some (.nilIface, h) | some (c, j) => some (errV h, errH h c j) := by
  unfold f38 badOf
  by_cases hl : 64 < ll.length
  · have : ltInt 64 (ll.length : Int) = true := by rw [ltInt_dec]; simp; omega
    simp only [hr.slen, Int.ofNat_eq_natCast, this, cond_true, f46_2, f46_5, bind2_some, if_pos hl]
    rfl
  · have : ltInt 64 (ll.length : Int) = false := by rw [ltInt_dec]; simp; omega
    have h1 := may1x (N := N) hr (by omega) AV.nilIface N 0 (by omega) (by omega)
    simp only [Int.ofNat_zero, List.drop_zero] at h1
    simp only [hr.slen, Int.ofNat_eq_natCast, this, cond_false, if_neg hl, h1]
    cases hf : fstI (fun l : List Int => decide (64 < l.length)) 0 ll with
    | some j => rfl
    | none =>
      have hrl : ∀ i, i < ll.length → (ll.getD i []).length ≤ 64 := by
        intro i hi
        have := fstI_none.1 hf _ (List.getElem_mem hi)
        rw [getD_lt _ _ hi]; simp at this; omega
      have h2 := may2x (N := N) hr (by omega) hrl hN AV.nilIface N 0 (by omega) (by omega)
      simp only [Int.ofNat_zero, List.drop_zero] at h2
      simp only [bind3_some, eqOut_exit, decide_true, cond_true, hr.slen, Int.ofNat_eq_natCast, h2]
      cases hg : fstI (rowBad ll.length) 0 ll with
      | some j => rfl
      | none => rfl
theorem nn7e (v : AV) : binA E .neq 32 (.tmp 7) (.const .nilIface) (.iface 69 v) AV.nilIface = some (.bool true) := by kernel_rfl
/-- the program's order refuses such needs -/
theorem Order_bad {h : Heap} (hN : 1000 ≤ N) (hr : Rows h s ss ll) {c : Int} {j : Nat} (hb : badOf ll = some (c, j)) : f14 N s h = some ((nilS, errV h, ()), errH h c j) := by
  have h1 := may_any (N := N) hr (by omega)
  simp only [hb] at h1
  have h2 : f40 N s h = some (errV h, errH h c j) := by
    unfold f40
    simp only [h1, bind2_some, errV, nn7e, bindV_some, cast_bool, cond_true]
  unfold f14
  simp only [h2, bind2_some, errV, nn15e, bindV_some, cast_bool, cond_true]
end Go.Proofs.Ythpplekbeecdfaa.Gb

open Go Go.Proofs.Ythpplekbeecdfaa.Ai Go.Proofs
namespace Go.Proofs.Ythpplekbeecdfaa.Gb
variable {N : Nat} {s : SL} {l : List Int} {ss : List SL} {ll : List (List Int)} {B : Nat} {h0 : Heap}
/-! the document's own: which needs are refused -/
theorem bad1 {h : Heap} (hr : Rows h s ss ll) (hl : ll.length ≤ 64) (v2 v3 : Int) : ∀ (M i : Nat), i ≤ ll.length → ll.length - i < M →
    f41_l1 N M s v2 v3 (i : Int) h = match fstI (fun l : List Int => decide (64 < l.length)) i (ll.drop i) with | none => some (.exit 0, (s, v2, v3, ()), h) | some j => some (.ret, (s, 5, (j : Int), ()), h) := by
  intro M
  induction M with
  | zero => intro i h1 h2; omega
  | succ M ih =>
    intro i h1 h2
    rw [f41_l1_succ]
    unfold f41_l1_b
    by_cases hi : i < ll.length
    · have ew : wrapA .i64 ((i : Int) + 1) = ((i + 1 : Nat) : Int) := wrapA_small (by omega) (by omega)
      have hd : ll.drop i = ll[i] :: ll.drop (i + 1) := List.drop_eq_getElem_cons hi
      have hlen := Ints.len (hr.row i hi)
      rw [getD_lt _ [] hi] at hlen
      rw [hr.top.sl (x := (i : Int)) (by omega) (by rw [hr.len]; omega)]
      have hlt : ltInt 64 (ll[i].length : Int) = decide (64 < ll[i].length) := by rw [ltInt_dec]; congr 1; apply propext; omega
      simp only [hr.slen, nat_i, hi, decide_true, cond_true, Int.toNat_natCast, hlen, Int.ofNat_eq_natCast, hlt, hd, fstI, ew]
      cases hb : decide (64 < ll[i].length) with
      | true => simp only [cond_true, if_true]
      | false =>
        simp only [cond_false, Bool.false_eq_true, if_false]
        exact ih (i + 1) (by omega) (by omega)
    · have : i = ll.length := by omega
      subst this
      simp [nat_i, fstI, hr.slen]
theorem bad3 {h : Heap} (hr : Rows h s ss ll) {i : Nat} (hi : i < ll.length) (hl : (ll.getD i []).length ≤ 1000) (v2 v3 : Int) : ∀ (M j : Nat), j ≤ (ll.getD i []).length → (ll.getD i []).length - j < M →
    f41_l3 N M s v2 v3 (i : Int) (j : Int) h = if rowBad ll.length ((ll.getD i []).drop j) then some (.ret, (s, 2, (i : Int), (i : Int), ()), h) else some (.exit 4, (s, v2, v3, (i : Int), ()), h) := by
  intro M
  induction M with
  | zero => intro j h1 h2; omega
  | succ M ih =>
    intro j h1 h2
    have hrow := hr.row i hi
    rw [f41_l3_succ]
    unfold f41_l3_b
    have rs : ∀ {β : Type} (K : SL → Option β), (ixK s.a s.len (i : Int) 1 fun q => bindV (.val (.one .slice)) (h.cell q) K) = K (ss.getD i nilS) := fun K => by
      rw [hr.top.sl (x := (i : Int)) (by omega) (by rw [hr.len]; omega)]; simp only [Int.toNat_natCast]
    have hsl := hr.slen
    rw [hsl] at rs
    simp only [hsl, rs, Ints.len hrow, Int.ofNat_eq_natCast, nat_i]
    by_cases hj : j < (ll.getD i []).length
    · have ew : wrapA .i64 ((j : Int) + 1) = ((j + 1 : Nat) : Int) := wrapA_small (by omega) (by omega)
      have hd : (ll.getD i []).drop j = (ll.getD i [])[j] :: (ll.getD i []).drop (j + 1) := List.drop_eq_getElem_cons hj
      have ri : ∀ {β : Type} (K : Int → Option β), (ixK (ss.getD i nilS).a (ll.getD i []).length (j : Int) 1 fun q => bindV (.val (.one (.int .i64))) (h.cell q) K) = K (ll.getD i [])[j] := fun K => by
        rw [← Ints.len hrow, hrow.int (x := (j : Int)) (by omega) (by omega)]; simp only [Int.toNat_natCast, getD_lt _ _ hj]
      simp only [hj, decide_true, cond_true, ri, ltInt_dec, leInt_dec, ew, hd, rowBad, List.any_cons]
      by_cases h3 : (ll.getD i [])[j] < 0
      · simp only [h3, decide_true, cond_true, Bool.true_or, if_true]
      · by_cases h4 : (ll.length : Int) ≤ (ll.getD i [])[j]
        · simp only [h3, h4, decide_true, decide_false, cond_true, cond_false, Bool.or_true, Bool.true_or, if_true]
        · simp only [h3, h4, decide_false, cond_false, Bool.false_or]
          exact ih (j + 1) (by omega) (by omega)
    · have : j = (ll.getD i []).length := by omega
      subst this
      simp [rowBad]
theorem bad2 {h : Heap} (hr : Rows h s ss ll) (hl : ll.length ≤ 64) (hrl : ∀ i, i < ll.length → (ll.getD i []).length ≤ 64) (hN : 100 ≤ N) (v2 v3 : Int) : ∀ (M i : Nat), i ≤ ll.length → ll.length - i < M →
    f41_l2 N M s v2 v3 (i : Int) h = match fstI (rowBad ll.length) i (ll.drop i) with | none => some (.exit 2, (v2, v3, ()), h) | some j => some (.ret, (2, (j : Int), ()), h) := by
  intro M
  induction M with
  | zero => intro i h1 h2; omega
  | succ M ih =>
    intro i h1 h2
    rw [f41_l2_succ]
    unfold f41_l2_b
    by_cases hi : i < ll.length
    · have ew : wrapA .i64 ((i : Int) + 1) = ((i + 1 : Nat) : Int) := wrapA_small (by omega) (by omega)
      have hd : ll.drop i = ll.getD i [] :: ll.drop (i + 1) := by rw [getD_lt _ _ hi]; exact List.drop_eq_getElem_cons hi
      have hll := hrl i hi
      have h3 := bad3 (N := N) hr hi (by omega) v2 v3 N 0 (by omega) (by omega)
      simp only [Int.ofNat_zero, List.drop_zero] at h3
      simp only [hr.slen, nat_i, hi, decide_true, cond_true, Int.ofNat_eq_natCast, h3, hd, fstI]
      cases hb : rowBad ll.length (ll.getD i []) with
      | true => rfl
      | false =>
        simp only [Bool.false_eq_true, if_false, bind3_some, eqOut_exit, decide_true, cond_true, ew]
        exact ih (i + 1) (by omega) (by omega)
    · have : i = ll.length := by omega
      subst this
      simp [nat_i, fstI, hr.slen]
theorem bad_spec {h : Heap} (hr : Rows h s ss ll) (hN : 100 ≤ N) : f41 N s h = match badOf ll with | none => some ((0, 0, ()), h) | some (c, j) => some ((c, (j : Int), ()), h) := by
  unfold f41 badOf
  by_cases hl : 64 < ll.length
  · have : ltInt 64 (ll.length : Int) = true := by rw [ltInt_dec]; simp only [decide_eq_true_eq]; omega
    simp only [hr.slen, Int.ofNat_eq_natCast, this, cond_true, if_pos hl]
    rfl
  · have : ltInt 64 (ll.length : Int) = false := by rw [ltInt_dec]; simp only [decide_eq_false_iff_not]; omega
    have h1 := bad1 (N := N) hr (by omega) 0 0 N 0 (by omega) (by omega)
    simp only [Int.ofNat_zero, List.drop_zero] at h1
    simp only [hr.slen, Int.ofNat_eq_natCast, this, cond_false, if_neg hl, h1]
    cases hf : fstI (fun l : List Int => decide (64 < l.length)) 0 ll with
    | some j => rfl
    | none =>
      have hrl : ∀ i, i < ll.length → (ll.getD i []).length ≤ 64 := by
        intro i hi
        have := fstI_none.1 hf _ (List.getElem_mem hi)
        rw [getD_lt _ _ hi]; simp only [decide_eq_false_iff_not] at this; omega
      have h2 := bad2 (N := N) hr (by omega) hrl hN 0 0 N 0 (by omega) (by omega)
      simp only [Int.ofNat_zero, List.drop_zero] at h2
      simp only [bind3_some, eqOut_exit, decide_true, cond_true, h2]
      cases hg : fstI (rowBad ll.length) 0 ll with
      | some j => rfl
      | none => rfl
end Go.Proofs.Ythpplekbeecdfaa.Gb

open Go Go.Proofs.Ythpplekbeecdfaa.Ai Go.Proofs
namespace Go.Proofs.Ythpplekbeecdfaa.Gb
variable {N : Nat} {s : SL} {l : List Int} {ss : List SL} {ll : List (List Int)} {B : Nat} {h0 : Heap}
theorem mem_take {out : List Int} {t : Nat} {x : Int} (h : x ∈ out.take t) : ∃ i, ∃ hi : i < out.length, i < t ∧ out[i] = x := by
  obtain ⟨i, hi, rfl⟩ := List.mem_iff_getElem.1 h
  simp at hi
  exact ⟨i, by omega, by omega, by simp⟩
theorem take_mem {out : List Int} {t i : Nat} (hi : i < out.length) (h : i < t) : out[i] ∈ out.take t := by
  refine List.mem_iff_getElem.2 ⟨i, by simp; omega, by simp⟩
structure Lev (ll : List (List Int)) (out : List Int) (t : Nat) (lv : List Int) : Prop where
  len : lv.length = ll.length
  eq : ∀ x ∈ out.take t, lv.getD x.toNat 0 = lvOf lv (ll.getD x.toNat [])
  zero : ∀ x : Int, 0 ≤ x → x < ll.length → x ∉ out.take t → lv.getD x.toNat 0 = 0
  bd : ∀ k, 0 ≤ lv.getD k 0 ∧ lv.getD k 0 ≤ t
theorem Lev.next (hf : Fine ll) {out : List Int} (hw : Whole ll out) {t : Nat} (ht : t < out.length) {lv : List Int} (hl : Lev ll out t lv) : Lev ll out (t + 1) (lv.set (out[t]).toNat (lvOf lv (ll.getD (out[t]).toNat []))) := by
  have hx := (hw.mem out[t]).1 (List.getElem_mem ht)
  have hxl : (out[t]).toNat < lv.length := by rw [hl.len]; omega
  have htk : out.take (t + 1) = out.take t ++ [out[t]] := List.take_succ_eq_append_getElem ht
  have hdep := hw.dep t ht
  have same : ∀ y ∈ out.take t, ∀ v, (lv.set (out[t]).toNat v).getD y.toNat 0 = lv.getD y.toNat 0 := by
    intro y hy v
    have hym := (hw.mem y).1 (List.mem_of_mem_take hy)
    refine set_get_ne lv v fun e => ?_
    have : out[t] = y := by omega
    exact hw.nod t ht (this ▸ hy)
  have hb := foldl_b (lv := lv) (b := (t : Int) + 1) (ll.getD (out[t]).toNat []) 0 (fun k _ => by have := hl.bd k.toNat; omega) (by omega) (by omega)
  refine ⟨by simp [hl.len], fun x hx' => ?_, fun x h1 h2 h3 => ?_, fun k => ?_⟩
  · rw [htk] at hx'
    rcases List.mem_append.1 hx' with h | h
    · rw [same x h, hl.eq x h]
      obtain ⟨i, hi, hit, rfl⟩ := mem_take h
      refine (foldl_lv _ _ _ _ fun k hk => ?_).symm
      have hk2 := hw.dep i hi k hk
      obtain ⟨i', hi', hit', rfl⟩ := mem_take hk2
      exact same _ (take_mem hi' (by omega)) _
    · simp at h; subst h
      rw [set_get_eq lv _ hxl]
      exact (foldl_lv _ _ _ _ fun k hk => same k (hdep k hk) _).symm
  · rw [htk] at h3
    have h4 : x ∉ out.take t := fun h => h3 (List.mem_append_left _ h)
    have h5 : x ≠ out[t] := fun h => h3 (List.mem_append_right _ (by rw [h]; exact List.mem_singleton_self _))
    rw [set_get_ne lv _ (by omega)]
    exact hl.zero x h1 h2 h4
  · by_cases hk : (out[t]).toNat = k
    · subst hk
      rw [set_get_eq lv _ hxl]
      unfold lvOf
      omega
    · rw [set_get_ne lv _ hk]
      have := hl.bd k
      omega
theorem lev_loop (hr : RowsB B h0 s ss ll) (hf : Fine ll) (hN : 1000 ≤ N) {os : SL} {out : List Int} (ho0 : Ints h0 os out) (hou : os.under B) (hw : Whole ll out) (hb0 : B ≤ h0.next) {sv : SL} : ∀ (M t : Nat) (h : Heap) (lv : List Int), t ≤ out.length → out.length - t < M → Keep B h0 h → Own1 B h sv (lv.map (AV.int .i64)) → Lev ll out t lv →
    ∃ h' lv', f16_l1 N M s sv os (out.length : Int) (t : Int) h = some (.exit 0, (sv, ()), h') ∧ Keep B h0 h' ∧ Own1 B h' sv (List.map (AV.int .i64) lv') ∧ Lev ll out out.length lv' := by
  intro M
  induction M with
  | zero => intro t h lv h1 h2; omega
  | succ M ih =>
    intro t h lv h1 h2 hk ho hl
    rw [f16_l1_succ]
    unfold f16_l1_b
    have hlen := hf.len
    have hwl := hw.len
    by_cases ht : t < out.length
    · have ew : wrapA .i64 ((t : Int) + 1) = ((t + 1 : Nat) : Int) := wrapA_small (by omega) (by omega)
      have hx := (hw.mem out[t]).1 (List.getElem_mem ht)
      have hxl : (out[t]).toNat < ll.length := by omega
      have hg := getD_lt out 0 ht
      have hrow := hr.r.row (out[t]).toNat hxl
      have hz : lv.getD (out[t]).toNat 0 = 0 := hl.zero _ hx.1 hx.2 (hw.nod t ht)
      have hset : lv.set (out[t]).toNat 0 = lv := by
        apply List.ext_getElem (by simp)
        intro i hi1 hi2
        rw [List.getElem_set]
        split
        · rename_i e
          have := getD_lt lv 0 hi2
          rw [← this, ← e, hz]
        · rfl
      obtain ⟨h1', e1, k1, o1⟩ := lev_row (N := N) (lv := lv) (h := h) hrow (hr.ru _ hxl) (by have := hf.row _ hxl; omega) hb0 hx.1 (by rw [hl.len]; omega) (fun k hk2 e => hw.nod t ht (e ▸ hw.dep t ht k hk2)) (fun k hk2 => by
        have h3 := hf.inr _ hxl k hk2
        have h4 := hl.bd k.toNat
        exact ⟨h3.1, by rw [hl.len]; omega, h4.1, by omega⟩) s os (out.length : Int) (t : Int) N 0 h 0 (by omega) (by have := hf.row _ hxl; omega) hk (by rw [hset]; exact ho)
      simp only [List.drop_zero, Int.ofNat_zero] at e1 o1
      obtain ⟨h2', lv', e2, k2, o2, hl2⟩ := ih (t + 1) h1' _ (by omega) (by omega) k1 o1 (hl.next hf hw ht)
      refine ⟨h2', lv', ?_, k2, o2, hl2⟩
      rw [(One.keep hk hou ho0).int (x := (t : Int)) (by omega) (by omega)]
      simp only [Int.toNat_natCast, hg]
      rw [(hr.keep hk).r.top.sl (x := out[t]) hx.1 (by rw [hr.r.len]; omega)]
      simp only [nat_i, ht, decide_true, cond_true, Ints.len hrow, Int.ofNat_eq_natCast, e1, bind3_some, ew]
      exact e2
    · have : t = out.length := by omega
      subst this
      exact ⟨h, lv, by simp [nat_i], hk, ho, hl⟩
/-- levels: each thing's above those that it needs -/
structure Levels (ll : List (List Int)) (lv : List Int) : Prop where
  len : lv.length = ll.length
  eq : ∀ k : Nat, k < ll.length → lv.getD k 0 = lvOf lv (ll.getD k [])
  bd : ∀ k, 0 ≤ lv.getD k 0 ∧ lv.getD k 0 ≤ 64
theorem Levels_spec {h : Heap} (hf : Fine ll) (hN : 1000 ≤ N) (hr : RowsB B h s ss ll) (hb : B ≤ h.next) :
    (∃ s' h' lv, f16 N s h = some ((s', .nilIface, ()), h') ∧ Keep B h h' ∧ Own1 B h' s' (List.map (AV.int .i64) lv) ∧ Acyclic ll ∧ Levels ll lv) ∨
    (∃ (h' : Heap) (v : AV) (j : Nat), f16 N s h = some ((nilS, v, ()), h') ∧ Keep B h h' ∧ isErr h' v 42 j ∧ j < ll.length ∧ Reach ll (j : Int) (j : Int) ∧ ∀ k : Nat, k < j → ¬ Reach ll (k : Int) (k : Int)) := by
  have hlen := hf.len
  rcases Order_spec (N := N) hf hN hr hb with ⟨os, h1, out, e1, k1, o1, ha, hw⟩ | ⟨h1, v, j, e1, k1, he, hx⟩
  · left
    have hwl := hw.len
    have hnx := k1.next
    obtain ⟨m1, m2⟩ := make1 app26 (.int .i64 0) app26z rfl ll.length (by omega) h1
    generalize hH : h1.push (.row (List.replicate ll.length (.int .i64 0)) .own) = H at *
    have kb : Keep B h H := by rw [← hH]; exact k1.push hb _
    have kb1 : Keep h1.next h1 H := by rw [← hH]; exact (Keep.refl _ _).push (Nat.le_refl _) _
    have hHn : H.next = h1.next + 1 := by rw [← hH]; rfl
    have hoI : Ints H os out := One.keep kb1 o1.one.2.2.under o1.one
    -- the order lies below 'h1.next'
    have hrB : RowsB h1.next H s ss ll := (hr.keep kb).mono (by omega)
    have hz : Lev ll out 0 (List.replicate ll.length 0) := by
      have hno : ∀ k, (List.replicate ll.length (0 : Int)).getD k 0 = 0 := by
        intro k
        simp [List.getD_eq_getElem?_getD, List.getElem?_replicate]
        split <;> rfl
      exact ⟨by simp, fun x hx => by simp at hx, fun x _ _ _ => hno _, fun k => by rw [hno]; simp⟩
    obtain ⟨h2, lv, e2, k2, o2, hl⟩ := lev_loop (N := N) (B := h1.next) (h0 := H) hrB hf hN hoI o1.one.2.2.under hw (by omega) N 0 H (List.replicate ll.length 0) (by omega) (by omega) (Keep.refl _ _) (by rw [List.map_replicate]; exact m2) hz
    simp only [Int.ofNat_zero] at e2
    have hol : os.len = out.length := by have := o1.len; simpa using this
    refine ⟨⟨some (h1.next, 0), ll.length, ll.length, 1⟩, h2, lv, ?_, kb.trans (k2.mono (by omega)), ?_, ha, hl.len, fun k hk => ?_, fun k => ?_⟩
    · unfold f16
      simp only [e1, bind2_some, nn16, bindV_some, cast_bool, cond_false, hr.r.slen, Int.ofNat_eq_natCast, m1, bindT_some, cast_slice, hol, e2, bind3_some]
    · rcases o2 with ⟨h3, h4⟩ | ⟨A, cs, st, h3, h4, h5, h6⟩
      · exact .inl ⟨h3, h4⟩
      · exact .inr ⟨A, cs, st, h3, h4, by omega, h6⟩
    · have := hl.eq (k : Int) (by rw [List.take_length]; exact (hw.mem _).2 ⟨by omega, by omega⟩)
      simpa using this
    · have := hl.bd k
      omega
  · right
    obtain ⟨A, rfl, he2⟩ := he
    refine ⟨h1, _, j, ?_, k1, ⟨A, rfl, he2⟩, hx⟩
    unfold f16
    simp only [e1, bind2_some, nn16e, bindV_some, cast_bool, cond_true]
end Go.Proofs.Ythpplekbeecdfaa.Gb

open Go Go.Proofs.Ythpplekbeecdfaa.Ai Go.Proofs
namespace Go.Proofs.Ythpplekbeecdfaa.Gb
variable {N : Nat} {s : SL} {l : List Int} {ss : List SL} {d : List (List Int)} {B : Nat} {h0 : Heap}
theorem cellD {h : Heap} {s : SL} {vs : List AV} (hs : One h s vs) {i : Nat} (hi : i < vs.length) (x : AV) : h.cell (s.at i 1) = some (vs.getD i x) := by rw [hs.cell hi, getD_lt _ _ hi]
def upd {α : Type} (S : Nat → α) (r : Nat) (v : α) : Nat → α := fun k => if k = r then v else S k
theorem upd_set {α β : Type} (f : α → β) (S : Nat → α) (v : α) {n r : Nat} (hr : r < n) : ((List.range n).map fun k => f (S k)).set r (f v) = (List.range n).map fun k => f (upd S r v k) := by
  apply List.ext_getElem (by simp)
  intro i h1 h2
  simp at h2
  rw [List.getElem_set]
  simp only [List.getElem_map, List.getElem_range, upd]
  split
  · rename_i e; subst e; simp
  · rename_i e; rw [if_neg (fun h => e h.symm)]
/-- rows of one's own, each by itself -/
structure Tbl (B : Nat) (h0 h : Heap) (ov : SL) (n : Nat) (S : Nat → SL) (R : Nat → List Int) : Prop where
  k : Keep B h0 h
  b0 : B ≤ h0.next
  o : Own1 B h ov ((List.range n).map fun r => SL.av (S r))
  row : ∀ r, r < n → Own1 B h (S r) ((R r).map (AV.int .i64))
  ne : ∀ r, r < n → ∀ A, (S r).blk = some A → ov.blk ≠ some A
  dis : ∀ r r', r < n → r' < n → r ≠ r' → ∀ A, (S r).blk = some A → (S r').blk ≠ some A
def ren (n : Nat) (x : Int) : Int := n - 1 - x
/-- rows up to place 'j' of row 'k' -/
def eeR (d : List (List Int)) (n k j : Nat) (r : Nat) : List Int :=
  if n - 1 - r < k then (d.getD (n - 1 - r) []).map (ren n) else if n - 1 - r = k then ((d.getD k []).take j).map (ren n) else []
theorem eeR_next {n k j : Nat} (hj : j < (d.getD k []).length) (r : Nat) : eeR d n k (j + 1) r = if n - 1 - r = k then eeR d n k j r ++ [ren n (d.getD k [])[j]] else eeR d n k j r := by
  unfold eeR
  by_cases h1 : n - 1 - r < k
  · rw [if_pos h1, if_pos h1, if_neg (by omega)]
  · rw [if_neg h1, if_neg h1]
    by_cases h2 : n - 1 - r = k
    · rw [if_pos h2, if_pos h2, if_pos h2, List.take_succ_eq_append_getElem hj, List.map_append]; rfl
    · rw [if_neg h2, if_neg h2, if_neg h2]
theorem eeR_row {n k : Nat} (r : Nat) : eeR d n k (d.getD k []).length r = eeR d n (k + 1) 0 r := by
  unfold eeR
  by_cases h1 : n - 1 - r < k
  · rw [if_pos h1, if_pos (by omega)]
  · rw [if_neg h1]
    by_cases h2 : n - 1 - r = k
    · rw [if_pos h2, if_pos (by omega), h2, List.take_length]
    · rw [if_neg h2, if_neg (by omega)]
      split <;> simp
theorem f6_row (hr : RowsB B h0 s ss d) (hlen : d.length ≤ 64) {k : Nat} (hk : k < d.length) (hrl : (d.getD k []).length ≤ 64) (hin : ∀ x ∈ d.getD k [], 0 ≤ x ∧ x < d.length) (v1 : Int) (v4 : Bool) {ov : SL} : ∀ (M j : Nat) (h : Heap) (S : Nat → SL), j ≤ (d.getD k []).length → (d.getD k []).length - j < M → Tbl B h0 h ov d.length S (eeR d d.length k j) →
    ∃ h' S', f6_l2 N M v1 v4 s (d.length : Int) ov (k : Int) (j : Int) h = some (.exit 2, (v1, v4, s, (d.length : Int), ov, (k : Int), ()), h') ∧ Tbl B h0 h' ov d.length S' (eeR d d.length (k + 1) 0) := by
  intro M
  induction M with
  | zero => intro j h S h1 h2; omega
  | succ M ih =>
    intro j h S h1 h2 ht
    rw [f6_l2_succ]
    unfold f6_l2_b
    have hrk := hr.keep ht.k
    have hrow := hrk.r.row k hk
    have hnx := ht.k.next
    have hb0 := ht.b0
    have rs : ∀ {β : Type} (K : SL → Option β), (ixK s.a s.len (k : Int) 1 fun q => bindV (.val (.one .slice)) (h.cell q) K) = K (ss.getD k nilS) := fun K => by
      rw [hrk.r.top.sl (x := (k : Int)) (by omega) (by rw [hrk.r.len]; omega)]; simp only [Int.toNat_natCast]
    rw [rs]
    simp only [Ints.len hrow]
    by_cases hj : j < (d.getD k []).length
    · have ew : wrapA .i64 ((j : Int) + 1) = ((j + 1 : Nat) : Int) := wrapA_small (by omega) (by omega)
      have ew1 : wrapA .i64 ((d.length : Int) - 1) = (d.length : Int) - 1 := wrapA_small (by omega) (by omega)
      have ew2 : wrapA .i64 ((d.length : Int) - 1 - (k : Int)) = ((d.length - 1 - k : Nat) : Int) := by rw [wrapA_small (by omega) (by omega)]; omega
      have hx := hin _ (List.getElem_mem hj)
      have ew3 : wrapA .i64 ((d.length : Int) - 1 - (d.getD k [])[j]) = ren d.length (d.getD k [])[j] := wrapA_small (by omega) (by omega)
      have hg := getD_lt (d.getD k []) 0 hj
      have hrn : d.length - 1 - k < d.length := by omega
      have hol : ((List.range d.length).map fun r => SL.av (S r)).length = d.length := by simp
      have oo := ht.o.one
      -- what is read
      have c1 : h.cell (s.at k 1) = some (SL.av (ss.getD k nilS)) := by
        rw [hrk.r.top.cell (by rw [List.length_map, hrk.r.len]; exact hk)]
        rw [List.getElem_map, getD_lt _ _ (by rw [hrk.r.len]; exact hk)]
      have c2 : h.cell ((ss.getD k nilS).at j 1) = some (.int .i64 (d.getD k [])[j]) := by
        rw [hrow.cell (by rw [List.length_map]; exact hj), List.getElem_map]
      have c3 : h.cell (ov.at (d.length - 1 - k) 1) = some (SL.av (S (d.length - 1 - k))) := by
        rw [oo.cell (by rw [hol]; exact hrn)]; simp
      have c4 : ∀ b, (h.push b).cell (ov.at (d.length - 1 - k) 1) = some (SL.av (S (d.length - 1 - k))) := fun b => by
        rw [(ht.o.push b).one.cell (by rw [hol]; exact hrn)]; simp
      obtain ⟨rv', h1', e1, o1, b1, d1⟩ := append_own1 app26 (v := AV.int .i64 (ren d.length (d.getD k [])[j])) rfl (ht.row _ hrn) (by omega) (by
        unfold eeR
        rw [if_neg (by omega), if_pos (by omega)]
        simp; omega)
      have oo1 := ht.o.but b1 (fun A hA e => ht.ne _ hrn A e hA)
      have k1 : Keep B h h1' := b1.keep (by omega) (fun A hA => ((ht.row _ hrn).ge A hA).1)
      obtain ⟨h2', e2, o2, b2, n2⟩ := store_own1 oo1 (i := d.length - 1 - k) (by rw [hol]; exact hrn) (SL.av rv')
      have k2 : Keep B h1' h2' := b2.keep (by have := k1.next; omega) (fun A hA => (oo1.ge A hA).1)
      have rvne : ∀ A, rv'.blk = some A → ov.blk ≠ some A := by
        intro A hA e
        rcases d1 with d1 | ⟨A', d1, d3⟩
        · exact ht.ne _ hrn A (d1 ▸ hA) e
        · rw [d1] at hA; cases hA
          have := (ht.o.ge A e).2; omega
      have ht2 : Tbl B h0 h2' ov d.length (upd S (d.length - 1 - k) rv') (eeR d d.length k (j + 1)) := by
        refine ⟨ht.k.trans (k1.trans k2), hb0, by rw [← upd_set SL.av S rv' hrn]; exact o2, fun r hr' => ?_, fun r hr' A hA => ?_, fun r r' hr1 hr2 hne A hA => ?_⟩
        · rw [eeR_next hj r]
          unfold upd
          by_cases hrr : r = d.length - 1 - k
          · rw [if_pos hrr, if_pos (by omega)]
            subst hrr
            rw [List.map_append]
            exact o1.but b2 (fun A hA e => rvne A hA e)
          · rw [if_neg hrr, if_neg (by omega)]
            have q1 := (ht.row r hr').but b1 (fun A hA e => ht.dis r _ hr' hrn hrr A hA e)
            exact q1.but b2 (fun A hA e => ht.ne r hr' A hA e)
        · unfold upd at hA
          by_cases hrr : r = d.length - 1 - k
          · rw [if_pos hrr] at hA; exact rvne A hA
          · rw [if_neg hrr] at hA; exact ht.ne r hr' A hA
        · unfold upd at hA ⊢
          have other : ∀ r2, r2 < d.length → r2 ≠ d.length - 1 - k → ∀ A, (S r2).blk = some A → rv'.blk ≠ some A := by
            intro r2 h6 h7 A h8 e
            rcases d1 with d1 | ⟨A', d1, d3⟩
            · exact ht.dis r2 _ h6 hrn h7 A h8 (d1 ▸ e)
            · rw [d1] at e; cases e
              have := ((ht.row r2 h6).ge A h8).2; omega
          by_cases hrr : r = d.length - 1 - k
          · rw [if_pos hrr] at hA
            rw [if_neg (fun e => hne (hrr.trans e.symm))]
            intro e
            exact other r' hr2 (fun e2 => hne (hrr.trans e2.symm)) A e hA
          · rw [if_neg hrr] at hA
            by_cases hrr' : r' = d.length - 1 - k
            · rw [if_pos hrr']; exact other r hr1 hrr A hA
            · rw [if_neg hrr']; exact ht.dis r r' hr1 hr2 hne A hA
      obtain ⟨h3', S', e3, t3⟩ := ih (j + 1) h2' _ (by omega) (by omega) ht2
      refine ⟨h3', S', ?_, t3⟩
      have i1 : ∀ {β : Type} (K : Nat × Nat → Option β), ixK s.a s.len (k : Int) 1 K = K (s.at k 1) := fun K => hrk.r.top.ixz (x := (k : Int)) (by omega) (by rw [List.length_map, hrk.r.len]; omega) K
      have i2 : ∀ {β : Type} (K : Nat × Nat → Option β), ixK (ss.getD k nilS).a (d.getD k []).length (j : Int) 1 K = K ((ss.getD k nilS).at j 1) := fun K => by
        have := hrow.ixz (x := (j : Int)) (by omega) (by rw [List.length_map]; omega) K
        rw [Ints.len hrow] at this
        exact this
      have i3 : ∀ {β : Type} (K : Nat × Nat → Option β), ixK ov.a ov.len ((d.length - 1 - k : Nat) : Int) 1 K = K (ov.at (d.length - 1 - k) 1) := fun K => oo.ixz (x := ((d.length - 1 - k : Nat) : Int)) (by omega) (by rw [hol]; omega) K
      simp only [nat_i, Int.ofNat_eq_natCast, hj, decide_true, cond_true, ew1, ew2, i1, i3, c1, c3, SL.av, bindV_some, cast_slice, Ints.len hrow, i2, c2, cast_int, ew3]
      rw [e1]
      have e2' : h1'.store (ov.at (d.length - 1 - k) 1) [.slice rv'.a rv'.len rv'.cap rv'.sz] = some h2' := e2
      have c4' : ∀ b, (h.push b).cell (ov.at (d.length - 1 - k) 1) = some (.slice (S (d.length - 1 - k)).a (S (d.length - 1 - k)).len (S (d.length - 1 - k)).cap (S (d.length - 1 - k)).sz) := c4
      have s1 : sameO (some (AV.slice (ss.getD k nilS).a (d.getD k []).length (ss.getD k nilS).cap (ss.getD k nilS).sz)) (AV.slice (ss.getD k nilS).a (d.getD k []).length (ss.getD k nilS).cap (ss.getD k nilS).sz) = true := sameO_some _
      simp only [bindT_some, cast_slice, e2', need_some, c4', sameO_some, cond_true, guardB, ew]
      exact e3
    · have : j = (d.getD k []).length := by omega
      subst this
      refine ⟨h, S, by simp [nat_i], ?_⟩
      have : eeR d d.length k (d.getD k []).length = eeR d d.length (k + 1) 0 := funext fun r => eeR_row r
      rw [← this]; exact ht
end Go.Proofs.Ythpplekbeecdfaa.Gb

open Go Go.Proofs.Ythpplekbeecdfaa.Ai Go.Proofs
namespace Go.Proofs.Ythpplekbeecdfaa.Gb
variable {N : Nat} {s : SL} {l : List Int} {ss : List SL} {d : List (List Int)} {B : Nat} {h0 : Heap}
theorem f6_rows (hr : RowsB B h0 s ss d) (hlen : d.length ≤ 64) (hin : ∀ k, k < d.length → ∀ x ∈ d.getD k [], 0 ≤ x ∧ x < d.length) (hN : 1000 ≤ N) (v1 : Int) (v4 : Bool) {ov : SL} : ∀ (M k : Nat) (h : Heap) (S : Nat → SL), k ≤ d.length → d.length - k < M → Tbl B h0 h ov d.length S (eeR d d.length k 0) →
    (∃ h' S', f6_l1 N M v1 v4 s (d.length : Int) ov (k : Int) h = some (.exit 0, (v1, v4, s, (d.length : Int), ov, ()), h') ∧ Tbl B h0 h' ov d.length S' (eeR d d.length d.length 0) ∧ ∀ i, k ≤ i → i < d.length → (d.getD i []).length ≤ 64) ∨
    (∃ h' r, f6_l1 N M v1 v4 s (d.length : Int) ov (k : Int) h = some (.ret, (v1, true, r), h')) := by
  intro M
  induction M with
  | zero => intro k h S h1 h2; omega
  | succ M ih =>
    intro k h S h1 h2 ht
    rw [f6_l1_succ]
    unfold f6_l1_b
    by_cases hk : k < d.length
    · have ew : wrapA .i64 ((k : Int) + 1) = ((k + 1 : Nat) : Int) := wrapA_small (by omega) (by omega)
      have hrk := hr.keep ht.k
      have hrow := hrk.r.row k hk
      rw [hrk.r.top.sl (x := (k : Int)) (by omega) (by rw [hrk.r.len]; omega)]
      simp only [Int.ofNat_lt, hk, decide_true, cond_true, Int.toNat_natCast, Ints.len hrow, ltInt_dec, Int.ofNat_eq_natCast]
      by_cases hl : (d.getD k []).length ≤ 64
      · obtain ⟨h1', S1, e1, t1⟩ := f6_row (N := N) hr hlen hk hl (hin k hk) v1 v4 N 0 h S (by omega) (by omega) ht
        simp only [Int.ofNat_zero] at e1
        simp only [show ¬ (64 : Int) < ((d.getD k []).length : Int) by omega, decide_false, cond_false, e1, bind3_some, ew]
        rcases ih (k + 1) h1' S1 (by omega) (by omega) t1 with ⟨h2', S2, e2, t2, hx⟩ | ⟨h2', r, e2⟩
        · refine .inl ⟨h2', S2, e2, t2, fun i hi1 hi2 => ?_⟩
          by_cases hik : i = k
          · subst hik; exact hl
          · exact hx i (by omega) hi2
        · exact .inr ⟨h2', r, e2⟩
      · simp only [show (64 : Int) < ((d.getD k []).length : Int) by omega, decide_true, cond_true, f11, bind2_some]
        exact .inr ⟨_, _, rfl⟩
    · have : k = d.length := by omega
      subst this
      exact .inl ⟨h, S, by simp [nat_i], ht, fun i h3 h4 => by omega⟩
/-! plain: things by other names -/
def eeL (d : List (List Int)) : List (List Int) := (List.range d.length).map fun r => (d.getD (d.length - 1 - r) []).map (ren d.length)
theorem eeL_len : (eeL d).length = d.length := by simp [eeL]
theorem eeL_get {r : Nat} (hr : r < d.length) : (eeL d).getD r [] = (d.getD (d.length - 1 - r) []).map (ren d.length) := by
  rw [getD_lt _ _ (by rw [eeL_len]; exact hr)]; simp [eeL]
theorem eeL_fine (hf : Fine d) : Fine (eeL d) := by
  refine ⟨by rw [eeL_len]; exact hf.len, fun i hi => ?_, fun i hi x hx => ?_⟩
  · rw [eeL_len] at hi
    rw [eeL_get hi, List.length_map]
    exact hf.row _ (by omega)
  · rw [eeL_len] at hi ⊢
    rw [eeL_get hi] at hx
    obtain ⟨y, hy, rfl⟩ := List.mem_map.1 hx
    have := hf.inr _ (by omega) y hy
    unfold ren; omega
theorem eeL_mem (hf : Fine d) {i x : Int} (hi0 : 0 ≤ i) (hi1 : i < d.length) : x ∈ d.getD i.toNat [] ↔ (ren d.length x ∈ (eeL d).getD (ren d.length i).toNat []) := by
  have hr : (ren d.length i).toNat < d.length := by unfold ren; omega
  rw [eeL_get hr, show d.length - 1 - (ren d.length i).toNat = i.toNat by unfold ren; omega]
  constructor
  · intro h; exact List.mem_map.2 ⟨x, h, rfl⟩
  · intro h
    obtain ⟨y, hy, he⟩ := List.mem_map.1 h
    have : y = x := by unfold ren at he; omega
    exact this ▸ hy
theorem eeL_reach (hf : Fine d) {i x : Int} (hi0 : 0 ≤ i) (hi1 : i < d.length) (h : Reach d i x) : Reach (eeL d) (ren d.length i) (ren d.length x) := by
  induction h with
  | one h => exact .one ((eeL_mem hf hi0 hi1).1 h)
  | step h1 h2 ih =>
    have := h1.inr hf
    exact .step ih ((eeL_mem hf this.1 this.2).1 h2)
theorem ren_ren (n : Nat) (x : Int) : ren n (ren n x) = x := by unfold ren; omega
theorem eeL_reach' (hf : Fine d) {i x : Int} (hi0 : 0 ≤ i) (hi1 : i < d.length) (h : Reach (eeL d) i x) : Reach d (ren d.length i) (ren d.length x) := by
  have key : ∀ {i x : Int}, 0 ≤ i → i < d.length → x ∈ (eeL d).getD i.toNat [] → ren d.length x ∈ d.getD (ren d.length i).toNat [] := by
    intro i x h0 h1 hx
    have h2 : 0 ≤ ren d.length i ∧ ren d.length i < d.length := by unfold ren; omega
    rw [eeL_mem hf h2.1 h2.2, ren_ren, ren_ren]; exact hx
  induction h with
  | one h => exact .one (key hi0 hi1 h)
  | step h1 h2 ih =>
    have := h1.inr (eeL_fine hf)
    rw [eeL_len] at this
    exact .step ih (key this.1 this.2 h2)
theorem levels_ren (hf : Fine d) (ha : Acyclic d) {lv lv' : List Int} (h1 : Levels d lv) (h2 : Levels (eeL d) lv') : ∀ (m k : Nat), need' d (k : Int) ≤ m → k < d.length → lv.getD k 0 = lv'.getD (d.length - 1 - k) 0 := by
  have step : ∀ k : Nat, k < d.length → (∀ x ∈ d.getD k [], lv.getD x.toNat 0 = lv'.getD (d.length - 1 - x.toNat) 0) → lv.getD k 0 = lv'.getD (d.length - 1 - k) 0 := by
    intro k hk hx
    rw [h1.eq k hk, h2.eq _ (by rw [eeL_len]; omega), eeL_get (by omega), show d.length - 1 - (d.length - 1 - k) = k by omega]
    unfold lvOf
    rw [List.foldl_map]
    have : ∀ (r : List Int) (a : Int), (∀ x ∈ r, 0 ≤ x ∧ x < d.length ∧ lv.getD x.toNat 0 = lv'.getD (d.length - 1 - x.toNat) 0) →
        r.foldl (fun a k => if a < lv.getD k.toNat 0 + 1 then lv.getD k.toNat 0 + 1 else a) a = r.foldl (fun a k => if a < lv'.getD (ren d.length k).toNat 0 + 1 then lv'.getD (ren d.length k).toNat 0 + 1 else a) a := by
      intro r
      induction r with
      | nil => intro a _; rfl
      | cons x r ih =>
        intro a h
        obtain ⟨q1, q2, q3⟩ := h x (by simp)
        simp only [List.foldl_cons]
        rw [show (ren d.length x).toNat = d.length - 1 - x.toNat by unfold ren; omega, ← q3]
        exact ih _ fun y hy => h y (by simp [hy])
    exact this _ _ fun x hx' => ⟨(hf.inr k hk x hx').1, (hf.inr k hk x hx').2, hx x hx'⟩
  intro m
  induction m with
  | zero =>
    intro k hm hk
    refine step k hk fun x hx => ?_
    have := need_lt hf ha (i := (k : Int)) (k := x) (by simpa using hx)
    omega
  | succ m ih =>
    intro k hm hk
    refine step k hk fun x hx => ?_
    have h3 := need_lt hf ha (i := (k : Int)) (k := x) (by simpa using hx)
    have h4 := hf.inr k hk x hx
    exact ih x.toNat (by rw [show ((x.toNat : Nat) : Int) = x by omega]; omega) (by omega)
theorem acyclic_ren (hf : Fine d) (ha : Acyclic d) : Acyclic (eeL d) := by
  intro i hi
  have := hi.inr (eeL_fine hf)
  rw [eeL_len] at this
  exact ha _ (eeL_reach' hf this.1 this.2 hi)
/-- lists that rise, and have the same in them -/
theorem sorted_eq : ∀ {a b : List Int}, a.Pairwise (· < ·) → b.Pairwise (· < ·) → (∀ x, x ∈ a ↔ x ∈ b) → a = b
  | [], [], _, _, _ => rfl
  | [], y :: b, _, _, h => by have := (h y).2 (by simp); simp at this
  | x :: a, [], _, _, h => by have := (h x).1 (by simp); simp at this
  | x :: a, y :: b, ha, hb, h => by
    obtain ⟨ha1, ha2⟩ := List.pairwise_cons.1 ha
    obtain ⟨hb1, hb2⟩ := List.pairwise_cons.1 hb
    have hxy : x = y := by
      rcases List.mem_cons.1 ((h x).1 (by simp)) with e | e
      · exact e
      · rcases List.mem_cons.1 ((h y).2 (by simp)) with e2 | e2
        · exact e2.symm
        · have := hb1 x e; have := ha1 y e2; omega
    subst hxy
    rw [sorted_eq ha2 hb2 fun z => ?_]
    constructor
    · intro hz
      rcases List.mem_cons.1 ((h z).1 (by simp [hz])) with e | e
      · have := ha1 z hz; omega
      · exact e
    · intro hz
      rcases List.mem_cons.1 ((h z).2 (by simp [hz])) with e | e
      · have := hb1 z hz; omega
      · exact e
end Go.Proofs.Ythpplekbeecdfaa.Gb

open Go Go.Proofs.Ythpplekbeecdfaa.Ai Go.Proofs
namespace Go.Proofs.Ythpplekbeecdfaa.Gb
variable {N : Nat} {s : SL} {l : List Int} {ss : List SL} {d : List (List Int)} {B : Nat} {h0 : Heap}
theorem eql11 : binA E .eql 32 (.tmp 11) (.const .nilIface) AV.nilIface AV.nilIface = some (.bool true) := by kernel_rfl
theorem eql11e (v : AV) : binA E .eql 32 (.tmp 11) (.const .nilIface) (.iface 69 v) AV.nilIface = some (.bool false) := by kernel_rfl
theorem as69 (v : AV) : assertA E (.iface 69 v) 69 true = some (.tuple [v, .bool true]) := by kernel_rfl
theorem as71 (v : AV) : assertA E (.iface 71 v) 69 true = some (.tuple [.ptr none, .bool false]) := by kernel_rfl
theorem told_nil (h : Heap) : f23 N .nilIface h = some ((0, 0, ()), h) := by simp [f23, eql11]
theorem cast_pb {β : Type} (p : Option (Nat × Nat)) (b : Bool) (K : (Option (Nat × Nat) × Bool × Unit) → Option β) : (Ty.tup [(.one .ptr), (.one .bool)]).cast (.tuple [.ptr p, .bool b]) K = K (p, b, ()) := rfl
theorem told_err (hN : 1 ≤ N) {h : Heap} {v : AV} {c a : Int} (he : isErr h v c a) : f23 N v h = some ((c, a, ()), h) := by
  obtain ⟨A, rfl, h1, h2⟩ := he
  obtain ⟨M, rfl⟩ : ∃ M, N = M + 1 := ⟨N - 1, by omega⟩
  simp [f23, eql11e, as69, cast_pb, Heap.cell_g, h2, cellB_own, f23_l1_succ, f23_l1_b, ltInt_dec, as71]
/-- the levels' loop of the law -/
theorem f6_lev {h : Heap} {sa sb : SL} {a b : List Int} {n : Nat} (hn : n ≤ 64) (hal : a.length = n) (hbl : b.length = n) (ha : Ints h sa a) (hb : Ints h sb b) (hab : ∀ k, k < n → a.getD k 0 = b.getD (n - 1 - k) 0) (v1 : Int) (v4 : Bool) (v5 v8 : SL) : ∀ (M k : Nat), k ≤ n → n - k < M →
    f6_l3 N M v1 v4 v5 (n : Int) v8 sa sb (k : Int) h = some (.exit 4, (v1, v4, v5, (n : Int), v8, ()), h) := by
  intro M
  induction M with
  | zero => intro k h1 h2; omega
  | succ M ih =>
    intro k h1 h2
    rw [f6_l3_succ]
    unfold f6_l3_b
    by_cases hk : k < n
    · have ew : wrapA .i64 ((k : Int) + 1) = ((k + 1 : Nat) : Int) := wrapA_small (by omega) (by omega)
      have ew1 : wrapA .i64 ((n : Int) - 1) = (n : Int) - 1 := wrapA_small (by omega) (by omega)
      have ew2 : wrapA .i64 ((n : Int) - 1 - (k : Int)) = ((n - 1 - k : Nat) : Int) := by rw [wrapA_small (by omega) (by omega)]; omega
      rw [ha.int (x := (k : Int)) (by omega) (by omega)]
      simp only [Ints.len ha, hal, Int.ofNat_eq_natCast, nat_i, hk, decide_true, cond_true, ew1, ew2, Int.toNat_natCast]
      rw [hb.int (x := ((n - 1 - k : Nat) : Int)) (by omega) (by omega)]
      simp only [Int.toNat_natCast, hab k hk, eqInt_dec, decide_true, Bool.not_true, cond_false, ew]
      exact ih (k + 1) (by omega) (by omega)
    · have : k = n := by omega
      subst this
      simp [nat_i, Ints.len ha, hal]
/-- the last loop of the law -/
theorem f6_bel {h : Heap} {su sv : SL} {u v : List Int} {n : Nat} (hn : n ≤ 64) (hul : u.length ≤ 64) (hvl : v.length = u.length) (hu : Ints h su u) (hv : Ints h sv v) (huv : ∀ k, ∀ hk : k < u.length, v.getD (u.length - 1 - k) 0 = ren n u[k]) (hin : ∀ x ∈ u, 0 ≤ x ∧ x < n) (v4 : Bool) : ∀ (M k : Nat), k ≤ u.length → u.length - k < M →
    f6_l4 N M v4 (n : Int) su sv (k : Int) h = some (.exit 6, (v4, su, sv, ()), h) := by
  intro M
  induction M with
  | zero => intro k h1 h2; omega
  | succ M ih =>
    intro k h1 h2
    rw [f6_l4_succ]
    unfold f6_l4_b
    by_cases hk : k < u.length
    · have ew : wrapA .i64 ((k : Int) + 1) = ((k + 1 : Nat) : Int) := wrapA_small (by omega) (by omega)
      have hx := hin _ (List.getElem_mem hk)
      have ew1 : wrapA .i64 ((n : Int) - 1) = (n : Int) - 1 := wrapA_small (by omega) (by omega)
      have ew2 : wrapA .i64 ((n : Int) - 1 - u[k]) = ren n u[k] := wrapA_small (by omega) (by omega)
      have ew3 : wrapA .i64 ((u.length : Int) - 1) = (u.length : Int) - 1 := wrapA_small (by omega) (by omega)
      have ew4 : wrapA .i64 ((u.length : Int) - 1 - (k : Int)) = ((u.length - 1 - k : Nat) : Int) := by rw [wrapA_small (by omega) (by omega)]; omega
      have r1 : ∀ (K : Int → Option (Out × (Bool × SL × SL × Unit) × Heap)), (ixK su.a u.length (k : Int) 1 fun q => bindV (.val (.one (.int .i64))) (h.cell q) K) = K u[k] := fun K => by
        have := hu.int (x := (k : Int)) (by omega) (by omega) K
        rw [Ints.len hu] at this
        rw [this]; simp only [Int.toNat_natCast, getD_lt u 0 hk]
      have r2 : ∀ (K : Int → Option (Out × (Bool × SL × SL × Unit) × Heap)), (ixK sv.a u.length ((u.length - 1 - k : Nat) : Int) 1 fun q => bindV (.val (.one (.int .i64))) (h.cell q) K) = K (ren n u[k]) := fun K => by
        have := hv.int (x := ((u.length - 1 - k : Nat) : Int)) (by omega) (by omega) K
        rw [Ints.len hv, hvl] at this
        rw [this]; simp only [Int.toNat_natCast, huv k hk]
      simp only [Ints.len hu, Ints.len hv, hvl, Int.ofNat_eq_natCast, nat_i, hk, decide_true, cond_true, eqInt_dec, Bool.not_true, cond_false, ew3, ew4, r2, ew1, r1, ew2, ew]
      exact ih (k + 1) (by omega) (by omega)
    · have : k = u.length := by omega
      subst this
      simp [nat_i, Ints.len hu]
theorem Own1.lower {C : Nat} {h : Heap} {s : SL} {vs : List AV} (hl : B ≤ C) (hx : Own1 C h s vs) : Own1 B h s vs := by
  rcases hx with h1 | ⟨A, cs, st, h1, h2, h3, h4⟩
  · exact .inl h1
  · exact .inr ⟨A, cs, st, h1, h2, by omega, h4⟩
end Go.Proofs.Ythpplekbeecdfaa.Gb

open Go Go.Proofs.Ythpplekbeecdfaa.Ai Go.Proofs
namespace Go.Proofs.Ythpplekbeecdfaa.Gb
variable {N : Nat} {s : SL} {l : List Int} {ss : List SL} {d : List (List Int)} {B : Nat} {h0 : Heap}
theorem nth_rev {u : List Int} {f : Int → Int} {k : Nat} (hk : k < u.length) : ((u.map f).reverse).getD (u.length - 1 - k) 0 = f u[k] := by
  rw [getD_lt _ _ (by simp; omega), List.getElem_reverse]
  simp only [List.getElem_map, List.length_map]
  congr 2
  omega
theorem below_ren (hf : Fine d) {m : Int} (hm0 : 0 ≤ m) (hm1 : m < d.length) {u v : List Int} (hu : u.Pairwise (· < ·)) (hv : v.Pairwise (· < ·)) (mu : ∀ x, x ∈ u ↔ (0 ≤ x ∧ x < d.length ∧ Reach d m x)) (mv : ∀ x, x ∈ v ↔ (0 ≤ x ∧ x < (eeL d).length ∧ Reach (eeL d) (ren d.length m) x)) : v = (u.map (ren d.length)).reverse := by
  refine sorted_eq hv ?_ fun x => ?_
  · rw [List.pairwise_reverse, List.pairwise_map]
    exact hu.imp fun h => by unfold ren; omega
  · rw [mv, List.mem_reverse, List.mem_map, eeL_len]
    have hr : 0 ≤ ren d.length m ∧ ren d.length m < d.length := by unfold ren; omega
    constructor
    · rintro ⟨h1, h2, h3⟩
      refine ⟨ren d.length x, (mu _).2 ⟨by unfold ren; omega, by unfold ren; omega, ?_⟩, ren_ren _ _⟩
      have := eeL_reach' hf hr.1 hr.2 h3
      rwa [ren_ren] at this
    · rintro ⟨y, hy, rfl⟩
      obtain ⟨h1, h2, h3⟩ := (mu y).1 hy
      exact ⟨by unfold ren; omega, by unfold ren; omega, eeL_reach hf hm0 hm1 h3⟩
theorem tail_spec {h : Heap} {ov : SL} {ssE : List SL} (hf : Fine d) (hN : 1000 ≤ N) (hr : RowsB h.next h s ss d) (he : RowsB h.next h ov ssE (eeL d)) {m : Int} (hm0 : 0 ≤ m) (hm1 : m < d.length) (v4 : Bool) :
    ∃ su h1 sv h2, f12 N s m h = some (su, h1) ∧ f12 N ov (ren d.length m) h1 = some (sv, h2) ∧ f6_l4 N N v4 (d.length : Int) su sv 0 h2 = some (.exit 6, (v4, su, sv, ()), h2) ∧ su.len = sv.len := by
  have hlen := hf.len
  obtain ⟨su, h1, u, e1, k1, o1, l1, p1, m1⟩ := Below_spec (N := N) hr hf hN hm0 hm1
  have he1 : RowsB h1.next h1 ov ssE (eeL d) := (he.keep k1).mono k1.next
  obtain ⟨sv, h2, v, e2, k2, o2, l2, p2, m2⟩ := Below_spec (N := N) he1 (eeL_fine hf) hN (i := ren d.length m) (by unfold ren; omega) (by rw [eeL_len]; unfold ren; omega)
  have hv := below_ren hf hm0 hm1 p1 p2 m1 m2
  have hvl : v.length = u.length := by rw [hv]; simp
  have hu2 : Ints h2 su u := One.keep k2 o1.one.2.2.under o1.one
  have e3 := f6_bel (N := N) (n := d.length) hlen l1 hvl hu2 o2.one (fun k hk => by rw [hv]; exact nth_rev hk) (fun x hx => ⟨((m1 x).1 hx).1, ((m1 x).1 hx).2.1⟩) v4 N 0 (by omega) (by omega)
  simp only [Int.ofNat_zero] at e3
  refine ⟨su, h1, sv, h2, e1, e2, e3, ?_⟩
  rw [Ints.len hu2, Ints.len o2.one, hvl]
theorem app22z : E.zero 26 = some (.slice none 0 0 0) := by kernel_rfl
theorem renamed_law {h : Heap} (hr : RowsB h.next h s ss d) (i : Int) : ∃ h', f6 2000 s i h = some (true, h') := by
  rcases fit_spec (N := 2000) hr (by omega) with ⟨s', h1, ss', e1, k1, r1, hl⟩ | ⟨s', h1, e1⟩
  · have hlen : (fitL d (mOf d)).length = mOf d := fitL_len (by unfold mOf; omega)
    have hin : ∀ i, i < (fitL d (mOf d)).length → ∀ x ∈ (fitL d (mOf d)).getD i [], 0 ≤ x ∧ x < (fitL d (mOf d)).length := by
      intro i hi x hx
      have hm : mOf d ≤ d.length := by unfold mOf; omega
      unfold fitL at hx
      rw [getD_lt _ _ (by rw [List.length_map, List.length_take]; omega)] at hx
      simp only [List.getElem_map, List.mem_map] at hx
      obtain ⟨y, _, rfl⟩ := hx
      rw [hlen] at hi ⊢
      exact conv_in (by omega) y
    generalize hdd : fitL d (mOf d) = dd at *
    have hsl : s'.len = dd.length := r1.r.slen
    by_cases h0 : dd.length = 0
    · refine ⟨h1, ?_⟩
      simp [f6, e1, hsl, h0, eqInt_dec, f11]
    · by_cases h64 : dd.length ≤ 64
      · have hn64 : ¬ ((64 : Int) < (dd.length : Int)) := by omega
        obtain ⟨m1, m2⟩ := make1 app22 (.slice none 0 0 0) app22z rfl dd.length (by omega) h1
        generalize hH : h1.push (.row (List.replicate dd.length (.slice none 0 0 0)) .own) = H at *
        have kb : Keep h1.next h1 H := by rw [← hH]; exact (Keep.refl _ _).push (Nat.le_refl _) _
        have hHn : H.next = h1.next + 1 := by rw [← hH]; rfl
        have rH := r1.keep kb
        have t0 : Tbl h1.next H H ⟨some (h1.next, 0), dd.length, dd.length, 1⟩ dd.length (fun _ => nilS) (eeR dd dd.length 0 0) := by
          refine ⟨Keep.refl _ _, by omega, ?_, fun r hr' => ?_, fun r hr' A hA => by simp [SL.blk] at hA, fun r r' _ _ _ A hA => by simp [SL.blk] at hA⟩
          · have : ((List.range dd.length).map fun r => SL.av ((fun _ => nilS) r)) = List.replicate dd.length (.slice none 0 0 0) := by
              apply List.ext_getElem (by simp)
              intro i h1 h2; simp [SL.av]
            rw [this]; exact m2
          · have : eeR dd dd.length 0 0 r = [] := by unfold eeR; rw [if_neg (Nat.not_lt_zero _)]; split <;> simp
            rw [this]; exact Own1.nil _ _ _
        rcases f6_rows (N := 2000) rH h64 hin (by omega) i false 2000 0 H (fun _ => nilS) (by omega) (by omega) t0 with ⟨h3, S, e3, t3, hrows⟩ | ⟨h3, r, e3⟩
        · have hf : Fine dd := ⟨h64, fun i hi => hrows i (by omega) hi, hin⟩
          have r3 : RowsB h3.next h3 s' ss' dd := (rH.keep t3.k).mono (by have := t3.k.next; omega)
          have re3 : RowsB h3.next h3 ⟨some (h1.next, 0), dd.length, dd.length, 1⟩ ((List.range dd.length).map S) (eeL dd) := by
            refine ⟨⟨?_, by rw [eeL_len]; simp, fun r hr' => ?_⟩, t3.o.one.2.2.under, fun r hr' => ?_⟩
            · rw [List.map_map]; exact t3.o.one
            · rw [eeL_len] at hr'
              rw [getD_lt _ _ (by simpa using hr'), eeL_get hr']
              simp only [List.getElem_map, List.getElem_range]
              have := (t3.row r hr').one
              unfold eeR at this
              rw [if_pos (by omega)] at this
              exact this
            · rw [eeL_len] at hr'
              rw [getD_lt _ _ (by simpa using hr')]
              simp only [List.getElem_map, List.getElem_range]
              exact (t3.row r hr').one.2.2.under
          obtain ⟨c1, c2⟩ := conv_rem (m := dd.length) (by omega) (by omega) i
          have hc := conv_in (m := dd.length) (by omega) i
          have w1 : wrapA .i64 ((dd.length : Int) - 1) = (dd.length : Int) - 1 := wrapA_small (by omega) (by omega)
          have w2 : wrapA .i64 ((dd.length : Int) - 1 - conv dd.length i) = ren dd.length (conv dd.length i) := wrapA_small (by omega) (by omega)
          simp only [Int.ofNat_zero] at e3
          rcases Levels_spec (N := 2000) hf (by omega) r3 (Nat.le_refl _) with ⟨sa, h4, la, e4, k4, o4, ha, La⟩ | ⟨h4, va, ja, e4, k4, er4, hj1, hj2, _⟩
          · have r4 : RowsB h4.next h4 s' ss' dd := (r3.keep k4).mono k4.next
            have re4 := (re3.keep k4).mono k4.next
            rcases Levels_spec (N := 2000) (eeL_fine hf) (by omega) re4 (Nat.le_refl _) with ⟨sb, h5, lb, e5, k5, o5, hb, Lb⟩ | ⟨h5, vb, jb, e5, k5, er5, hj1, hj2, _⟩
            · have r5 : RowsB h5.next h5 s' ss' dd := (r4.keep k5).mono k5.next
              have re5 := (re4.keep k5).mono k5.next
              obtain ⟨su, h6, sv, h7, e6, e7, e8, hlen2⟩ := tail_spec (N := 2000) hf (by omega) r5 re5 hc.1 hc.2 false
              have oa5 : Ints h5 sa la := One.keep k5 o4.one.2.2.under o4.one
              have e9 := f6_lev (N := 2000) (n := dd.length) h64 La.len (by rw [Lb.len, eeL_len]) oa5 o5.one (fun k hk => levels_ren hf ha La Lb _ k (Nat.le_refl _) hk) i false s' ⟨some (h1.next, 0), dd.length, dd.length, 1⟩ 2000 0 (by omega) (by omega)
              simp only [Int.ofNat_zero] at e9
              have hla : sa.len = dd.length := by rw [Ints.len oa5, La.len]
              have hlb : sb.len = dd.length := by rw [Ints.len o5.one, Lb.len, eeL_len]
              refine ⟨h7, ?_⟩
              simp [f6, e1, hsl, h0, hn64, eqInt_dec, ltInt_dec, f11, m1, e3, e4, e5, told_nil, hla, hlb, e9, c1, c2, e6, w1, w2, e7, e8, hlen2]
            · exfalso
              exact acyclic_ren hf ha _ hj2
          · have r4 : RowsB h4.next h4 s' ss' dd := (r3.keep k4).mono k4.next
            have re4 := (re3.keep k4).mono k4.next
            rcases Levels_spec (N := 2000) (eeL_fine hf) (by omega) re4 (Nat.le_refl _) with ⟨sb, h5, lb, e5, k5, o5, hb, Lb⟩ | ⟨h5, vb, jb, e5, k5, er5, hj3, hj4, _⟩
            · exfalso
              exact hb _ (eeL_reach hf (by omega) (by omega) hj2)
            · have r5 : RowsB h5.next h5 s' ss' dd := (r4.keep k5).mono k5.next
              have re5 := (re4.keep k5).mono k5.next
              obtain ⟨su, h6, sv, h7, e6, e7, e8, hlen2⟩ := tail_spec (N := 2000) hf (by omega) r5 re5 hc.1 hc.2 false
              have t1 := told_err (N := 2000) (by omega) (er4.keep k5)
              have t2 := told_err (N := 2000) (by omega) er5
              have e9 : f6_l3 2000 2000 i false s' (dd.length : Int) ⟨some (h1.next, 0), dd.length, dd.length, 1⟩ nilS nilS 0 h5 = some (.exit 4, (i, false, s', (dd.length : Int), ⟨some (h1.next, 0), dd.length, dd.length, 1⟩, ()), h5) := by
                show f6_l3 2000 (1999 + 1) i false s' (dd.length : Int) ⟨some (h1.next, 0), dd.length, dd.length, 1⟩ nilS nilS 0 h5 = _
                rw [f6_l3_succ]; simp [f6_l3_b, ltInt_dec]
              refine ⟨h7, ?_⟩
              simp [f6, e1, hsl, h0, hn64, eqInt_dec, ltInt_dec, f11, m1, e3, e4, e5, t1, t2, e9, c1, c2, e6, w1, w2, e7, e8, hlen2]
        · simp only [Int.ofNat_zero] at e3
          refine ⟨h3, ?_⟩
          simp [f6, e1, hsl, h0, hn64, eqInt_dec, ltInt_dec, f11, m1, e3]
      · refine ⟨h1, ?_⟩
        have hn64 : (64 : Int) < (dd.length : Int) := by omega
        simp [f6, e1, hsl, hn64, eqInt_dec, ltInt_dec, f11, h0]
  · refine ⟨h1, ?_⟩
    simp [f6, e1, f11]
theorem renamed_true {H : Type} (h : Heap) (vs : List AV) (ds : List (DataW H)) (hr : RdArgs Try.prog h [22, 3] vs ds) : ∃ xs : vdens [.one .slice, .one (.int .i64)], ∃ h', VTy.tos _ xs = vs ∧ (fun (x : vdens [.one .slice, .one (.int .i64)]) h => f6 2000 x.1 x.2.1 h) xs h = some (true, h') := by
  obtain ⟨c0, d0, _, _, rfl, rfl, r0, hr⟩ := hr.cons_inv
  obtain ⟨c1, d1, _, _, rfl, rfl, r1, hr⟩ := hr.cons_inv
  obtain ⟨rfl, rfl⟩ := hr.nil_inv
  obtain ⟨s, ss, d, rfl, hrow⟩ := rows_of r0
  obtain ⟨n1, rfl, _⟩ := Rd.int_inv undP3 r1
  obtain ⟨h', e⟩ := renamed_law hrow n1
  refine ⟨(s, n1, ()), h', ?_, e⟩
  simp [VTy.tos, VTy.to, CTy.to, argOf, undP3, undP22]
end Go.Proofs.Ythpplekbeecdfaa.Gb

open Go Go.Proofs.Ythpplekbeecdfaa.Ai Go.Proofs
namespace Go.Proofs.Ythpplekbeecdfaa.Gb
variable {N : Nat} {s : SL} {l : List Int} {ss : List SL} {d : List (List Int)} {B : Nat} {h0 : Heap}
/-! plain: how far it is back -/
structure Bk (d : List (List Int)) (at' : Nat) (t i : Nat) (far : List Int) : Prop where
  len : far.length = d.length
  atz : far.getD at' (-1) = 0
  rng : ∀ k, -1 ≤ far.getD k (-1) ∧ far.getD k (-1) ≤ (if i = 0 then t else t + 1 : Nat)
  zero : ∀ k, far.getD k (-1) = 0 → k = at'
  stp : ∀ x, x < d.length → 0 < far.getD x (-1) → ∃ k ∈ d.getD x [], far.getD k.toNat (-1) = far.getD x (-1) - 1
  clo : ∀ x, x < d.length → ∀ k ∈ d.getD x [], 0 ≤ far.getD k.toNat (-1) → far.getD k.toNat (-1) < t → 0 ≤ far.getD x (-1) ∧ far.getD x (-1) ≤ far.getD k.toNat (-1) + 1
  now : ∀ x, x < i → ∀ k ∈ d.getD x [], far.getD k.toNat (-1) = t → 0 ≤ far.getD x (-1)
theorem setg_ne (lv : List Int) {a k : Nat} (v : Int) (h : a ≠ k) : (lv.set a v).getD k (-1) = lv.getD k (-1) := by
  simp only [List.getD_eq_getElem?_getD, List.getElem?_set, h, if_false]
theorem setg_eq (lv : List Int) {a : Nat} (v : Int) (h : a < lv.length) : (lv.set a v).getD a (-1) = v := by
  simp [List.getD_eq_getElem?_getD, h]
theorem Bk.skip {at' t i : Nat} {far : List Int} (hb : Bk d at' t i far) (hi : i < d.length) (hno : ∀ k ∈ d.getD i [], far.getD k.toNat (-1) = t → 0 ≤ far.getD i (-1)) : Bk d at' t (i + 1) far :=
  ⟨hb.len, hb.atz, fun k => by have := hb.rng k; rw [if_neg (by omega)]; split at this <;> omega, hb.zero, hb.stp, hb.clo, fun x hx k hk he => by
    by_cases hxi : x = i
    · subst hxi; exact hno k hk he
    · exact hb.now x (by omega) k hk he⟩
theorem Bk.take {at' t i : Nat} {far : List Int} (hb : Bk d at' t i far) (hi : i < d.length) (hneg : far.getD i (-1) < 0) {k0 : Int} (hk0 : k0 ∈ d.getD i []) (he0 : far.getD k0.toNat (-1) = t) : Bk d at' t (i + 1) (far.set i ((t : Int) + 1)) := by
  have hil : i < far.length := by rw [hb.len]; exact hi
  have hfi : far.getD i (-1) = -1 := by have := hb.rng i; omega
  have get : ∀ k, (far.set i ((t : Int) + 1)).getD k (-1) = if k = i then (t : Int) + 1 else far.getD k (-1) := by
    intro k
    by_cases h : k = i
    · subst h; rw [if_pos rfl, setg_eq far _ hil]
    · rw [if_neg h, setg_ne far _ (fun e => h e.symm)]
  have nat : at' ≠ i := fun e => by subst e; have := hb.atz; omega
  refine ⟨by simp [hb.len], by rw [get, if_neg nat]; exact hb.atz, fun k => ?_, fun k hk => ?_, fun x hx hp => ?_, fun x hx k hk h1 h2 => ?_, fun x hx k hk h1 => ?_⟩
  · rw [get, if_neg (show ¬ i + 1 = 0 by omega)]
    have := hb.rng k
    split
    · omega
    · split at this <;> omega
  · rw [get] at hk
    split at hk
    · omega
    · exact hb.zero k hk
  · rw [get] at hp
    by_cases hxi : x = i
    · subst hxi
      refine ⟨k0, hk0, ?_⟩
      rw [get, get, if_pos rfl]
      have : k0.toNat ≠ x := fun e => by rw [e, hfi] at he0; omega
      rw [if_neg this, he0]; omega
    · rw [if_neg hxi] at hp
      obtain ⟨k, hk, hke⟩ := hb.stp x hx hp
      refine ⟨k, hk, ?_⟩
      rw [get, get, if_neg hxi]
      have : k.toNat ≠ i := fun e => by rw [e, hfi] at hke; omega
      rw [if_neg this]; exact hke
  · rw [get] at h1 h2 ⊢
    by_cases hki : k.toNat = i
    · rw [if_pos hki] at h2; omega
    · rw [if_neg hki] at h1 h2
      have := hb.clo x hx k hk h1 h2
      rw [get, if_neg hki]
      split
      · rename_i e; subst e; omega
      · exact this
  · rw [get] at h1 ⊢
    by_cases hki : k.toNat = i
    · rw [if_pos hki] at h1; omega
    · rw [if_neg hki] at h1
      by_cases hxi : x = i
      · rw [if_pos hxi]; omega
      · rw [if_neg hxi]
        exact hb.now x (by omega) k hk h1
theorem Bk.round {at' t : Nat} {far : List Int} (hb : Bk d at' t d.length far) (hd : 0 < d.length) : Bk d at' (t + 1) 0 far := by
  refine ⟨hb.len, hb.atz, fun k => ?_, hb.zero, hb.stp, fun x hx k hk h1 h2 => ?_, fun x hx => by omega⟩
  · have := hb.rng k
    rw [if_neg (by omega)] at this
    rw [if_pos rfl]; exact this
  · by_cases he : far.getD k.toNat (-1) = t
    · have h3 := hb.now x hx k hk he
      have h4 := hb.rng x
      rw [if_neg (by omega)] at h4
      omega
    · exact hb.clo x hx k hk h1 (by omega)
/-- things that are all unlike, in a range, are no more than it has -/
theorem nodup_len {n : Nat} : ∀ (l : List Int), l.Nodup → (∀ x ∈ l, 0 ≤ x ∧ x < n) → ∃ dn : List Bool, dn.length = n ∧ dn.count true = l.length ∧ ∀ x : Int, 0 ≤ x → x < n → (dn.getD x.toNat false = true ↔ x ∈ l)
  | [], _, _ => ⟨List.replicate n false, by simp, by rw [count_rep]; rfl, fun x _ _ => by
      simp [List.getD_eq_getElem?_getD, List.getElem?_replicate]
      split <;> simp⟩
  | y :: r, hnd, hin => by
    obtain ⟨h1, h2⟩ := List.nodup_cons.1 hnd
    obtain ⟨dn, h3, h4, h5⟩ := nodup_len r h2 fun x hx => hin x (by simp [hx])
    have hy := hin y (by simp)
    have hyl : y.toNat < dn.length := by omega
    have hf : dn.getD y.toNat false = false := by
      cases h : dn.getD y.toNat false with
      | false => rfl
      | true => exact absurd ((h5 y hy.1 hy.2).1 h) h1
    refine ⟨dn.set y.toNat true, by simp [h3], by rw [count_set_b _ _ hyl hf, h4]; simp, fun x hx0 hx1 => ?_⟩
    rw [getD_set_b _ _ _ hyl, h5 x hx0 hx1, List.mem_cons]
    constructor
    · rintro (h | h)
      · exact .inr h
      · left; omega
    · rintro (h | h)
      · right; rw [h]
      · exact .inl h
theorem nodup_le {n : Nat} {l : List Int} (h1 : l.Nodup) (h2 : ∀ x ∈ l, 0 ≤ x ∧ x < n) : l.length ≤ n := by
  obtain ⟨dn, h3, h4, _⟩ := nodup_len l h1 h2
  have := List.count_le_length (a := true) (l := dn)
  omega
theorem Bk.chain (hf : Fine d) {at' t i : Nat} {far : List Int} (hb : Bk d at' t i far) (hat : at' < d.length) : ∀ (f : Nat) (x : Nat), x < d.length → far.getD x (-1) = f → ∃ l : List Int, l.Nodup ∧ l.length = f + 1 ∧ (∀ y ∈ l, 0 ≤ y ∧ y < d.length ∧ far.getD y.toNat (-1) ≤ f)
  | 0, x, hx, hfx => ⟨[(x : Int)], by simp, rfl, fun y hy => by
      rcases List.mem_singleton.1 hy with rfl
      simp only [Int.toNat_natCast]; omega⟩
  | f + 1, x, hx, hfx => by
    obtain ⟨k, hk, hke⟩ := hb.stp x hx (by omega)
    have hkin := hf.inr x hx k hk
    obtain ⟨l, h1, h2, h3⟩ := Bk.chain hf hb hat f k.toNat (by omega) (by omega)
    refine ⟨(x : Int) :: l, List.nodup_cons.2 ⟨fun hm => ?_, h1⟩, by simp [h2], fun y hy => ?_⟩
    · have := (h3 _ hm).2.2
      simp only [Int.toNat_natCast] at this
      omega
    · rcases List.mem_cons.1 hy with rfl | hy
      · simp only [Int.toNat_natCast]; omega
      · have := h3 y hy; omega
/-- what is known of the ways back -/
structure Far (d : List (List Int)) (at' : Nat) (far : List Int) : Prop where
  len : far.length = d.length
  atz : far.getD at' (-1) = 0
  lo : ∀ k, -1 ≤ far.getD k (-1)
  hi : ∀ k, far.getD k (-1) < d.length
  zero : ∀ k, far.getD k (-1) = 0 → k = at'
  stp : ∀ x, x < d.length → 0 < far.getD x (-1) → ∃ k ∈ d.getD x [], far.getD k.toNat (-1) = far.getD x (-1) - 1
  clo : ∀ x, x < d.length → ∀ k ∈ d.getD x [], 0 ≤ far.getD k.toNat (-1) → 0 ≤ far.getD x (-1)
  few : ∀ x, x < d.length → ∀ k ∈ d.getD x [], 0 ≤ far.getD k.toNat (-1) → far.getD x (-1) ≤ far.getD k.toNat (-1) + 1
theorem Bk.far (hf : Fine d) {at' : Nat} {far : List Int} (hat : at' < d.length) (hb : Bk d at' d.length 0 far) : Far d at' far := by
  have hlt : ∀ k, far.getD k (-1) < d.length := by
    intro k
    rcases Nat.lt_or_ge k d.length with hk | hk
    · have h1 := hb.rng k
      by_cases h2 : 0 ≤ far.getD k (-1)
      · obtain ⟨l, q1, q2, q3⟩ := hb.chain hf hat (far.getD k (-1)).toNat k hk (by omega)
        have := nodup_le q1 (n := d.length) (fun y hy => ⟨(q3 y hy).1, (q3 y hy).2.1⟩)
        omega
      · omega
    · have : far.getD k (-1) = -1 := by rw [List.getD_eq_getElem?_getD, List.getElem?_eq_none (by rw [hb.len]; exact hk)]; rfl
      omega
  exact ⟨hb.len, hb.atz, fun k => (hb.rng k).1, hlt, hb.zero, hb.stp, fun x hx k hk h1 => (hb.clo x hx k hk h1 (hlt _)).1, fun x hx k hk h1 => (hb.clo x hx k hk h1 (hlt _)).2⟩
theorem Far.reach {at' : Nat} (hf : Fine d) {far : List Int} (hr : Far d at' far) {x y : Int} (h : Reach d x y) : 0 ≤ x → x < d.length → 0 ≤ far.getD y.toNat (-1) → 0 ≤ far.getD x.toNat (-1) := by
  induction h with
  | one h => intro h1 h2 h3; exact hr.clo _ (by omega) _ h h3
  | @step y k h1 h2 ih =>
    intro h3 h4 h5
    have := h1.inr hf
    exact ih h3 h4 (hr.clo _ (by omega) _ h2 h5)
end Go.Proofs.Ythpplekbeecdfaa.Gb

open Go Go.Proofs.Ythpplekbeecdfaa.Ai Go.Proofs
namespace Go.Proofs.Ythpplekbeecdfaa.Gb
variable {d : List (List Int)} {f t i j : Nat} {o : List Int}
/-! plain: by how few steps a thing is needed -/
def frn (f t : Nat) (o : List Int) (y : Nat) : Prop := if t = 0 then y = f else o.getD y (-1) = t
structure Fw (d : List (List Int)) (f t i j : Nat) (o : List Int) : Prop where
  len : o.length = d.length
  lo : ∀ k, o.getD k (-1) = -1 ∨ 1 ≤ o.getD k (-1)
  hi : ∀ k, o.getD k (-1) ≤ t + 1
  one : ∀ x : Nat, o.getD x (-1) = 1 → (x : Int) ∈ d.getD f []
  stp : ∀ x : Nat, 1 < o.getD x (-1) → ∃ y, y < d.length ∧ (x : Int) ∈ d.getD y [] ∧ o.getD y (-1) = o.getD x (-1) - 1
  clo0 : 1 ≤ t → ∀ k ∈ d.getD f [], o.getD k.toNat (-1) = 1
  clo : ∀ y, y < d.length → 0 < o.getD y (-1) → o.getD y (-1) < t → ∀ k ∈ d.getD y [], 0 < o.getD k.toNat (-1) ∧ o.getD k.toNat (-1) ≤ o.getD y (-1) + 1
  now : ∀ y, y < i → frn f t o y → ∀ k ∈ d.getD y [], 0 < o.getD k.toNat (-1)
  row : frn f t o i → ∀ k ∈ (d.getD i []).take j, 0 < o.getD k.toNat (-1)
theorem Fw.keep (hb : Fw d f t i j o) (hj : j < (d.getD i []).length) (h : 0 < o.getD (d.getD i [])[j].toNat (-1)) : Fw d f t i (j + 1) o :=
  ⟨hb.len, hb.lo, hb.hi, hb.one, hb.stp, hb.clo0, hb.clo, hb.now, fun hf k hk => by
    rw [List.take_succ_eq_append_getElem hj, List.mem_append] at hk
    rcases hk with hk | hk
    · exact hb.row hf k hk
    · rw [List.mem_singleton.1 hk]; exact h⟩
theorem Fw.put (hb : Fw d f t i j o) (hi : i < d.length) (hfr : frn f t o i) (hj : j < (d.getD i []).length) (hin : 0 ≤ (d.getD i [])[j] ∧ (d.getD i [])[j] < d.length) (h : o.getD (d.getD i [])[j].toNat (-1) = -1) : Fw d f t i (j + 1) (o.set (d.getD i [])[j].toNat ((t : Int) + 1)) := by
  have hmem : (d.getD i [])[j] ∈ d.getD i [] := List.getElem_mem hj
  have htk : (d.getD i []).take (j + 1) = (d.getD i []).take j ++ [(d.getD i [])[j]] := List.take_succ_eq_append_getElem hj
  generalize hx : (d.getD i [])[j] = x at *
  have hxl : x.toNat < o.length := by rw [hb.len]; omega
  have get : ∀ k, (o.set x.toNat ((t : Int) + 1)).getD k (-1) = if k = x.toNat then (t : Int) + 1 else o.getD k (-1) := by
    intro k
    by_cases h : k = x.toNat
    · rw [if_pos h, h, setg_eq o _ hxl]
    · rw [if_neg h, setg_ne o _ (fun e => h e.symm)]
  have frn_iff : ∀ y, frn f t (o.set x.toNat ((t : Int) + 1)) y → frn f t o y := by
    intro y hy
    unfold frn at hy ⊢
    split at hy
    · rename_i h0; rw [if_pos h0]; exact hy
    · rename_i h0
      rw [if_neg h0]
      rw [get] at hy
      split at hy
      · omega
      · exact hy
  have pos : ∀ k, 0 < o.getD k (-1) → 0 < (o.set x.toNat ((t : Int) + 1)).getD k (-1) := by
    intro k hk; rw [get]; split
    · omega
    · exact hk
  refine ⟨by simp [hb.len], fun k => ?_, fun k => ?_, fun k hk => ?_, fun k hk => ?_, fun ht k hk => ?_, fun y hy h1 h2 k hk => ?_, fun y hy hfy k hk => pos _ (hb.now y hy (frn_iff y hfy) k hk), fun hfi k hk => ?_⟩
  · rw [get]; split
    · right; omega
    · exact hb.lo k
  · rw [get]; split
    · omega
    · exact hb.hi k
  · rw [get] at hk
    split at hk
    · rename_i e
      have ht : t = 0 := by omega
      unfold frn at hfr
      rw [if_pos ht] at hfr
      subst hfr
      rw [show ((k : Nat) : Int) = x by omega]; exact hmem
    · exact hb.one k hk
  · rw [get] at hk ⊢
    by_cases e : k = x.toNat
    · rw [if_pos e] at hk ⊢
      have ht : ¬ t = 0 := by omega
      unfold frn at hfr
      rw [if_neg ht] at hfr
      refine ⟨i, hi, by rw [show ((k : Nat) : Int) = x by omega]; exact hmem, ?_⟩
      rw [get, if_neg (fun e2 => by rw [e2] at hfr; omega), hfr]; omega
    · rw [if_neg e] at hk ⊢
      obtain ⟨y, h1, h2, h3⟩ := hb.stp k hk
      refine ⟨y, h1, h2, ?_⟩
      rw [get, if_neg (fun e2 => by rw [e2] at h3; omega), h3]
  · have := hb.clo0 ht k hk
    rw [get, if_neg (fun e => by rw [e] at this; omega), this]
  · rw [get] at h1 h2 ⊢
    by_cases e : y = x.toNat
    · rw [if_pos e] at h2; omega
    · rw [if_neg e] at h1 h2
      have := hb.clo y hy h1 h2 k hk
      rw [get, if_neg e, if_neg (fun e => by rw [e] at this; omega)]
      exact this
  · rw [htk, List.mem_append] at hk
    rcases hk with hk | hk
    · exact pos _ (hb.row (frn_iff i hfi) k hk)
    · rw [List.mem_singleton.1 hk, get, if_pos rfl]; omega
theorem Fw.rowEnd (hb : Fw d f t i j o) (h : ¬ frn f t o i ∨ j = (d.getD i []).length) : Fw d f t (i + 1) 0 o :=
  ⟨hb.len, hb.lo, hb.hi, hb.one, hb.stp, hb.clo0, hb.clo, fun y hy hfy k hk => by
    by_cases e : y = i
    · subst e
      rcases h with h | h
      · exact absurd hfy h
      · refine hb.row hfy k ?_
        rw [h, List.take_length]; exact hk
    · exact hb.now y (by omega) hfy k hk, fun _ k hk => by simp at hk⟩
theorem Fw.round (hf : f < d.length) (hb : Fw d f t d.length 0 o) : Fw d f (t + 1) 0 0 o := by
  refine ⟨hb.len, hb.lo, fun k => by have := hb.hi k; omega, hb.one, hb.stp, fun _ k hk => ?_, fun y hy h1 h2 k hk => ?_, fun y hy => by omega, fun _ k hk => by simp at hk⟩
  · by_cases ht : t = 0
    · have h1 := hb.now f hf (by unfold frn; rw [if_pos ht]) k hk
      have h2 := hb.hi k.toNat
      subst ht; omega
    · exact hb.clo0 (by omega) k hk
  · by_cases e : o.getD y (-1) = t
    · have h3 := hb.now y hy (by unfold frn; rw [if_neg (by omega)]; exact e) k hk
      have h4 := hb.hi k.toNat
      omega
    · exact hb.clo y hy h1 (by omega) k hk
theorem Fw.start (n : Nat) (hn : n = d.length) : Fw d f 0 0 0 (List.replicate n (-1)) := by
  have g : ∀ k, (List.replicate n (-1 : Int)).getD k (-1) = -1 := by
    intro k
    rw [List.getD_eq_getElem?_getD, List.getElem?_replicate]; split <;> rfl
  refine ⟨by simp [hn], fun k => .inl (g k), fun k => by rw [g]; omega, fun x hx => by rw [g] at hx; omega, fun x hx => by rw [g] at hx; omega, fun h => by omega, fun y hy h1 => by rw [g] at h1; omega, fun y hy => by omega, fun _ k hk => by simp at hk⟩
theorem Fw.chain (hb : Fw d f t i j o) : ∀ (m : Nat) (x : Nat), x < d.length → o.getD x (-1) = ((m + 1 : Nat) : Int) → ∃ l : List Int, l.Nodup ∧ l.length = m + 1 ∧ (∀ y ∈ l, 0 ≤ y ∧ y < d.length ∧ 0 < o.getD y.toNat (-1) ∧ o.getD y.toNat (-1) ≤ ((m + 1 : Nat) : Int))
  | 0, x, hx, hfx => ⟨[(x : Int)], by simp, rfl, fun y hy => by
      rcases List.mem_singleton.1 hy with rfl
      simp only [Int.toNat_natCast]; omega⟩
  | m + 1, x, hx, hfx => by
    obtain ⟨y, hy, _, hye⟩ := hb.stp x (by omega)
    obtain ⟨l, h1, h2, h3⟩ := Fw.chain hb m y hy (by omega)
    refine ⟨(x : Int) :: l, List.nodup_cons.2 ⟨fun hm => ?_, h1⟩, by simp [h2], fun z hz => ?_⟩
    · have := (h3 _ hm).2.2.2
      simp only [Int.toNat_natCast] at this
      omega
    · rcases List.mem_cons.1 hz with rfl | hz
      · simp only [Int.toNat_natCast]; omega
      · have := h3 z hz; omega
/-- the steps, all done -/
theorem Fw.closed (hfi : Fine d) (hb : Fw d f d.length 0 0 o) {y : Nat} (hy : y < d.length) (h1 : 0 < o.getD y (-1)) {k : Int} (hk : k ∈ d.getD y []) : 0 < o.getD k.toNat (-1) := by
  have hkin := hfi.inr y hy k hk
  by_cases h2 : o.getD y (-1) < d.length
  · exact (hb.clo y hy h1 h2 k hk).1
  · obtain ⟨l, q1, q2, q3⟩ := hb.chain (o.getD y (-1) - 1).toNat y hy (by omega)
    rcases hb.lo k.toNat with e | e
    · have hnd : (k :: l).Nodup := List.nodup_cons.2 ⟨fun hm => by have := (q3 _ hm).2.2.1; omega, q1⟩
      have := nodup_le hnd (n := d.length) (fun z hz => by
        rcases List.mem_cons.1 hz with rfl | hz
        · exact hkin
        · have := q3 z hz; omega)
      rw [List.length_cons] at this
      omega
    · omega
theorem Fw.reach (hfi : Fine d) (hf : f < d.length) (hb : Fw d f d.length 0 0 o) {k : Int} : Reach d (f : Int) k → 0 < o.getD k.toNat (-1) := by
  intro h
  induction h with
  | one h =>
    rw [Int.toNat_natCast] at h
    rw [hb.clo0 (by omega) _ h]; omega
  | step h1 h2 ih =>
    have := h1.inr hfi
    exact hb.closed hfi (by omega) ih h2
theorem Fw.reached (hb : Fw d f t i j o) : ∀ (m : Nat) (x : Nat), o.getD x (-1) = ((m + 1 : Nat) : Int) → Reach d (f : Int) (x : Int)
  | 0, x, hx => .one (by rw [Int.toNat_natCast]; exact hb.one x (by omega))
  | m + 1, x, hx => by
    obtain ⟨y, hy, hm, hye⟩ := hb.stp x (by omega)
    exact .step (Fw.reached hb m y (by omega)) (by rw [Int.toNat_natCast]; exact hm)
end Go.Proofs.Ythpplekbeecdfaa.Gb

open Go Go.Proofs.Ythpplekbeecdfaa.Ai Go.Proofs
namespace Go.Proofs.Ythpplekbeecdfaa.Gb
variable {N : Nat} {s : SL} {l : List Int} {ss : List SL} {d : List (List Int)} {B : Nat} {h0 : Heap} {f t : Nat}
theorem st_init (v0 : SL) (v1 : Int) {sv : SL} {n : Nat} (hn : n ≤ 1000) : ∀ (M i : Nat) (h : Heap), i ≤ n → n - i < M → Keep B h0 h → B ≤ h0.next → Own1 B h sv ((List.replicate i (-1 : Int) ++ List.replicate (n - i) 0).map (AV.int .i64)) →
    ∃ h', f42_l1 N M v0 v1 sv (i : Int) h = some (.exit 0, (v0, v1, sv, ()), h') ∧ Keep B h0 h' ∧ Own1 B h' sv ((List.replicate n (-1 : Int)).map (AV.int .i64)) := by
  intro M
  induction M with
  | zero => intro i h h1 h2; omega
  | succ M ih =>
    intro i h h1 h2 hk hb0 ho
    rw [f42_l1_succ]
    unfold f42_l1_b
    have hl : sv.len = n := by have := ho.len; simp only [List.length_map, List.length_append, List.length_replicate] at this; omega
    by_cases hi : i < n
    · have ew : wrapA .i64 ((i : Int) + 1) = ((i + 1 : Nat) : Int) := wrapA_small (by omega) (by omega)
      obtain ⟨h1', e1, o1, b1, n1⟩ := store_own1 ho (i := i) (by simp; omega) (AV.int .i64 (-1))
      have ix : ∀ {β : Type} (K : Nat × Nat → Option β), ixK sv.a sv.len (i : Int) 1 K = K (sv.at i 1) := fun K => by
        rw [ho.one.ixz (x := (i : Int)) (by omega) (by simp; omega)]; simp only [Int.toNat_natCast]
      have hlt : ltInt (i : Int) (Int.ofNat sv.len) = true := by rw [hl, Int.ofNat_eq_natCast, nat_i]; simp only [hi, decide_true]
      simp only [hlt, cond_true, ix, e1, need_some, ew]
      have hnx := hk.next
      refine ih (i + 1) h1' (by omega) (by omega) (hk.trans (b1.keep (by omega) (fun A hA => (ho.ge A hA).1))) hb0 ?_
      rw [← List.map_set] at o1
      have : (List.replicate i (-1 : Int) ++ List.replicate (n - i) 0).set i (-1) = List.replicate (i + 1) (-1 : Int) ++ List.replicate (n - (i + 1)) 0 := by
        rw [List.set_append_right _ _ (by simp), List.length_replicate, Nat.sub_self, show n - i = (n - (i + 1)) + 1 by omega, List.replicate_succ, List.set_cons_zero, List.replicate_succ', List.append_assoc]
        rfl
      rw [this] at o1; exact o1
    · have : i = n := by omega
      subst this
      have hlt : ltInt (i : Int) (Int.ofNat sv.len) = false := by rw [hl, Int.ofNat_eq_natCast, nat_i]; simp
      exact ⟨h, by simp only [hlt, cond_false], hk, by simpa using ho⟩
theorem st_row (hr : RowsB B h0 s ss d) (hf : Fine d) {sv : SL} {i : Nat} (hi : i < d.length) (v1 : Int) (ht : t ≤ 64) : ∀ (M j : Nat) (h : Heap) (o : List Int), j ≤ (d.getD i []).length → (d.getD i []).length - j < M → Keep B h0 h → B ≤ h0.next → Own1 B h sv (o.map (AV.int .i64)) → Fw d f t i j o → frn f t o i →
    ∃ h' o', f42_l4 N M s v1 sv ((t + 1 : Nat) : Int) (i : Int) (j : Int) h = some (.exit 6, (s, v1, sv, ((t + 1 : Nat) : Int), (i : Int), ()), h') ∧ Keep B h0 h' ∧ Own1 B h' sv (List.map (AV.int .i64) o') ∧ Fw d f t (i + 1) 0 o' := by
  intro M
  induction M with
  | zero => intro j h o h1 h2; omega
  | succ M ih =>
    intro j h o h1 h2 hk hb0 ho hb hfr
    rw [f42_l4_succ]
    unfold f42_l4_b
    have hrr := (hr.keep hk).r
    have hrow := hrr.row i hi
    have hrl := hf.row i hi
    have hlen := hf.len
    have rs : ∀ {β : Type} (K : SL → Option β), (ixK s.a s.len (i : Int) 1 fun q => bindV (.val (.one .slice)) (h.cell q) K) = K (ss.getD i nilS) := fun K => by
      rw [hrr.top.sl (x := (i : Int)) (by omega) (by rw [hrr.len]; omega)]; simp only [Int.toNat_natCast]
    simp only [rs, Ints.len hrow, Int.ofNat_eq_natCast, nat_i]
    by_cases hj : j < (d.getD i []).length
    · have ew : wrapA .i64 ((j : Int) + 1) = ((j + 1 : Nat) : Int) := wrapA_small (by omega) (by omega)
      have hin := hf.inr i hi _ (List.getElem_mem hj)
      have ri : ∀ {β : Type} (K : Int → Option β), (ixK (ss.getD i nilS).a (d.getD i []).length (j : Int) 1 fun q => bindV (.val (.one (.int .i64))) (h.cell q) K) = K (d.getD i [])[j] := fun K => by
        rw [← Ints.len hrow, hrow.int (x := (j : Int)) (by omega) (by omega)]; simp only [Int.toNat_natCast, getD_lt _ _ hj]
      have gfx : ∀ k : Nat, k < o.length → o.getD k 0 = o.getD k (-1) := fun k hk => by rw [getD_lt _ _ hk, getD_lt _ _ hk]
      have gf := gfx (d.getD i [])[j].toNat (by rw [hb.len]; omega)
      have ro : ∀ {β : Type} (K : Int → Option β), (ixK sv.a sv.len (d.getD i [])[j] 1 fun q => bindV (.val (.one (.int .i64))) (h.cell q) K) = K (o.getD (d.getD i [])[j].toNat (-1)) := fun K => by
        rw [ho.one.int hin.1 (by rw [hb.len]; omega), gf]
      have ix : ∀ {β : Type} (K : Nat × Nat → Option β), ixK sv.a sv.len (d.getD i [])[j] 1 K = K (sv.at (d.getD i [])[j].toNat 1) := fun K => ho.one.ixz hin.1 (by rw [List.length_map, hb.len]; omega) K
      simp only [hj, decide_true, cond_true, ri, ro, ltInt_dec, ix]
      rcases hb.lo (d.getD i [])[j].toNat with e | e
      · obtain ⟨h1', e1, o1, b1, n1⟩ := store_own1 ho (i := (d.getD i [])[j].toNat) (by rw [List.length_map, hb.len]; omega) (AV.int .i64 ((t + 1 : Nat) : Int))
        rw [← List.map_set] at o1
        have hput := hb.put hi hfr hj hin e
        have hfr' : frn f t (o.set (d.getD i [])[j].toNat ((t : Int) + 1)) i := by
          unfold frn at hfr ⊢
          split
          · rename_i h0; rw [if_pos h0] at hfr; exact hfr
          · rename_i h0
            rw [if_neg h0] at hfr
            rw [setg_ne _ _ (fun e2 => by rw [← e2, e] at hfr; omega)]; exact hfr
        have hc : ((t + 1 : Nat) : Int) = (t : Int) + 1 := by omega
        rw [hc] at e1 o1
        simp only [e, show ((-1 : Int) < 0) by omega, decide_true, cond_true, hc, e1, need_some, bind2_some, ew]
        rw [← hc]
        have hnx := hk.next
        exact ih (j + 1) h1' _ (by omega) (by omega) (hk.trans (b1.keep (by omega) (fun A hA => (ho.ge A hA).1))) hb0 o1 hput hfr'
      · simp only [show ¬ (o.getD (d.getD i [])[j].toNat (-1) < 0) by omega, decide_false, cond_false, bind2_some, ew]
        exact ih (j + 1) h o (by omega) (by omega) hk hb0 ho (hb.keep hj (by omega)) hfr
    · have : j = (d.getD i []).length := by omega
      subst this
      exact ⟨h, o, by simp, hk, ho, hb.rowEnd (.inr rfl)⟩
theorem st_round (hr : RowsB B h0 s ss d) (hf : Fine d) (hN : 1000 ≤ N) {sv : SL} (ht : t ≤ 64) : ∀ (M i : Nat) (h : Heap) (o : List Int), i ≤ d.length → d.length - i < M → Keep B h0 h → B ≤ h0.next → Own1 B h sv (o.map (AV.int .i64)) → Fw d f t i 0 o →
    ∃ h' o', f42_l3 N M s (f : Int) sv ((t + 1 : Nat) : Int) (i : Int) h = some (.exit 4, (s, (f : Int), sv, ((t + 1 : Nat) : Int), ()), h') ∧ Keep B h0 h' ∧ Own1 B h' sv (List.map (AV.int .i64) o') ∧ Fw d f t d.length 0 o' := by
  intro M
  induction M with
  | zero => intro i h o h1 h2; omega
  | succ M ih =>
    intro i h o h1 h2 hk hb0 ho hb
    rw [f42_l3_succ]
    unfold f42_l3_b
    have hlen := hf.len
    by_cases hi : i < d.length
    · have ew : wrapA .i64 ((i : Int) + 1) = ((i + 1 : Nat) : Int) := wrapA_small (by omega) (by omega)
      have ew1 : wrapA .i64 (((t + 1 : Nat) : Int) - 1) = (t : Int) := by rw [show ((t + 1 : Nat) : Int) - 1 = (t : Int) by omega]; exact wrapA_small (by omega) (by omega)
      have gf : o.getD i 0 = o.getD i (-1) := by
        rw [getD_lt _ _ (by rw [hb.len]; omega), getD_lt _ _ (by rw [hb.len]; omega)]
      have ro : ∀ {β : Type} (K : Int → Option β), (ixK sv.a sv.len (i : Int) 1 fun q => bindV (.val (.one (.int .i64))) (h.cell q) K) = K (o.getD i (-1)) := fun K => by
        rw [ho.one.int (x := (i : Int)) (by omega) (by rw [hb.len]; omega), Int.toNat_natCast, gf]
      have yes : frn f t o i → ∃ h' o', f42_l4 N N s (f : Int) sv ((t + 1 : Nat) : Int) (i : Int) 0 h = some (.exit 6, (s, (f : Int), sv, ((t + 1 : Nat) : Int), (i : Int), ()), h') ∧ Keep B h0 h' ∧ Own1 B h' sv (List.map (AV.int .i64) o') ∧ Fw d f t (i + 1) 0 o' := fun hfr => by
        have := st_row (N := N) hr hf (sv := sv) hi (f : Int) ht N 0 h o (by omega) (by have := hf.row i hi; omega) hk hb0 ho hb hfr
        simpa only [Int.ofNat_zero] using this
      by_cases ht0 : t = 0
      · have e1 : eqInt ((t + 1 : Nat) : Int) 1 = true := by rw [eqInt_dec]; simp only [decide_eq_true_eq]; omega
        have l1 : ltInt 1 ((t + 1 : Nat) : Int) = false := by rw [ltInt_dec]; simp only [decide_eq_false_iff_not]; omega
        by_cases hif : i = f
        · obtain ⟨h1', o1', e4, k1, o1, b1⟩ := yes (by unfold frn; rw [if_pos ht0]; exact hif)
          obtain ⟨h2', o2', e5, r⟩ := ih (i + 1) h1' o1' (by omega) (by omega) k1 hb0 o1 b1
          have e2 : eqInt (i : Int) (f : Int) = true := by rw [eqInt_dec]; simp only [decide_eq_true_eq]; omega
          refine ⟨h2', o2', ?_, r⟩
          simp only [hr.r.slen, Int.ofNat_eq_natCast, nat_i, hi, decide_true, cond_true, e1, e2, Bool.not_true, cond_false, l1, need_some, jcase, e4, bind3_some, bind2_some, ew]
          exact e5
        · obtain ⟨h2', o2', e5, r⟩ := ih (i + 1) h o (by omega) (by omega) hk hb0 ho (hb.rowEnd (.inl (by unfold frn; rw [if_pos ht0]; exact hif)))
          have e2 : eqInt (i : Int) (f : Int) = false := by rw [eqInt_dec]; simp only [decide_eq_false_iff_not]; omega
          refine ⟨h2', o2', ?_, r⟩
          simp only [hr.r.slen, Int.ofNat_eq_natCast, nat_i, hi, decide_true, cond_true, e1, e2, Bool.not_false, need_some, jcase, bind2_some, ew]
          exact e5
      · have e1 : eqInt ((t + 1 : Nat) : Int) 1 = false := by rw [eqInt_dec]; simp only [decide_eq_false_iff_not]; omega
        have l1 : ltInt 1 ((t + 1 : Nat) : Int) = true := by rw [ltInt_dec]; simp only [decide_eq_true_eq]; omega
        by_cases hif : o.getD i (-1) = t
        · obtain ⟨h1', o1', e4, k1, o1, b1⟩ := yes (by unfold frn; rw [if_neg ht0]; exact hif)
          obtain ⟨h2', o2', e5, r⟩ := ih (i + 1) h1' o1' (by omega) (by omega) k1 hb0 o1 b1
          have e2 : eqInt (o.getD i (-1)) (t : Int) = true := by rw [eqInt_dec]; simp only [decide_eq_true_eq]; omega
          refine ⟨h2', o2', ?_, r⟩
          simp only [hr.r.slen, Int.ofNat_eq_natCast, nat_i, hi, decide_true, cond_true, e1, cond_false, l1, ro, ew1, e2, Bool.not_true, need_some, jcase, e4, bind3_some, bind2_some, ew]
          exact e5
        · obtain ⟨h2', o2', e5, r⟩ := ih (i + 1) h o (by omega) (by omega) hk hb0 ho (hb.rowEnd (.inl (by unfold frn; rw [if_neg ht0]; exact hif)))
          have e2 : eqInt (o.getD i (-1)) (t : Int) = false := by rw [eqInt_dec]; simp only [decide_eq_false_iff_not]; omega
          refine ⟨h2', o2', ?_, r⟩
          simp only [hr.r.slen, Int.ofNat_eq_natCast, nat_i, hi, decide_true, cond_true, e1, cond_false, l1, ro, ew1, e2, Bool.not_false, need_some, jcase, bind2_some, ew]
          exact e5
    · have : i = d.length := by omega
      subst this
      exact ⟨h, o, by simp [nat_i, hr.r.slen], hk, ho, hb⟩
theorem st_rounds (hr : RowsB B h0 s ss d) (hf : Fine d) (hN : 1000 ≤ N) (hfl : f < d.length) {sv : SL} : ∀ (M t : Nat) (h : Heap) (o : List Int), t ≤ d.length → d.length - t < M → Keep B h0 h → B ≤ h0.next → Own1 B h sv (o.map (AV.int .i64)) → Fw d f t 0 0 o →
    ∃ h' o', f42_l2 N M s (f : Int) sv ((t + 1 : Nat) : Int) h = some (.exit 2, (sv, ()), h') ∧ Keep B h0 h' ∧ Own1 B h' sv (List.map (AV.int .i64) o') ∧ Fw d f d.length 0 0 o' := by
  intro M
  induction M with
  | zero => intro t h o h1 h2; omega
  | succ M ih =>
    intro t h o h1 h2 hk hb0 ho hb
    rw [f42_l2_succ]
    unfold f42_l2_b
    have hlen := hf.len
    by_cases ht : t < d.length
    · have ew : wrapA .i64 (((t + 1 : Nat) : Int) + 1) = ((t + 1 + 1 : Nat) : Int) := wrapA_small (by omega) (by omega)
      have hle : leInt ((t + 1 : Nat) : Int) (d.length : Int) = true := by rw [leInt_dec]; simp only [decide_eq_true_eq]; omega
      obtain ⟨h1', o1', e1, k1, o1, b1⟩ := st_round (N := N) (f := f) hr hf hN (sv := sv) (t := t) (by omega) N 0 h o (by omega) (by omega) hk hb0 ho hb
      simp only [Int.ofNat_zero] at e1
      simp only [hr.r.slen, Int.ofNat_eq_natCast, hle, cond_true, e1, bind3_some, ew]
      exact ih (t + 1) h1' o1' (by omega) (by omega) k1 hb0 o1 (b1.round hfl)
    · have : t = d.length := by omega
      subst this
      have hle : leInt ((d.length + 1 : Nat) : Int) (d.length : Int) = false := by rw [leInt_dec]; simp only [decide_eq_false_iff_not]; omega
      exact ⟨h, o, by simp only [hr.r.slen, Int.ofNat_eq_natCast, hle, cond_false], hk, ho, hb⟩
theorem steps_spec {h : Heap} (hr : RowsB B h s ss d) (hb : B ≤ h.next) (hf : Fine d) (hN : 1000 ≤ N) (hfl : f < d.length) :
    ∃ s' h' o, f42 N s (f : Int) h = some (s', h') ∧ Keep h.next h h' ∧ Own1 h.next h' s' (List.map (AV.int .i64) o) ∧ Fw d f d.length 0 0 o := by
  have hlen := hf.len
  obtain ⟨m1, m2⟩ := make1 app26 (.int .i64 0) app26z rfl d.length (by omega) h
  generalize hH : h.push (.row (List.replicate d.length (.int .i64 0)) .own) = H at *
  have kb : Keep h.next h H := by rw [← hH]; exact (Keep.refl _ _).push (Nat.le_refl _) _
  have hHn : H.next = h.next + 1 := by rw [← hH]; rfl
  have rH := (hr.mono hb).keep kb
  obtain ⟨h1, e1, k1, o1⟩ := st_init (N := N) (B := h.next) (h0 := H) s (f : Int) (sv := ⟨some (h.next, 0), d.length, d.length, 1⟩) (n := d.length) (by omega) N 0 H (by omega) (by omega) (Keep.refl _ _) (by omega) (by simpa using m2)
  obtain ⟨h3, o, e3, k3, o3, b3⟩ := st_rounds (N := N) rH hf hN hfl (sv := ⟨some (h.next, 0), d.length, d.length, 1⟩) N 0 h1 _ (by omega) (by omega) k1 (by omega) o1 (Fw.start d.length rfl)
  refine ⟨⟨some (h.next, 0), d.length, d.length, 1⟩, h3, o, ?_, kb.trans k3, o3, b3⟩
  simp only [Int.ofNat_zero, Nat.zero_add] at e1 e3
  have e3' : f42_l2 N N s (f : Int) ⟨some (h.next, 0), d.length, d.length, 1⟩ 1 h1 = some (.exit 2, (⟨some (h.next, 0), d.length, d.length, 1⟩, ()), h3) := e3
  unfold f42
  simp only [hr.r.slen, Int.ofNat_eq_natCast, m1, bindT_some, cast_slice, e1, bind3_some, e3']
end Go.Proofs.Ythpplekbeecdfaa.Gb

open Go Go.Proofs.Ythpplekbeecdfaa.Ai Go.Proofs
namespace Go.Proofs.Ythpplekbeecdfaa.Gb
variable {N : Nat} {s : SL} {l : List Int} {ss : List SL} {ll : List (List Int)} {B : Nat} {h0 : Heap}
/-! the document's order -/
structure Rst (B : Nat) (h0 h : Heap) (sv ov : SL) (dn : List Bool) (out : List Int) : Prop where
  k : Keep B h0 h
  b0 : B ≤ h0.next
  s : Own1 B h sv (dn.map AV.bool)
  o : Own1 B h ov (out.map (AV.int .i64))
  ne : ∀ A, sv.blk = some A → ov.blk ≠ some A
theorem rscan4 {h : Heap} (hr : Rows h s ss ll) (hf : Fine ll) {sv : SL} {dn : List Bool} (hst : Own1 B h sv (dn.map AV.bool)) (hdl : dn.length = ll.length) {i : Nat} (hi : i < ll.length) (ov : SL) : ∀ (M j : Nat) (b : Bool), j ≤ (ll.getD i []).length → (ll.getD i []).length - j < M →
    f15_l4 N M s ov sv (i : Int) b (j : Int) h = some (.exit 6, (s, ov, sv, (i : Int), b && ((ll.getD i []).drop j).all (fun k => dn.getD k.toNat false), ()), h) := by
  intro M
  induction M with
  | zero => intro j b h1 h2; omega
  | succ M ih =>
    intro j b h1 h2
    rw [f15_l4_succ]
    unfold f15_l4_b
    have hrow := hr.row i hi
    have hrl := hf.row i hi
    have hlen := hf.len
    have rs : ∀ {β : Type} (K : SL → Option β), (ixK s.a s.len (i : Int) 1 fun q => bindV (.val (.one .slice)) (h.cell q) K) = K (ss.getD i nilS) := fun K => by
      rw [hr.top.sl (x := (i : Int)) (by omega) (by rw [hr.len]; omega)]; simp only [Int.toNat_natCast]
    simp only [rs, Ints.len hrow, Int.ofNat_eq_natCast, nat_i]
    by_cases hj : j < (ll.getD i []).length
    · have ew : wrapA .i64 ((j : Int) + 1) = ((j + 1 : Nat) : Int) := wrapA_small (by omega) (by omega)
      have hin := hf.inr i hi _ (List.getElem_mem hj)
      have hd : (ll.getD i []).drop j = (ll.getD i [])[j] :: (ll.getD i []).drop (j + 1) := List.drop_eq_getElem_cons hj
      have ri : ∀ {β : Type} (K : Int → Option β), (ixK (ss.getD i nilS).a (ll.getD i []).length (j : Int) 1 fun q => bindV (.val (.one (.int .i64))) (h.cell q) K) = K (ll.getD i [])[j] := fun K => by
        rw [← Ints.len hrow, hrow.int (x := (j : Int)) (by omega) (by omega)]; simp only [Int.toNat_natCast, getD_lt _ _ hj]
      have rb : ∀ {β : Type} (K : Bool → Option β), (ixK sv.a sv.len (ll.getD i [])[j] 1 fun q => bindV (.val (.one .bool)) (h.cell q) K) = K (dn.getD (ll.getD i [])[j].toNat false) := fun K => hst.one.bool hin.1 (by omega) K
      simp only [hj, decide_true, cond_true, ri, rb, ew, hd, List.all_cons]
      cases b with
      | true =>
        simp only [cond_true, Bool.true_and]
        exact ih (j + 1) _ (by omega) (by omega)
      | false =>
        simp only [cond_false, Bool.false_and]
        rw [ih (j + 1) _ (by omega) (by omega)]; simp
    · have : j = (ll.getD i []).length := by omega
      subst this
      simp
theorem rscan3 (hr : RowsB B h0 s ss ll) (hf : Fine ll) (hN : 1000 ≤ N) {sv ov : SL} {dn : List Bool} {out : List Int} {h : Heap} (hdl : dn.length = ll.length) (hol : out.length ≤ 64) (ho : Rst B h0 h sv ov dn out) : ∀ (M i : Nat), i ≤ ll.length → ll.length - i < M →
    ∃ ov' h', f15_l3 N M s ov sv (i : Int) h = some (.exit 4, (s, ov', sv, ()), h') ∧
      (match pick ll dn (ll.length - i) i with | some j => Rst B h0 h' sv ov' (dn.set j true) (out ++ [(j : Int)]) | none => Rst B h0 h' sv ov' dn out) := by
  intro M
  induction M with
  | zero => intro i h1 h2; omega
  | succ M ih =>
    intro i h1 h2
    rw [f15_l3_succ]
    unfold f15_l3_b
    have hlen := hf.len
    by_cases hi : i < ll.length
    · have ew : wrapA .i64 ((i : Int) + 1) = ((i + 1 : Nat) : Int) := wrapA_small (by omega) (by omega)
      have hrk := hr.keep ho.k
      have hrl := hf.row i hi
      have hp : pick ll dn (ll.length - i) i = if ready ll dn i then some i else pick ll dn (ll.length - (i + 1)) (i + 1) := by
        rw [show ll.length - i = (ll.length - (i + 1)) + 1 by omega]; rfl
      have rb : ∀ {β : Type} (K : Bool → Option β), (ixK sv.a sv.len (i : Int) 1 fun q => bindV (.val (.one .bool)) (h.cell q) K) = K (dn.getD i false) := fun K => by
        rw [ho.s.one.bool (x := (i : Int)) (by omega) (by omega)]; simp only [Int.toNat_natCast]
      have e4 := rscan4 (N := N) hrk.r hf ho.s hdl hi ov N 0 (!dn.getD i false) (by omega) (by omega)
      simp only [Int.ofNat_zero, List.drop_zero] at e4
      simp only [hr.r.slen, Int.ofNat_eq_natCast, nat_i, hi, decide_true, cond_true, rb, e4, bind3_some, ew, hp]
      have hrd : ready ll dn i = (!dn.getD i false && (ll.getD i []).all fun k => dn.getD k.toNat false) := rfl
      rw [← hrd]
      cases hb : ready ll dn i with
      | false =>
        simp only [cond_false, Bool.false_eq_true, if_false]
        exact ih (i + 1) (by omega) (by omega)
      | true =>
        simp only [cond_true, if_true]
        have hnx := ho.k.next
        have hb0 := ho.b0
        obtain ⟨h1', e1, o1, b1, n1⟩ := store_own1 ho.s (i := i) (by rw [List.length_map]; omega) (AV.bool true)
        have oo := ho.o.but b1 (fun A hA e => ho.ne A e hA)
        have k1 : Keep B h h1' := b1.keep (by omega) (fun A hA => (ho.s.ge A hA).1)
        obtain ⟨ov', h2', e2, o2, b2, c2⟩ := append_own1 app26 (v := AV.int .i64 (i : Int)) rfl oo (by omega) (by rw [List.length_map]; omega)
        have ix : ∀ {β : Type} (K : Nat × Nat → Option β), ixK sv.a sv.len (i : Int) 1 K = K (sv.at i 1) := fun K => by
          rw [ho.s.one.ixz (x := (i : Int)) (by omega) (by rw [List.length_map]; omega)]; simp only [Int.toNat_natCast]
        simp only [ix, e1, need_some]
        rw [e2]
        simp only [bindT_some, cast_slice]
        have k2 : Keep B h1' h2' := b2.keep (by omega) (fun A hA => (oo.ge A hA).1)
        refine ⟨ov', h2', rfl, ho.k.trans (k1.trans k2), hb0, ?_, by rw [List.map_append]; exact o2, fun A hA e => ?_⟩
        · rw [List.map_set]; exact o1.but b2 (fun A hA e => ho.ne A hA e)
        · rcases c2 with c2 | ⟨A', c2, c3⟩
          · exact ho.ne A hA (c2 ▸ e)
          · rw [c2] at e; cases e
            have := (ho.s.ge A hA).2; omega
    · have : i = ll.length := by omega
      subst this
      exact ⟨ov, h, by simp [nat_i, hr.r.slen], by simpa [pick] using ho⟩
theorem rorder_loop (hr : RowsB B h0 s ss ll) (hf : Fine ll) (ha : Acyclic ll) (hN : 1000 ≤ N) {sv : SL} : ∀ (M : Nat) (h : Heap) (ov : SL) (dn : List Bool) (out : List Int), out.length ≤ ll.length → ll.length - out.length < M → Rst B h0 h sv ov dn out → Topo ll dn out →
    ∃ ov' h' dn' out', f15_l2 N M s ov sv h = some (.exit 2, (ov', ()), h') ∧ Rst B h0 h' sv ov' dn' out' ∧ Topo ll dn' out' ∧ out'.length = ll.length := by
  intro M
  induction M with
  | zero => intro h ov dn out h1 h2; omega
  | succ M ih =>
    intro h ov dn out h1 h2 ho ht
    rw [f15_l2_succ]
    unfold f15_l2_b
    have hlen := hf.len
    have hol : ov.len = out.length := by have := ho.o.len; simpa using this
    by_cases hlt : out.length < ll.length
    · obtain ⟨ov1, h1', e1, hp⟩ := rscan3 (N := N) hr hf hN ht.len (by omega) ho N 0 (by omega) (by omega)
      obtain ⟨j, hj1, hj2, hj3⟩ := ht.more hf ha hlt
      rw [Nat.sub_zero, hj1] at hp
      simp only [Int.ofNat_zero] at e1
      obtain ⟨ov2, h2', dn2, out2, e2, ho2, ht2, hl2⟩ := ih h1' ov1 (dn.set j true) (out ++ [(j : Int)]) (by simp; omega) (by simp; omega) hp (ht.next hf hj2 hj3)
      refine ⟨ov2, h2', dn2, out2, ?_, ho2, ht2, hl2⟩
      simp only [hol, hr.r.slen, Int.ofNat_eq_natCast, nat_i, hlt, decide_true, cond_true, e1, bind3_some]
      exact e2
    · refine ⟨ov, h, dn, out, ?_, ho, ht, by omega⟩
      simp only [hol, hr.r.slen, Int.ofNat_eq_natCast, nat_i, hlt, decide_false, cond_false]
theorem rring_loop (hf : Fine ll) (hN : 1000 ≤ N) (v2 : SL) (v3 v4 : Int) : ∀ (M i : Nat) (h : Heap), i ≤ ll.length → ll.length - i < M → RowsB B h s ss ll → B ≤ h.next → (∀ j : Nat, j < i → ¬ Reach ll (j : Int) (j : Int)) →
    (∃ h', f15_l1 N M s v2 v3 v4 (i : Int) h = some (.exit 0, (s, v2, v3, v4, ()), h') ∧ Keep B h h' ∧ ∀ j : Nat, j < ll.length → ¬ Reach ll (j : Int) (j : Int)) ∨
    (∃ (h' : Heap) (j : Nat), f15_l1 N M s v2 v3 v4 (i : Int) h = some (.ret, (s, nilS, 42, (j : Int), ()), h') ∧ Keep B h h' ∧ j < ll.length ∧ Reach ll (j : Int) (j : Int) ∧ ∀ k : Nat, k < j → ¬ Reach ll (k : Int) (k : Int)) := by
  intro M
  induction M with
  | zero => intro i h h1 h2; omega
  | succ M ih =>
    intro i h h1 h2 hr hb hno
    have hlen := hf.len
    rw [f15_l1_succ]
    unfold f15_l1_b
    by_cases hi : i < ll.length
    · have ew : wrapA .i64 ((i : Int) + 1) = ((i + 1 : Nat) : Int) := wrapA_small (by omega) (by omega)
      obtain ⟨s1, h1', o, e1, k1, o1, fw⟩ := steps_spec (N := N) hr hb hf hN hi
      have k1' := k1.mono hb
      have ro : ∀ {β : Type} (K : Int → Option β), (ixK s1.a s1.len (i : Int) 1 fun q => bindV (.val (.one (.int .i64))) (h1'.cell q) K) = K (o.getD i (-1)) := fun K => by
        rw [o1.one.int (x := (i : Int)) (by omega) (by rw [fw.len]; omega), Int.toNat_natCast, getD_lt _ _ (by rw [fw.len]; omega), getD_lt _ _ (by rw [fw.len]; omega)]
      have hnx := k1.next
      simp only [hr.r.slen, Int.ofNat_eq_natCast, nat_i, hi, decide_true, cond_true, e1, bind2_some, ro]
      by_cases hp : 0 < o.getD i (-1)
      · have hlt : ltInt 0 (o.getD i (-1)) = true := by rw [ltInt_dec]; simp only [decide_eq_true_eq]; exact hp
        simp only [hlt, cond_true]
        exact .inr ⟨h1', i, rfl, k1', hi, fw.reached (o.getD i (-1) - 1).toNat i (by omega), hno⟩
      · have hlt : ltInt 0 (o.getD i (-1)) = false := by rw [ltInt_dec]; simp only [decide_eq_false_iff_not]; exact hp
        have hni : ¬ Reach ll (i : Int) (i : Int) := fun hx => hp (by simpa using fw.reach hf hi hx)
        simp only [hlt, cond_false, ew]
        rcases ih (i + 1) h1' (by omega) (by omega) (hr.keep k1') (by omega) (fun j hj => by
          by_cases e : j = i
          · subst e; exact hni
          · exact hno j (by omega)) with ⟨h2', e2, k2, x⟩ | ⟨h2', j, e2, k2, x⟩
        · exact .inl ⟨h2', e2, k1'.trans k2, x⟩
        · exact .inr ⟨h2', j, e2, k1'.trans k2, x⟩
    · have : i = ll.length := by omega
      subst this
      exact .inl ⟨h, by simp [nat_i, hr.r.slen], Keep.refl _ _, hno⟩
/-- the document's order: as the program's -/
theorem rOrder_spec {h : Heap} (hf : Fine ll) (hN : 1000 ≤ N) (hr : RowsB B h s ss ll) (hb : B ≤ h.next) :
    (∃ s' h' out, f15 N s h = some ((s', 0, 0, ()), h') ∧ Keep B h h' ∧ Own1 B h' s' (List.map (AV.int .i64) out) ∧ Acyclic ll ∧ Whole ll out) ∨
    (∃ (h' : Heap) (j : Nat), f15 N s h = some ((nilS, 42, (j : Int), ()), h') ∧ Keep B h h' ∧ j < ll.length ∧ Reach ll (j : Int) (j : Int) ∧ ∀ k : Nat, k < j → ¬ Reach ll (k : Int) (k : Int)) := by
  have hlen := hf.len
  have hbad := bad_spec (N := N) hr.r (by omega)
  rw [badOf_none.2 hf] at hbad
  have e00 : eqInt 0 0 = true := rfl
  rcases rring_loop (N := N) hf hN nilS 0 0 N 0 h (by omega) (by omega) hr hb (fun j hj => by omega) with ⟨h1, e1, k1, ha⟩ | ⟨h1, j, e1, k1, h2, h3, h4⟩
  · left
    have hac := acyclic_of hf ha
    have hnx := k1.next
    simp only [Int.ofNat_zero] at e1
    obtain ⟨m1, m2⟩ := make1 app43 (.bool false) (by kernel_rfl) rfl ll.length (by omega) h1
    have kb : Keep B h (h1.push (.row (List.replicate ll.length (.bool false)) .own)) := k1.push hb _
    have hr1 := hr.keep kb
    have ho : Rst B (h1.push (.row (List.replicate ll.length (.bool false)) .own)) (h1.push (.row (List.replicate ll.length (.bool false)) .own)) ⟨some (h1.next, 0), ll.length, ll.length, 1⟩ nilS (List.replicate ll.length false) [] := by
      refine ⟨Keep.refl _ _, by simp; omega, ?_, Own1.nil _ _ _, fun A hA => by simp [SL.blk]⟩
      rw [List.map_replicate]
      rcases m2 with ⟨h2, _⟩ | ⟨A, cs, st, h2, h3, h4, h5⟩
      · cases h2
      · exact .inr ⟨A, cs, st, h2, h3, by omega, h5⟩
    obtain ⟨ov, h2, dn, out, e2, ho2, ht2, hl2⟩ := rorder_loop (N := N) hr1 hf hac hN N _ nilS _ [] (by simp) (by simp; omega) ho Topo.start
    refine ⟨ov, h2, out, ?_, kb.trans ho2.k, ho2.o, hac, ht2.whole hl2⟩
    unfold f15
    simp only [hbad, bind2_some, e00, Bool.not_true, cond_false, e1, bind3_some, eqOut_exit, decide_true, cond_true, hr.r.slen, Int.ofNat_eq_natCast, m1, bindT_some, cast_slice, e2]
  · right
    simp only [Int.ofNat_zero] at e1
    refine ⟨h1, j, ?_, k1, h2, h3, h4⟩
    unfold f15
    simp only [hbad, bind2_some, e00, Bool.not_true, cond_false, e1, bind3_some, eqOut_ret]
theorem rOrder_bad {h : Heap} (hN : 1000 ≤ N) (hr : Rows h s ss ll) {c : Int} {j : Nat} (hb : badOf ll = some (c, j)) (hc : c ≠ 0) : f15 N s h = some ((nilS, c, (j : Int), ()), h) := by
  have hbad := bad_spec (N := N) hr (by omega)
  rw [hb] at hbad
  have e0 : eqInt c 0 = false := by rw [eqInt_dec]; simp only [decide_eq_false_iff_not]; exact hc
  unfold f15
  simp only [hbad, bind2_some, e0, Bool.not_false, cond_true]
end Go.Proofs.Ythpplekbeecdfaa.Gb

open Go Go.Proofs.Ythpplekbeecdfaa.Ai Go.Proofs
namespace Go.Proofs.Ythpplekbeecdfaa.Gb
variable {N : Nat} {s : SL} {ss : List SL} {ll : List (List Int)} {B : Nat} {h0 : Heap}
/-! two lists of numbers -/
theorem same_loop {h : Heap} {a b : SL} {la lb : List Int} (ha : Ints h a la) (hb : Ints h b lb) (hl : la.length = lb.length) (hla : la.length ≤ 1000) (v : Bool) : ∀ (M i : Nat), i ≤ la.length → la.length - i < M →
    f18_l1 N M a b v (i : Int) h = if la.drop i = lb.drop i then some (.exit 0, (v, ()), h) else some (.ret, (false, ()), h) := by
  intro M
  induction M with
  | zero => intro i h1 h2; omega
  | succ M ih =>
    intro i h1 h2
    rw [f18_l1_succ]
    unfold f18_l1_b
    by_cases hi : i < la.length
    · have ew : wrapA .i64 ((i : Int) + 1) = ((i + 1 : Nat) : Int) := wrapA_small (by omega) (by omega)
      have hda : la.drop i = la[i] :: la.drop (i + 1) := List.drop_eq_getElem_cons hi
      have hdb : lb.drop i = lb[i] :: lb.drop (i + 1) := List.drop_eq_getElem_cons (by omega)
      have ra : ∀ {β : Type} (K : Int → Option β), (ixK a.a a.len (i : Int) 1 fun q => bindV (.val (.one (.int .i64))) (h.cell q) K) = K la[i] := fun K => by
        rw [ha.int (x := (i : Int)) (by omega) (by omega), Int.toNat_natCast, getD_lt _ _ hi]
      have rb : ∀ {β : Type} (K : Int → Option β), (ixK b.a b.len (i : Int) 1 fun q => bindV (.val (.one (.int .i64))) (h.cell q) K) = K lb[i] := fun K => by
        rw [hb.int (x := (i : Int)) (by omega) (by omega), Int.toNat_natCast, getD_lt _ _ (by omega)]
      have hlt : ltInt (i : Int) (a.len : Int) = true := by rw [Ints.len ha, nat_i]; simp only [hi, decide_true]
      simp only [Int.ofNat_eq_natCast, hlt, cond_true, ra, rb, eqInt_dec, hda, hdb, ew, List.cons.injEq]
      by_cases he : la[i] = lb[i]
      · simp only [he, decide_true, Bool.not_true, cond_false, true_and]
        exact ih (i + 1) (by omega) (by omega)
      · simp only [he, decide_false, Bool.not_false, cond_true, false_and, if_false]
    · have : i = la.length := by omega
      subst this
      have hlt : ltInt (la.length : Int) (a.len : Int) = false := by rw [Ints.len ha, nat_i]; simp
      simp only [Int.ofNat_eq_natCast, hlt, cond_false]
      rw [List.drop_length, hl, List.drop_length, if_pos rfl]
theorem same_spec {h : Heap} {a b : SL} {la lb : List Int} (ha : Ints h a la) (hb : Ints h b lb) (hN : 1001 ≤ N) (hla : la.length ≤ 1000) : f18 N a b h = some (decide (la = lb), h) := by
  unfold f18
  by_cases hl : la.length = lb.length
  · have e1 : eqInt (a.len : Int) (b.len : Int) = true := by rw [Ints.len ha, Ints.len hb, hl, eqInt_dec]; simp
    have e2 := same_loop (N := N) ha hb hl hla false N 0 (by omega) (by omega)
    simp only [Int.ofNat_zero, List.drop_zero] at e2
    simp only [Int.ofNat_eq_natCast, e1, Bool.not_true, cond_false, e2]
    by_cases he : la = lb
    · simp only [he, if_true, bind3_some, eqOut_exit, decide_true, cond_true]
    · simp only [he, if_false, bind3_some, eqOut_ret, cond_false, decide_false]
  · have e1 : eqInt (a.len : Int) (b.len : Int) = false := by rw [Ints.len ha, Ints.len hb, eqInt_dec]; simp only [decide_eq_false_iff_not]; omega
    have he : ¬ la = lb := fun e => hl (by rw [e])
    simp only [Int.ofNat_eq_natCast, e1, Bool.not_false, cond_true, he, decide_false]
/-- the order that takes the least thing that is ready, again and again -/
def orderF (ll : List (List Int)) : Nat → List Bool → List Int → List Int
  | 0, _, out => out
  | m + 1, dn, out => match pick ll dn ll.length 0 with | some j => orderF ll m (dn.set j true) (out ++ [(j : Int)]) | none => out
end Go.Proofs.Ythpplekbeecdfaa.Gb

open Go Go.Proofs.Ythpplekbeecdfaa.Ai Go.Proofs
namespace Go.Proofs.Ythpplekbeecdfaa.Gb
variable {N : Nat} {s : SL} {l : List Int} {ss : List SL} {ll : List (List Int)} {B : Nat} {h0 : Heap}
theorem order_loopF (hr : RowsB B h0 s ss ll) (hf : Fine ll) (ha : Acyclic ll) (hN : 1000 ≤ N) {sv : SL} : ∀ (M : Nat) (h : Heap) (ov : SL) (dn : List Bool) (out : List Int), out.length ≤ ll.length → ll.length - out.length < M → Ost B h0 h sv ov dn out → Topo ll dn out →
    ∃ ov' h' dn' out', f14_l1 N M s sv ov h = some (.exit 0, (ov', ()), h') ∧ Ost B h0 h' sv ov' dn' out' ∧ Topo ll dn' out' ∧ out'.length = ll.length ∧ out' = orderF ll (ll.length - out.length) dn out := by
  intro M
  induction M with
  | zero => intro h ov dn out h1 h2; omega
  | succ M ih =>
    intro h ov dn out h1 h2 ho ht
    rw [f14_l1_succ]
    unfold f14_l1_b
    have hlen := hf.len
    have hol : ov.len = out.length := by have := ho.o.len; simpa using this
    by_cases hlt : out.length < ll.length
    · obtain ⟨ov1, h1', e1, hp⟩ := scan2 (N := N) hr hf hN ht.len (by omega) ho N 0 (by omega) (by omega)
      obtain ⟨j, hj1, hj2, hj3⟩ := ht.more hf ha hlt
      rw [Nat.sub_zero, hj1] at hp
      simp only [Int.ofNat_zero] at e1
      obtain ⟨ov2, h2', dn2, out2, e2, ho2, ht2, hl2, hq2⟩ := ih h1' ov1 (dn.set j true) (out ++ [(j : Int)]) (by simp; omega) (by simp; omega) hp (ht.next hf hj2 hj3)
      refine ⟨ov2, h2', dn2, out2, ?_, ho2, ht2, hl2, by rw [hq2, List.length_append, List.length_singleton, show ll.length - out.length = (ll.length - (out.length + 1)) + 1 by omega]; simp only [orderF, hj1]⟩
      simp only [hol, hr.r.slen, Int.ofNat_eq_natCast, nat_i, hlt, decide_true, cond_true, e1, bind3_some]
      exact e2
    · refine ⟨ov, h, dn, out, ?_, ho, ht, by omega, by rw [show ll.length - out.length = 0 by omega]; rfl⟩
      simp only [hol, hr.r.slen, Int.ofNat_eq_natCast, nat_i, hlt, decide_false, cond_false]
theorem rorder_loopF (hr : RowsB B h0 s ss ll) (hf : Fine ll) (ha : Acyclic ll) (hN : 1000 ≤ N) {sv : SL} : ∀ (M : Nat) (h : Heap) (ov : SL) (dn : List Bool) (out : List Int), out.length ≤ ll.length → ll.length - out.length < M → Rst B h0 h sv ov dn out → Topo ll dn out →
    ∃ ov' h' dn' out', f15_l2 N M s ov sv h = some (.exit 2, (ov', ()), h') ∧ Rst B h0 h' sv ov' dn' out' ∧ Topo ll dn' out' ∧ out'.length = ll.length ∧ out' = orderF ll (ll.length - out.length) dn out := by
  intro M
  induction M with
  | zero => intro h ov dn out h1 h2; omega
  | succ M ih =>
    intro h ov dn out h1 h2 ho ht
    rw [f15_l2_succ]
    unfold f15_l2_b
    have hlen := hf.len
    have hol : ov.len = out.length := by have := ho.o.len; simpa using this
    by_cases hlt : out.length < ll.length
    · obtain ⟨ov1, h1', e1, hp⟩ := rscan3 (N := N) hr hf hN ht.len (by omega) ho N 0 (by omega) (by omega)
      obtain ⟨j, hj1, hj2, hj3⟩ := ht.more hf ha hlt
      rw [Nat.sub_zero, hj1] at hp
      simp only [Int.ofNat_zero] at e1
      obtain ⟨ov2, h2', dn2, out2, e2, ho2, ht2, hl2, hq2⟩ := ih h1' ov1 (dn.set j true) (out ++ [(j : Int)]) (by simp; omega) (by simp; omega) hp (ht.next hf hj2 hj3)
      refine ⟨ov2, h2', dn2, out2, ?_, ho2, ht2, hl2, by rw [hq2, List.length_append, List.length_singleton, show ll.length - out.length = (ll.length - (out.length + 1)) + 1 by omega]; simp only [orderF, hj1]⟩
      simp only [hol, hr.r.slen, Int.ofNat_eq_natCast, nat_i, hlt, decide_true, cond_true, e1, bind3_some]
      exact e2
    · refine ⟨ov, h, dn, out, ?_, ho, ht, by omega, by rw [show ll.length - out.length = 0 by omega]; rfl⟩
      simp only [hol, hr.r.slen, Int.ofNat_eq_natCast, nat_i, hlt, decide_false, cond_false]
end Go.Proofs.Ythpplekbeecdfaa.Gb

open Go Go.Proofs.Ythpplekbeecdfaa.Ai Go.Proofs
namespace Go.Proofs.Ythpplekbeecdfaa.Gb
variable {N : Nat} {s : SL} {l : List Int} {ss : List SL} {ll : List (List Int)} {B : Nat} {h0 : Heap}
theorem Order_specF {h : Heap} (hf : Fine ll) (hN : 1000 ≤ N) (hr : RowsB B h s ss ll) (hb : B ≤ h.next) :
    (∃ s' h' out, f14 N s h = some ((s', .nilIface, ()), h') ∧ Keep B h h' ∧ Own1 B h' s' (List.map (AV.int .i64) out) ∧ Acyclic ll ∧ Whole ll out ∧ out = orderF ll ll.length (List.replicate ll.length false) []) ∨
    (∃ (h' : Heap) (v : AV) (j : Nat), f14 N s h = some ((nilS, v, ()), h') ∧ Keep B h h' ∧ isErr h' v 42 j ∧ j < ll.length ∧ Reach ll (j : Int) (j : Int) ∧ ∀ k : Nat, k < j → ¬ Reach ll (k : Int) (k : Int)) := by
  have hlen := hf.len
  rcases check_spec (N := N) hf hN hr hb with ⟨h1, e1, k1, ha⟩ | ⟨h1, v, j, e1, k1, he, hx⟩
  · left
    have hnx := k1.next
    obtain ⟨m1, m2⟩ := make1 app26 (.int .i64 0) app26z rfl ll.length (by omega) h1
    have kb : Keep B h (h1.push (.row (List.replicate ll.length (.int .i64 0)) .own)) := k1.push hb _
    have hr1 : RowsB B (h1.push (.row (List.replicate ll.length (.int .i64 0)) .own)) s ss ll := hr.keep kb
    have ho : Ost B (h1.push (.row (List.replicate ll.length (.int .i64 0)) .own)) (h1.push (.row (List.replicate ll.length (.int .i64 0)) .own)) ⟨some (h1.next, 0), ll.length, ll.length, 1⟩ nilS (List.replicate ll.length false) [] := by
      refine ⟨Keep.refl _ _, by simp; omega, ?_, Own1.nil _ _ _, fun A hA => by simp [SL.blk]⟩
      rw [stL_rep, List.map_replicate]
      rcases m2 with ⟨h2, _⟩ | ⟨A, cs, st, h2, h3, h4, h5⟩
      · cases h2
      · exact .inr ⟨A, cs, st, h2, h3, by omega, h5⟩
    obtain ⟨ov, h2, dn, out, e2, ho2, ht2, hl2, hq2⟩ := order_loopF (N := N) hr1 hf ha hN N _ nilS _ [] (by simp) (by simp; omega) ho Topo.start
    have e2' : f14_l1 N N s ⟨some (h1.next, 0), ll.length, ll.length, 1⟩ ⟨none, 0, 0, 0⟩ (h1.push (.row (List.replicate ll.length (.int .i64 0)) .own)) = some (.exit 0, (ov, ()), h2) := e2
    refine ⟨ov, h2, out, ?_, kb.trans ho2.k, ho2.o, ha, ht2.whole hl2, hq2⟩
    unfold f14
    simp only [e1, bind2_some, nn15, bindV_some, cast_bool, cond_false, hr.r.slen, Int.ofNat_eq_natCast, m1, bindT_some, cast_slice, e2', bind3_some]
  · right
    obtain ⟨A, rfl, he2⟩ := he
    refine ⟨h1, _, j, ?_, k1, ⟨A, rfl, he2⟩, hx⟩
    unfold f14
    simp only [e1, bind2_some, nn15e, bindV_some, cast_bool, cond_true]
theorem rOrder_specF {h : Heap} (hf : Fine ll) (hN : 1000 ≤ N) (hr : RowsB B h s ss ll) (hb : B ≤ h.next) :
    (∃ s' h' out, f15 N s h = some ((s', 0, 0, ()), h') ∧ Keep B h h' ∧ Own1 B h' s' (List.map (AV.int .i64) out) ∧ Acyclic ll ∧ Whole ll out ∧ out = orderF ll ll.length (List.replicate ll.length false) []) ∨
    (∃ (h' : Heap) (j : Nat), f15 N s h = some ((nilS, 42, (j : Int), ()), h') ∧ Keep B h h' ∧ j < ll.length ∧ Reach ll (j : Int) (j : Int) ∧ ∀ k : Nat, k < j → ¬ Reach ll (k : Int) (k : Int)) := by
  have hlen := hf.len
  have hbad := bad_spec (N := N) hr.r (by omega)
  rw [badOf_none.2 hf] at hbad
  have e00 : eqInt 0 0 = true := rfl
  rcases rring_loop (N := N) hf hN nilS 0 0 N 0 h (by omega) (by omega) hr hb (fun j hj => by omega) with ⟨h1, e1, k1, ha⟩ | ⟨h1, j, e1, k1, h2, h3, h4⟩
  · left
    have hac := acyclic_of hf ha
    have hnx := k1.next
    simp only [Int.ofNat_zero] at e1
    obtain ⟨m1, m2⟩ := make1 app43 (.bool false) (by kernel_rfl) rfl ll.length (by omega) h1
    have kb : Keep B h (h1.push (.row (List.replicate ll.length (.bool false)) .own)) := k1.push hb _
    have hr1 := hr.keep kb
    have ho : Rst B (h1.push (.row (List.replicate ll.length (.bool false)) .own)) (h1.push (.row (List.replicate ll.length (.bool false)) .own)) ⟨some (h1.next, 0), ll.length, ll.length, 1⟩ nilS (List.replicate ll.length false) [] := by
      refine ⟨Keep.refl _ _, by simp; omega, ?_, Own1.nil _ _ _, fun A hA => by simp [SL.blk]⟩
      rw [List.map_replicate]
      rcases m2 with ⟨h2, _⟩ | ⟨A, cs, st, h2, h3, h4, h5⟩
      · cases h2
      · exact .inr ⟨A, cs, st, h2, h3, by omega, h5⟩
    obtain ⟨ov, h2, dn, out, e2, ho2, ht2, hl2, hq2⟩ := rorder_loopF (N := N) hr1 hf hac hN N _ nilS _ [] (by simp) (by simp; omega) ho Topo.start
    refine ⟨ov, h2, out, ?_, kb.trans ho2.k, ho2.o, hac, ht2.whole hl2, hq2⟩
    unfold f15
    simp only [hbad, bind2_some, e00, Bool.not_true, cond_false, e1, bind3_some, eqOut_exit, decide_true, cond_true, hr.r.slen, Int.ofNat_eq_natCast, m1, bindT_some, cast_slice, e2]
  · right
    simp only [Int.ofNat_zero] at e1
    refine ⟨h1, j, ?_, k1, h2, h3, h4⟩
    unfold f15
    simp only [hbad, bind2_some, e00, Bool.not_true, cond_false, e1, bind3_some, eqOut_ret]
end Go.Proofs.Ythpplekbeecdfaa.Gb

open Go Go.Proofs.Ythpplekbeecdfaa.Ai Go.Proofs
namespace Go.Proofs.Ythpplekbeecdfaa.Gb
variable {N : Nat} {s : SL} {l : List Int} {ss : List SL} {ll : List (List Int)} {B : Nat} {h0 : Heap}
/-- two levels of the same needs are one -/
theorem Levels.uniq (hf : Fine ll) (ha : Acyclic ll) {a b : List Int} (h1 : Levels ll a) (h2 : Levels ll b) : a = b := by
  have key : ∀ (m i : Nat), need' ll (i : Int) ≤ m → i < ll.length → a.getD i 0 = b.getD i 0 := by
    intro m
    induction m with
    | zero =>
      intro i hm hi
      rw [h1.eq i hi, h2.eq i hi]
      refine foldl_lv _ _ _ _ fun k hk => ?_
      have := need_lt hf ha (i := (i : Int)) (k := k) (by simpa using hk)
      omega
    | succ m ih =>
      intro i hm hi
      rw [h1.eq i hi, h2.eq i hi]
      refine foldl_lv _ _ _ _ fun k hk => ?_
      have hin := hf.inr i hi k hk
      have := need_lt hf ha (i := (i : Int)) (k := k) (by simpa using hk)
      exact ih k.toNat (by rw [show ((k.toNat : Nat) : Int) = k by omega]; omega) (by omega)
  apply List.ext_getElem (by rw [h1.len, h2.len])
  intro i hi1 hi2
  have := key _ i (Nat.le_refl _) (by rw [← h1.len]; exact hi1)
  rw [getD_lt _ _ hi1, getD_lt _ _ hi2] at this
  exact this
end Go.Proofs.Ythpplekbeecdfaa.Gb

open Go Go.Proofs.Ythpplekbeecdfaa.Ai Go.Proofs
namespace Go.Proofs.Ythpplekbeecdfaa.Gb
variable {N : Nat} {s : SL} {l : List Int} {ss : List SL} {ll : List (List Int)} {B : Nat} {h0 : Heap}
theorem rlev_row {lv : List Int} (hr : RowsB B h0 s ss ll) (hf : Fine ll) {os : SL} {out : List Int} (hos : Ints h0 os out) (hou : os.under B) (hb0 : B ≤ h0.next) {t : Nat} (ht : t < out.length) (hol : out.length ≤ 100) (hx : 0 ≤ out[t] ∧ out[t] < ll.length) (hlv : lv.length = ll.length) (hni : ∀ k ∈ ll.getD (out[t]).toNat [], k ≠ out[t]) (hbd : ∀ k, 0 ≤ lv.getD k 0 ∧ lv.getD k 0 ≤ 100000) {sv : SL} :
    ∀ (M j : Nat) (h : Heap) (a : Int), j ≤ (ll.getD (out[t]).toNat []).length → (ll.getD (out[t]).toNat []).length - j < M → Keep B h0 h → Own1 B h sv ((lv.set (out[t]).toNat a).map (AV.int .i64)) →
    ∃ h', f17_l2 N M s os sv (t : Int) (j : Int) h = some (.exit 2, (s, os, sv, (t : Int), ()), h') ∧ Keep B h0 h' ∧ Own1 B h' sv ((lv.set (out[t]).toNat (((ll.getD (out[t]).toNat []).drop j).foldl (fun a k => if a < lv.getD k.toNat 0 + 1 then lv.getD k.toNat 0 + 1 else a) a)).map (AV.int .i64)) := by
  intro M
  induction M with
  | zero => intro j h a h1 h2; omega
  | succ M ih =>
    intro j h a h1 h2 hk ho
    rw [f17_l2_succ]
    unfold f17_l2_b
    have hg : out.getD t 0 = out[t] := getD_lt _ _ ht
    generalize hxe : out[t] = x at *
    have hxi : x.toNat < ll.length := by omega
    have hrr := (hr.keep hk).r
    have hrow := hrr.row x.toNat hxi
    have hrl := hf.row x.toNat hxi
    have hlen := hf.len
    have hosk := One.keep hk hou hos
    have hnx := hk.next
    have rl : ∀ {β : Type} (K : Int → Option β), (ixK os.a os.len (t : Int) 1 fun q => bindV (.val (.one (.int .i64))) (h.cell q) K) = K x := fun K => by
      rw [hosk.int (x := (t : Int)) (by omega) (by omega), Int.toNat_natCast, hg]
    have rs : ∀ {β : Type} (K : SL → Option β), (ixK s.a s.len x 1 fun q => bindV (.val (.one .slice)) (h.cell q) K) = K (ss.getD x.toNat nilS) := fun K => hrr.top.sl hx.1 (by rw [hrr.len]; omega) K
    simp only [rl, rs, Ints.len hrow, Int.ofNat_eq_natCast, nat_i]
    by_cases hj : j < (ll.getD x.toNat []).length
    · have ew : wrapA .i64 ((j : Int) + 1) = ((j + 1 : Nat) : Int) := wrapA_small (by omega) (by omega)
      have hm := List.getElem_mem hj
      have hd : (ll.getD x.toNat []).drop j = (ll.getD x.toNat [])[j] :: (ll.getD x.toNat []).drop (j + 1) := List.drop_eq_getElem_cons hj
      have hin := hf.inr x.toNat hxi _ hm
      have hne := hni _ hm
      have ri : ∀ {β : Type} (K : Int → Option β), (ixK (ss.getD x.toNat nilS).a (ll.getD x.toNat []).length (j : Int) 1 fun q => bindV (.val (.one (.int .i64))) (h.cell q) K) = K (ll.getD x.toNat [])[j] := fun K => by
        rw [← Ints.len hrow, hrow.int (x := (j : Int)) (by omega) (by omega)]; simp only [Int.toNat_natCast, getD_lt _ _ hj]
      generalize hye : (ll.getD x.toNat [])[j] = y at *
      have x34 := hbd y.toNat
      have hsl : (lv.set x.toNat a).length = lv.length := by simp
      have rx : ∀ {β : Type} (K : Int → Option β), (ixK sv.a sv.len x 1 fun q => bindV (.val (.one (.int .i64))) (h.cell q) K) = K a := fun K => by
        rw [ho.one.int hx.1 (by rw [hsl]; omega), set_get_eq lv a (by omega)]
      have ry : ∀ {β : Type} (K : Int → Option β), (ixK sv.a sv.len y 1 fun q => bindV (.val (.one (.int .i64))) (h.cell q) K) = K (lv.getD y.toNat 0) := fun K => by
        rw [ho.one.int hin.1 (by rw [hsl]; omega), set_get_ne lv a (by omega)]
      have ix : ∀ {β : Type} (K : Nat × Nat → Option β), ixK sv.a sv.len x 1 K = K (sv.at x.toNat 1) := fun K => ho.one.ixz hx.1 (by rw [List.length_map, hsl]; omega) K
      have ew2 : wrapA .i64 (lv.getD y.toNat 0 + 1) = lv.getD y.toNat 0 + 1 := wrapA_small (by omega) (by omega)
      have hmax : (bif ltInt a (lv.getD y.toNat 0 + 1) then lv.getD y.toNat 0 + 1 else a) = if a < lv.getD y.toNat 0 + 1 then lv.getD y.toNat 0 + 1 else a := by
        rw [ltInt_dec]; by_cases h : a < lv.getD y.toNat 0 + 1 <;> simp [h]
      obtain ⟨h1', e1, o1, b1, n1⟩ := store_own1 ho (i := x.toNat) (by rw [List.length_map, hsl]; omega) (AV.int .i64 (if a < lv.getD y.toNat 0 + 1 then lv.getD y.toNat 0 + 1 else a))
      simp only [hj, decide_true, cond_true, ri, rx, ry, ix, ew2, hmax, e1, need_some, ew, hd, List.foldl_cons]
      refine ih (j + 1) h1' _ (by omega) (by omega) (hk.trans (b1.keep (by omega) (fun A hA => (ho.ge A hA).1))) ?_
      rw [← List.map_set, List.set_set] at o1
      exact o1
    · have : j = (ll.getD x.toNat []).length := by omega
      subst this
      exact ⟨h, by simp, hk, by simpa using ho⟩
end Go.Proofs.Ythpplekbeecdfaa.Gb

open Go Go.Proofs.Ythpplekbeecdfaa.Ai Go.Proofs
namespace Go.Proofs.Ythpplekbeecdfaa.Gb
variable {N : Nat} {s : SL} {l : List Int} {ss : List SL} {ll : List (List Int)} {B : Nat} {h0 : Heap}
theorem rlev_loop (hr : RowsB B h0 s ss ll) (hf : Fine ll) (hN : 1000 ≤ N) {os : SL} {out : List Int} (ho0 : Ints h0 os out) (hou : os.under B) (hw : Whole ll out) (hb0 : B ≤ h0.next) {sv : SL} : ∀ (M t : Nat) (h : Heap) (lv : List Int), t ≤ out.length → out.length - t < M → Keep B h0 h → Own1 B h sv (lv.map (AV.int .i64)) → Lev ll out t lv →
    ∃ h' lv', f17_l1 N M s os sv (t : Int) h = some (.exit 0, (sv, ()), h') ∧ Keep B h0 h' ∧ Own1 B h' sv (List.map (AV.int .i64) lv') ∧ Lev ll out out.length lv' := by
  intro M
  induction M with
  | zero => intro t h lv h1 h2; omega
  | succ M ih =>
    intro t h lv h1 h2 hk ho hl
    rw [f17_l1_succ]
    unfold f17_l1_b
    have hlen := hf.len
    have hwl := hw.len
    by_cases ht : t < out.length
    · have ew : wrapA .i64 ((t : Int) + 1) = ((t + 1 : Nat) : Int) := wrapA_small (by omega) (by omega)
      have hx := (hw.mem out[t]).1 (List.getElem_mem ht)
      have hxl : (out[t]).toNat < ll.length := by omega
      have hz : lv.getD (out[t]).toNat 0 = 0 := hl.zero _ hx.1 hx.2 (hw.nod t ht)
      have hset : lv.set (out[t]).toNat 0 = lv := by
        apply List.ext_getElem (by simp)
        intro i hi1 hi2
        rw [List.getElem_set]
        split
        · rename_i e
          have := getD_lt lv 0 hi2
          rw [← this, ← e, hz]
        · rfl
      obtain ⟨h1', e1, k1, o1⟩ := rlev_row (N := N) (lv := lv) hr hf ho0 hou hb0 ht (by omega) hx hl.len (fun k hk2 e => hw.nod t ht (e ▸ hw.dep t ht k hk2)) (fun k => by have := hl.bd k; omega) N 0 h 0 (by omega) (by have := hf.row _ hxl; omega) hk (by rw [hset]; exact ho)
      simp only [List.drop_zero, Int.ofNat_zero] at e1 o1
      obtain ⟨h2', lv', e2, k2, o2, hl2⟩ := ih (t + 1) h1' _ (by omega) (by omega) k1 o1 (hl.next hf hw ht)
      refine ⟨h2', lv', ?_, k2, o2, hl2⟩
      have hlt : ltInt (t : Int) (os.len : Int) = true := by rw [Ints.len ho0, nat_i]; simp only [ht, decide_true]
      simp only [Int.ofNat_eq_natCast, hlt, cond_true, e1, bind3_some, ew]
      exact e2
    · have : t = out.length := by omega
      subst this
      have hlt : ltInt (out.length : Int) (os.len : Int) = false := by rw [Ints.len ho0, nat_i]; simp
      exact ⟨h, lv, by simp only [Int.ofNat_eq_natCast, hlt, cond_false], hk, ho, hl⟩
theorem rLevels_spec {h : Heap} (hf : Fine ll) (hN : 1000 ≤ N) (hr : RowsB B h s ss ll) (hb : B ≤ h.next) :
    (∃ s' h' lv, f17 N s h = some ((s', 0, 0, ()), h') ∧ Keep B h h' ∧ Own1 B h' s' (List.map (AV.int .i64) lv) ∧ Acyclic ll ∧ Levels ll lv) ∨
    (∃ (h' : Heap) (j : Nat), f17 N s h = some ((nilS, 42, (j : Int), ()), h') ∧ Keep B h h' ∧ j < ll.length ∧ Reach ll (j : Int) (j : Int) ∧ ∀ k : Nat, k < j → ¬ Reach ll (k : Int) (k : Int)) := by
  have hlen := hf.len
  have z0 : eqInt 0 0 = true := rfl
  have z42 : eqInt 42 0 = false := rfl
  rcases rOrder_spec (N := N) hf hN hr hb with ⟨os, h1, out, e1, k1, o1, ha, hw⟩ | ⟨h1, j, e1, k1, hx⟩
  · left
    have hwl := hw.len
    have hnx := k1.next
    obtain ⟨m1, m2⟩ := make1 app26 (.int .i64 0) app26z rfl ll.length (by omega) h1
    generalize hH : h1.push (.row (List.replicate ll.length (.int .i64 0)) .own) = H at *
    have kb : Keep B h H := by rw [← hH]; exact k1.push hb _
    have kb1 : Keep h1.next h1 H := by rw [← hH]; exact (Keep.refl _ _).push (Nat.le_refl _) _
    have hHn : H.next = h1.next + 1 := by rw [← hH]; rfl
    have hoI : Ints H os out := One.keep kb1 o1.one.2.2.under o1.one
    have hrB : RowsB h1.next H s ss ll := (hr.keep kb).mono (by omega)
    have hz : Lev ll out 0 (List.replicate ll.length 0) := by
      have hno : ∀ k, (List.replicate ll.length (0 : Int)).getD k 0 = 0 := by
        intro k
        rw [List.getD_eq_getElem?_getD, List.getElem?_replicate]
        split <;> rfl
      exact ⟨by simp, fun x hx => by simp at hx, fun x _ _ _ => hno _, fun k => by rw [hno]; simp⟩
    obtain ⟨h2, lv, e2, k2, o2, hl⟩ := rlev_loop (N := N) (B := h1.next) (h0 := H) hrB hf hN hoI o1.one.2.2.under hw (by omega) N 0 H (List.replicate ll.length 0) (by omega) (by omega) (Keep.refl _ _) (by rw [List.map_replicate]; exact m2) hz
    simp only [Int.ofNat_zero] at e2
    refine ⟨⟨some (h1.next, 0), ll.length, ll.length, 1⟩, h2, lv, ?_, kb.trans (k2.mono (by omega)), ?_, ha, hl.len, fun k hk => ?_, fun k => ?_⟩
    · unfold f17
      simp only [e1, bind2_some, z0, Bool.not_true, cond_false, hr.r.slen, Int.ofNat_eq_natCast, m1, bindT_some, cast_slice, e2, bind3_some]
    · rcases o2 with ⟨h3, h4⟩ | ⟨A, cs, st, h3, h4, h5, h6⟩
      · exact .inl ⟨h3, h4⟩
      · exact .inr ⟨A, cs, st, h3, h4, by omega, h6⟩
    · have := hl.eq (k : Int) (by rw [List.take_length]; exact (hw.mem _).2 ⟨by omega, by omega⟩)
      simpa using this
    · have := hl.bd k
      omega
  · right
    refine ⟨h1, j, ?_, k1, hx⟩
    unfold f17
    simp only [e1, bind2_some, z42, Bool.not_false, cond_true]
end Go.Proofs.Ythpplekbeecdfaa.Gb

open Go Go.Proofs.Ythpplekbeecdfaa.Ai Go.Proofs
namespace Go.Proofs.Ythpplekbeecdfaa.Gb
variable {N : Nat} {s : SL} {ss : List SL} {ll : List (List Int)} {B : Nat} {h0 : Heap}
theorem rlist_loop {s' : SL} {o : List Int} (hol : o.length ≤ 64) (hb0 : B ≤ h0.next) : ∀ (M i : Nat) (h : Heap) (ov : SL), i ≤ o.length → o.length - i < M → Keep B h0 h → One h s' (o.map (AV.int .i64)) → Own1 B h ov ((belowL (o.map fun x => decide (0 < x)) i).map (AV.int .i64)) → (belowL (o.map fun x => decide (0 < x)) i).length ≤ i → s'.under h.next → (∀ A, s'.blk = some A → ov.blk ≠ some A) →
    ∃ ov' h', f22_l1 N M ov s' (i : Int) h = some (.exit 0, (ov', ()), h') ∧ Keep B h0 h' ∧ Own1 B h' ov' ((belowL (o.map fun x => decide (0 < x)) o.length).map (AV.int .i64)) := by
  intro M
  induction M with
  | zero => intro i h ov h1 h2; omega
  | succ M ih =>
    intro i h ov h1 h2 hk hs ho hbl hu hne
    rw [f22_l1_succ]
    unfold f22_l1_b
    have hsl : s'.len = o.length := Ints.len hs
    by_cases hi : i < o.length
    · have ew : wrapA .i64 ((i : Int) + 1) = ((i + 1 : Nat) : Int) := wrapA_small (by omega) (by omega)
      have hnx := hk.next
      have ri : ∀ {β : Type} (K : Int → Option β), (ixK s'.a s'.len (i : Int) 1 fun q => bindV (.val (.one (.int .i64))) (h.cell q) K) = K o[i] := fun K => by
        rw [One.int (l := o) hs (x := (i : Int)) (by omega) (by omega), Int.toNat_natCast, getD_lt _ _ hi]
      have hlt : ltInt (i : Int) (s'.len : Int) = true := by rw [hsl, nat_i]; simp only [hi, decide_true]
      have hg : (o.map fun x => decide (0 < x)).getD i false = decide (0 < o[i]) := by
        rw [getD_lt _ _ (by simpa using hi), List.getElem_map]
      simp only [Int.ofNat_eq_natCast, hlt, cond_true, ri, ltInt_dec, ew]
      by_cases hp : 0 < o[i]
      · obtain ⟨ov1, h1', e1, o1, b1, c1⟩ := append_own1 app26 (v := AV.int .i64 (i : Int)) rfl ho (by omega) (by rw [List.length_map]; omega)
        simp only [hp, decide_true, cond_true]
        rw [e1]
        simp only [bindT_some, cast_slice]
        have hb : belowL (o.map fun x => decide (0 < x)) (i + 1) = belowL (o.map fun x => decide (0 < x)) i ++ [(i : Int)] := by
          simp only [belowL, hg, hp, decide_true, if_true]
        have hs1 : One h1' s' (o.map (AV.int .i64)) := by
          refine ⟨hs.1, hs.2.1, hs.2.2.1, hs.2.2.2.1, fun A off ha => ?_⟩
          obtain ⟨q1, cs, q2, q3⟩ := hs.2.2.2.2 A off ha
          exact ⟨Nat.lt_of_lt_of_le q1 b1.next, cs, by rw [b1.g A q1 (hne A (by simp [SL.blk, ha]))]; exact q2, q3⟩
        refine ih (i + 1) h1' ov1 (by omega) (by omega) (hk.trans (b1.keep (by omega) (fun A hA => (ho.ge A hA).1))) hs1 (by rw [hb, List.map_append]; exact o1) (by rw [hb]; simp; omega) (fun A off ha => Nat.lt_of_lt_of_le (hu A off ha) b1.next) (fun A hA e => ?_)
        rcases c1 with c1 | ⟨A', c1, c3⟩
        · exact hne A hA (c1 ▸ e)
        · rw [c1] at e; cases e
          unfold SL.blk at hA
          cases hq : s'.a with
          | none => rw [hq] at hA; cases hA
          | some q =>
            rw [hq] at hA; cases hA
            have q5 := hu q.1 q.2 (by rw [hq])
            have q6 : h.next ≤ q.1 := c3
            omega
      · simp only [hp, decide_false, cond_false]
        have hb : belowL (o.map fun x => decide (0 < x)) (i + 1) = belowL (o.map fun x => decide (0 < x)) i := by
          simp only [belowL, hg, hp, decide_false, Bool.false_eq_true, if_false, List.append_nil]
        exact ih (i + 1) h ov (by omega) (by omega) hk hs (by rw [hb]; exact ho) (by rw [hb]; omega) hu hne
    · have : i = o.length := by omega
      subst this
      have hlt : ltInt (o.length : Int) (s'.len : Int) = false := by rw [hsl, nat_i]; simp
      exact ⟨ov, h, by simp only [Int.ofNat_eq_natCast, hlt, cond_false], hk, ho⟩
end Go.Proofs.Ythpplekbeecdfaa.Gb

open Go Go.Proofs.Ythpplekbeecdfaa.Ai Go.Proofs
namespace Go.Proofs.Ythpplekbeecdfaa.Gb
variable {N : Nat} {s : SL} {ss : List SL} {ll : List (List Int)} {B : Nat} {h0 : Heap}
/-- the document's Below -/
theorem rBelow_spec {h : Heap} (hr : RowsB h.next h s ss ll) (hf : Fine ll) (hN : 1000 ≤ N) {i : Int} (hi0 : 0 ≤ i) (hi1 : i < ll.length) :
    ∃ (s' : SL) (h' : Heap) (o : List Int), f22 N s i h = some (s', h') ∧ Keep h.next h h' ∧ Own1 h.next h' s' ((belowL (o.map fun x => decide (0 < x)) ll.length).map (AV.int .i64)) ∧ ∀ x, x ∈ belowL (o.map fun x => decide (0 < x)) ll.length ↔ (0 ≤ x ∧ x < ll.length ∧ Reach ll i x) := by
  have hlen := hf.len
  obtain ⟨n, rfl⟩ := Int.eq_ofNat_of_zero_le hi0
  have hn : n < ll.length := by omega
  have hbad := bad_spec (N := N) hr.r (by omega)
  rw [badOf_none.2 hf] at hbad
  obtain ⟨s1, h1, o, e1, k1, o1, fw⟩ := steps_spec (N := N) hr (Nat.le_refl _) hf hN hn
  have n1 := k1.next
  obtain ⟨ov, h2, e2, k2, o2⟩ := rlist_loop (N := N) (B := h.next) (h0 := h) (o := o) (s' := s1) (by rw [fw.len]; omega) (Nat.le_refl _) N 0 h1 nilS (by omega) (by rw [fw.len]; omega) k1 o1.one (Own1.nil _ _ _) (by simp [belowL]) o1.one.2.2.under (by simp [SL.blk])
  rw [fw.len] at o2
  simp only [Int.ofNat_zero] at e2
  refine ⟨ov, h2, o, ?_, k2, o2, fun x => ?_⟩
  · have c0 : eqInt 0 0 = true := rfl
    have c1 : ltInt (n : Int) 0 = false := by rw [ltInt_dec]; simp only [decide_eq_false_iff_not]; omega
    have c2 : leInt (ll.length : Int) (n : Int) = false := by rw [leInt_dec]; simp only [decide_eq_false_iff_not]; omega
    unfold f22
    simp only [hbad, bind2_some, c0, Bool.not_true, cond_false, c1, hr.r.slen, Int.ofNat_eq_natCast, c2, e1, e2, bind3_some]
  · rw [belowL_mem]
    constructor
    · rintro ⟨q1, q2, q3⟩
      rw [getD_lt _ _ (by rw [List.length_map, fw.len]; omega), List.getElem_map, decide_eq_true_eq] at q3
      refine ⟨q1, q2, ?_⟩
      have q4 : o.getD x.toNat (-1) = ((o.getD x.toNat (-1) - 1).toNat + 1 : Nat) := by rw [getD_lt _ _ (by rw [fw.len]; omega)]; omega
      have := fw.reached _ _ q4
      rw [show ((x.toNat : Nat) : Int) = x by omega] at this
      exact this
    · rintro ⟨q1, q2, q3⟩
      refine ⟨q1, q2, ?_⟩
      have := fw.reach hf hn q3
      rw [getD_lt _ _ (by rw [fw.len]; omega)] at this
      rw [getD_lt _ _ (by rw [List.length_map, fw.len]; omega), List.getElem_map, decide_eq_true_eq]
      exact this
end Go.Proofs.Ythpplekbeecdfaa.Gb

open Go Go.Proofs.Ythpplekbeecdfaa.Ai Go.Proofs
namespace Go.Proofs.Ythpplekbeecdfaa.Gb
variable {d : List (List Int)} {f at' : Nat} {o far : List Int}
/-- a way of so many steps -/
inductive Walk (d : List (List Int)) : Int → Nat → Int → Prop
  | nil (x : Int) : Walk d x 0 x
  | cons {x k y : Int} {m : Nat} : k ∈ d.getD x.toNat [] → Walk d k m y → Walk d x (m + 1) y
theorem Walk.snoc {x y z : Int} {m : Nat} (h : Walk d x m y) (hz : z ∈ d.getD y.toNat []) : Walk d x (m + 1) z := by
  induction h with
  | nil x => exact .cons hz (.nil z)
  | cons hk _ ih => exact .cons hk (ih hz)
theorem Far.walk (hf : Fine d) (hr : Far d at' far) : ∀ (m : Nat) (x : Nat), x < d.length → far.getD x (-1) = m → Walk d (x : Int) m (at' : Int)
  | 0, x, hx, h => by rw [hr.zero x h]; exact .nil _
  | m + 1, x, hx, h => by
    obtain ⟨k, hk, he⟩ := hr.stp x hx (by omega)
    have hin := hf.inr x hx k hk
    have := Far.walk hf hr m k.toNat (by omega) (by omega)
    rw [show ((k.toNat : Nat) : Int) = k by omega] at this
    exact .cons (by rw [Int.toNat_natCast]; exact hk) this
theorem Far.le (hf : Fine d) (hr : Far d at' far) {x y : Int} {m : Nat} (h : Walk d x m y) : y = at' → 0 ≤ x → x < d.length → 0 ≤ far.getD x.toNat (-1) ∧ far.getD x.toNat (-1) ≤ m := by
  induction h with
  | nil x => intro e h1 h2; subst e; rw [Int.toNat_natCast, hr.atz]; omega
  | @cons x k y m hk hw ih =>
    intro e h1 h2
    have hin := hf.inr x.toNat (by omega) k hk
    have h3 := ih e hin.1 hin.2
    have h4 := hr.clo x.toNat (by omega) k hk h3.1
    have h5 := hr.few x.toNat (by omega) k hk h3.1
    omega
theorem Fw.walk {t i j : Nat} (hb : Fw d f t i j o) : ∀ (m : Nat) (x : Nat), o.getD x (-1) = ((m + 1 : Nat) : Int) → Walk d (f : Int) (m + 1) (x : Int)
  | 0, x, hx => (Walk.nil _).snoc (by rw [Int.toNat_natCast]; exact hb.one x (by omega))
  | m + 1, x, hx => by
    obtain ⟨y, hy, hm, hye⟩ := hb.stp x (by omega)
    exact (Fw.walk hb m y (by omega)).snoc (by rw [Int.toNat_natCast]; exact hm)
end Go.Proofs.Ythpplekbeecdfaa.Gb

open Go Go.Proofs.Ythpplekbeecdfaa.Ai Go.Proofs
namespace Go.Proofs.Ythpplekbeecdfaa.Gb
variable {d : List (List Int)} {f at' : Nat} {o far : List Int}
theorem Walk.last {m : Nat} : ∀ {x y : Int}, Walk d x (m + 1) y → ∃ z, Walk d x m z ∧ y ∈ d.getD z.toNat [] := by
  induction m with
  | zero => intro x y h; cases h with | cons hk hw => cases hw; exact ⟨_, .nil _, hk⟩
  | succ m ih =>
    intro x y h
    cases h with
    | cons hk hw =>
      obtain ⟨z, h1, h2⟩ := ih hw
      exact ⟨z, .cons hk h1, h2⟩
theorem Walk.inr (hf : Fine d) {m : Nat} : ∀ {x y : Int}, Walk d x m y → 0 ≤ x → x < d.length → 0 ≤ y ∧ y < d.length := by
  induction m with
  | zero => intro x y h h1 h2; cases h; exact ⟨h1, h2⟩
  | succ m ih =>
    intro x y h h1 h2
    cases h with
    | cons hk hw =>
      have hin := hf.inr x.toNat (by omega) _ hk
      exact ih hw hin.1 hin.2
theorem Fw.le (hfi : Fine d) (hfl : f < d.length) (hb : Fw d f d.length 0 0 o) : ∀ (m : Nat) (y : Int), Walk d (f : Int) (m + 1) y → 0 < o.getD y.toNat (-1) ∧ o.getD y.toNat (-1) ≤ m + 1
  | 0, y, h => by
    obtain ⟨z, h1, h2⟩ := h.last
    cases h1
    rw [Int.toNat_natCast] at h2
    rw [hb.clo0 (by omega) y h2]; omega
  | m + 1, y, h => by
    obtain ⟨z, h1, h2⟩ := h.last
    have hz := h1.inr hfi (by omega) (by omega)
    obtain ⟨h3, h4⟩ := Fw.le hfi hfl hb m z h1
    have h5 := hb.closed hfi (by omega) h3 h2
    refine ⟨h5, ?_⟩
    by_cases h6 : o.getD z.toNat (-1) < d.length
    · have := (hb.clo z.toNat (by omega) h3 h6 y h2).2; omega
    · have := hb.hi y.toNat; omega
end Go.Proofs.Ythpplekbeecdfaa.Gb

open Go Go.Proofs.Ythpplekbeecdfaa.Ai Go.Proofs
namespace Go.Proofs.Ythpplekbeecdfaa.Gb
variable {N : Nat} {s : SL} {l : List Int} {ss : List SL} {d : List (List Int)} {B : Nat} {h0 : Heap}
/-! the program's ways back -/
theorem back_init (v0 : SL) (v1 : Int) {sv : SL} {n : Nat} (hn : n ≤ 1000) : ∀ (M i : Nat) (h : Heap), i ≤ n → n - i < M → Keep B h0 h → B ≤ h0.next → Own1 B h sv ((List.replicate i (-1 : Int) ++ List.replicate (n - i) 0).map (AV.int .i64)) →
    ∃ h', f44_l1 N M v0 v1 sv (n : Int) (i : Int) h = some (.exit 0, (v0, v1, sv, ()), h') ∧ Keep B h0 h' ∧ Own1 B h' sv ((List.replicate n (-1 : Int)).map (AV.int .i64)) := by
  intro M
  induction M with
  | zero => intro i h h1 h2; omega
  | succ M ih =>
    intro i h h1 h2 hk hb0 ho
    rw [f44_l1_succ]
    unfold f44_l1_b
    by_cases hi : i < n
    · have ew : wrapA .i64 ((i : Int) + 1) = ((i + 1 : Nat) : Int) := wrapA_small (by omega) (by omega)
      obtain ⟨h1', e1, o1, b1, n1⟩ := store_own1 ho (i := i) (by simp; omega) (AV.int .i64 (-1))
      simp only [nat_i, hi, decide_true, cond_true]
      rw [ho.one.ixz (x := (i : Int)) (by omega) (by simp; omega)]
      simp only [Int.toNat_natCast, e1, need_some, ew]
      have hnx := hk.next
      refine ih (i + 1) h1' (by omega) (by omega) (hk.trans (b1.keep (by omega) (fun A hA => (ho.ge A hA).1))) hb0 ?_
      rw [← List.map_set] at o1
      have : (List.replicate i (-1 : Int) ++ List.replicate (n - i) 0).set i (-1) = List.replicate (i + 1) (-1 : Int) ++ List.replicate (n - (i + 1)) 0 := by
        rw [List.set_append_right _ _ (by simp), List.length_replicate, Nat.sub_self, show n - i = (n - (i + 1)) + 1 by omega, List.replicate_succ, List.set_cons_zero, List.replicate_succ', List.append_assoc]
        rfl
      rw [this] at o1; exact o1
    · have : i = n := by omega
      subst this
      exact ⟨h, by simp [nat_i], hk, by simpa using ho⟩
theorem back_row (hr : RowsB B h0 s ss d) (hf : Fine d) {sv : SL} {at' t i : Nat} (hi : i < d.length) (ht : t ≤ 64) : ∀ (M j : Nat) (h : Heap) (far : List Int), j ≤ (d.getD i []).length → (d.getD i []).length - j < M → Keep B h0 h → B ≤ h0.next → Own1 B h sv (far.map (AV.int .i64)) → Bk d at' t i far → (∀ k ∈ (d.getD i []).take j, far.getD k.toNat (-1) = t → 0 ≤ far.getD i (-1)) →
    ∃ h' far', f44_l4 N M s sv (t : Int) (i : Int) s (d.length : Int) (i : Int) (ss.getD i nilS) ((d.getD i []).length : Int) (j : Int) h = some (.exit 6, (s, sv, (t : Int), s, (d.length : Int), (i : Int), ()), h') ∧ Keep B h0 h' ∧ Own1 B h' sv (List.map (AV.int .i64) far') ∧ Bk d at' t (i + 1) far' := by
  intro M
  induction M with
  | zero => intro j h far h1 h2; omega
  | succ M ih =>
    intro j h far h1 h2 hk hb0 ho hb hpre
    rw [f44_l4_succ]
    unfold f44_l4_b
    have hrow := (hr.keep hk).r.row i hi
    have hlen := hf.len
    have hil : i < far.length := by rw [hb.len]; exact hi
    by_cases hj : j < (d.getD i []).length
    · have ew : wrapA .i64 ((j : Int) + 1) = ((j + 1 : Nat) : Int) := wrapA_small (by omega) (by have := hf.row i hi; omega)
      have hg := getD_lt (d.getD i []) 0 hj
      have hx := hf.inr i hi _ (List.getElem_mem hj)
      have tk : (d.getD i []).take (j + 1) = (d.getD i []).take j ++ [(d.getD i [])[j]] := List.take_succ_eq_append_getElem hj
      have gf : ∀ {x : Int}, 0 ≤ x → x < d.length → far.getD x.toNat 0 = far.getD x.toNat (-1) := fun h1 h2 => by
        rw [getD_lt _ _ (by rw [hb.len]; omega), getD_lt _ _ (by rw [hb.len]; omega)]
      rw [hrow.int (x := (j : Int)) (by omega) (by omega)]
      simp only [nat_i, hj, decide_true, cond_true, Int.toNat_natCast, hg]
      have gi := gf (x := (i : Int)) (by omega) (by omega)
      simp only [Int.toNat_natCast] at gi
      rw [ho.one.int (x := (i : Int)) (by omega) (by omega)]
      simp only [Int.toNat_natCast, gi, ltInt_dec]
      by_cases hneg : far.getD i (-1) < 0
      · simp only [hneg, decide_true, cond_true]
        rw [ho.one.int (x := (d.getD i [])[j]) hx.1 (by rw [hb.len]; omega)]
        simp only [gf hx.1 hx.2, eqInt_dec]
        by_cases he : far.getD (d.getD i [])[j].toNat (-1) = t
        · have ew2 : wrapA .i64 ((t : Int) + 1) = (t : Int) + 1 := wrapA_small (by omega) (by omega)
          obtain ⟨h1', e1, o1, b1, n1⟩ := store_own1 ho (i := i) (by simpa using hil) (AV.int .i64 ((t : Int) + 1))
          have hb2 := hb.take hi hneg (List.getElem_mem hj) he
          simp only [he, decide_true, cond_true, ew2]
          rw [ho.one.ixz (x := (i : Int)) (by omega) (by rw [List.length_map]; omega)]
          simp only [Int.toNat_natCast, e1, need_some, ew]
          have hnx := hk.next
          -- from here on the row changes nothing
          have rest : ∀ (M j : Nat) (h : Heap), j ≤ (d.getD i []).length → (d.getD i []).length - j < M → Keep B h0 h → Own1 B h sv ((far.set i ((t : Int) + 1)).map (AV.int .i64)) →
              f44_l4 N M s sv (t : Int) (i : Int) s (d.length : Int) (i : Int) (ss.getD i nilS) ((d.getD i []).length : Int) (j : Int) h = some (.exit 6, (s, sv, (t : Int), s, (d.length : Int), (i : Int), ()), h) := by
            intro M
            induction M with
            | zero => intro j h h1 h2; omega
            | succ M ih2 =>
              intro j h h1 h2 hk2 ho2
              rw [f44_l4_succ]
              unfold f44_l4_b
              by_cases hj : j < (d.getD i []).length
              · have ew : wrapA .i64 ((j : Int) + 1) = ((j + 1 : Nat) : Int) := wrapA_small (by omega) (by have := hf.row i hi; omega)
                have gi2 : (far.set i ((t : Int) + 1)).getD i 0 = (t : Int) + 1 := by rw [getD_lt _ _ (by simpa using hil)]; simp
                rw [((hr.keep hk2).r.row i hi).int (x := (j : Int)) (by omega) (by omega)]
                simp only [nat_i, hj, decide_true, cond_true]
                rw [ho2.one.int (x := (i : Int)) (by omega) (by simp; omega)]
                simp only [Int.toNat_natCast, gi2, ltInt_dec, show ¬ ((t : Int) + 1 < 0) by omega, decide_false, cond_false, ew]
                exact ih2 (j + 1) h (by omega) (by omega) hk2 ho2
              · have : j = (d.getD i []).length := by omega
                subst this
                simp [nat_i]
          rw [← List.map_set] at o1
          have kk := hk.trans (b1.keep (by omega) (fun A hA => (ho.ge A hA).1))
          exact ⟨h1', _, rest M (j + 1) h1' (by omega) (by omega) kk o1, kk, o1, hb2⟩
        · simp only [he, decide_false, cond_false, ew]
          refine ih (j + 1) h far (by omega) (by omega) hk hb0 ho hb fun k hk2 hke => ?_
          rw [tk] at hk2
          rcases List.mem_append.1 hk2 with h3 | h3
          · exact hpre k h3 hke
          · rw [List.mem_singleton.1 h3] at hke; exact absurd hke he
      · simp only [hneg, decide_false, cond_false, ew]
        exact ih (j + 1) h far (by omega) (by omega) hk hb0 ho hb fun _ _ _ => by omega
    · have : j = (d.getD i []).length := by omega
      subst this
      rw [List.take_length] at hpre
      exact ⟨h, far, by simp [nat_i], hk, ho, hb.skip hi hpre⟩
theorem back_round (hr : RowsB B h0 s ss d) (hf : Fine d) (hN : 1000 ≤ N) {sv : SL} {at' t : Nat} (ht : t ≤ 64) : ∀ (M i : Nat) (h : Heap) (far : List Int), i ≤ d.length → d.length - i < M → Keep B h0 h → B ≤ h0.next → Own1 B h sv (far.map (AV.int .i64)) → Bk d at' t i far →
    ∃ h' far', f44_l3 N M s sv (t : Int) s (d.length : Int) (i : Int) h = some (.exit 4, (s, sv, (t : Int), ()), h') ∧ Keep B h0 h' ∧ Own1 B h' sv (List.map (AV.int .i64) far') ∧ Bk d at' t d.length far' := by
  intro M
  induction M with
  | zero => intro i h far h1 h2; omega
  | succ M ih =>
    intro i h far h1 h2 hk hb0 ho hb
    rw [f44_l3_succ]
    unfold f44_l3_b
    have hlen := hf.len
    by_cases hi : i < d.length
    · have ew : wrapA .i64 ((i : Int) + 1) = ((i + 1 : Nat) : Int) := wrapA_small (by omega) (by omega)
      have hrk := hr.keep hk
      have hrow := hrk.r.row i hi
      obtain ⟨h1', far1, e1, k1, o1, b1⟩ := back_row (N := N) hr hf (sv := sv) hi ht N 0 h far (by omega) (by have := hf.row i hi; omega) hk hb0 ho hb (fun k hk => by simp at hk)
      simp only [Int.ofNat_zero] at e1
      rw [hrk.r.top.sl (x := (i : Int)) (by omega) (by rw [hrk.r.len]; omega)]
      simp only [nat_i, hi, decide_true, cond_true, Int.toNat_natCast, Ints.len hrow, Int.ofNat_eq_natCast, e1, bind3_some, ew]
      exact ih (i + 1) h1' far1 (by omega) (by omega) k1 hb0 o1 b1
    · have : i = d.length := by omega
      subst this
      exact ⟨h, far, by simp [nat_i], hk, ho, hb⟩
theorem back_rounds (hr : RowsB B h0 s ss d) (hf : Fine d) (hN : 1000 ≤ N) (hd : 0 < d.length) {sv : SL} {at' : Nat} : ∀ (M t : Nat) (h : Heap) (far : List Int), t ≤ d.length → d.length - t < M → Keep B h0 h → B ≤ h0.next → Own1 B h sv (far.map (AV.int .i64)) → Bk d at' t 0 far →
    ∃ h' far', f44_l2 N M s sv (t : Int) h = some (.exit 2, (sv, ()), h') ∧ Keep B h0 h' ∧ Own1 B h' sv (List.map (AV.int .i64) far') ∧ Bk d at' d.length 0 far' := by
  intro M
  induction M with
  | zero => intro t h far h1 h2; omega
  | succ M ih =>
    intro t h far h1 h2 hk hb0 ho hb
    rw [f44_l2_succ]
    unfold f44_l2_b
    have hlen := hf.len
    by_cases ht : t < d.length
    · have ew : wrapA .i64 ((t : Int) + 1) = ((t + 1 : Nat) : Int) := wrapA_small (by omega) (by omega)
      obtain ⟨h1', far1, e1, k1, o1, b1⟩ := back_round (N := N) hr hf hN (sv := sv) (at' := at') (t := t) (by omega) N 0 h far (by omega) (by omega) hk hb0 ho hb
      simp only [Int.ofNat_zero] at e1
      simp only [hr.r.slen, Int.ofNat_eq_natCast, nat_i, ht, decide_true, cond_true, e1, bind3_some, ew]
      exact ih (t + 1) h1' far1 (by omega) (by omega) k1 hb0 o1 (b1.round hd)
    · have : t = d.length := by omega
      subst this
      exact ⟨h, far, by simp [nat_i, hr.r.slen], hk, ho, hb⟩
theorem back_spec {h : Heap} (hr : RowsB h.next h s ss d) (hf : Fine d) (hN : 1000 ≤ N) {at' : Nat} (hat : at' < d.length) :
    ∃ s' h' far, f44 N s (at' : Int) h = some (s', h') ∧ Keep h.next h h' ∧ Own1 h.next h' s' (List.map (AV.int .i64) far) ∧ Far d at' far := by
  have hlen := hf.len
  obtain ⟨m1, m2⟩ := make1 app26 (.int .i64 0) app26z rfl d.length (by omega) h
  generalize hH : h.push (.row (List.replicate d.length (.int .i64 0)) .own) = H at *
  have kb : Keep h.next h H := by rw [← hH]; exact (Keep.refl _ _).push (Nat.le_refl _) _
  have hHn : H.next = h.next + 1 := by rw [← hH]; rfl
  have rH := hr.keep kb
  obtain ⟨h1, e1, k1, o1⟩ := back_init (N := N) (B := h.next) (h0 := H) s (at' : Int) (sv := ⟨some (h.next, 0), d.length, d.length, 1⟩) (n := d.length) (by omega) N 0 H (by omega) (by omega) (Keep.refl _ _) (by omega) (by simpa using m2)
  obtain ⟨h2, e2, o2, b2, n2⟩ := store_own1 o1 (i := at') (by simp; exact hat) (AV.int .i64 0)
  have hnx := k1.next
  have k2 : Keep h.next H h2 := k1.trans (b2.keep (by omega) (fun A hA => (o1.ge A hA).1))
  rw [← List.map_set] at o2
  have hget : ∀ k, ((List.replicate d.length (-1 : Int)).set at' 0).getD k (-1) = if k = at' then 0 else -1 := by
    intro k
    by_cases h : k = at'
    · subst h; rw [if_pos rfl, setg_eq _ _ (by simpa using hat)]
    · rw [if_neg h, setg_ne _ _ (fun e => h e.symm)]
      simp [List.getD_eq_getElem?_getD, List.getElem?_replicate]
      split <;> rfl
  have hb : Bk d at' 0 0 ((List.replicate d.length (-1 : Int)).set at' 0) := by
    refine ⟨by simp, by rw [hget, if_pos rfl], fun k => ?_, fun k hk => ?_, fun x hx hp => ?_, fun x hx k hk h1 h2 => ?_, fun x hx => by omega⟩
    · rw [hget]; split <;> simp
    · rw [hget] at hk; split at hk
      · assumption
      · omega
    · rw [hget] at hp; split at hp <;> omega
    · omega
  obtain ⟨h3, far, e3, k3, o3, b3⟩ := back_rounds (N := N) rH hf hN (by omega) (sv := ⟨some (h.next, 0), d.length, d.length, 1⟩) N 0 h2 _ (by omega) (by omega) k2 (by omega) o2 hb
  refine ⟨⟨some (h.next, 0), d.length, d.length, 1⟩, h3, far, ?_, kb.trans k3, o3, b3.far hf hat⟩
  simp only [Int.ofNat_zero] at e1 e3
  unfold f44
  simp only [hr.r.slen, Int.ofNat_eq_natCast, m1, bindT_some, cast_slice, e1, bind3_some]
  rw [show (ixK (some (h.next, 0)) d.length (at' : Int) 1) = ixK (⟨some (h.next, 0), d.length, d.length, 1⟩ : SL).a (⟨some (h.next, 0), d.length, d.length, 1⟩ : SL).len (at' : Int) 1 from rfl]
  rw [o1.one.ixz (x := (at' : Int)) (by omega) (by simp; omega)]
  simp only [Int.toNat_natCast, e2, need_some, e3, bind3_some]
end Go.Proofs.Ythpplekbeecdfaa.Gb

open Go Go.Proofs.Ythpplekbeecdfaa.Ai Go.Proofs
namespace Go.Proofs.Ythpplekbeecdfaa.Gb
variable {N : Nat} {s : SL} {l : List Int} {ss : List SL} {d : List (List Int)} {B : Nat} {h0 : Heap}
/-- the best of some -/
def Best (far : List Int) (r : List Int) (y : Int) : Prop :=
  (y = -1 ∧ ∀ k ∈ r, far.getD k.toNat (-1) < 0) ∨ (y ∈ r ∧ 0 ≤ far.getD y.toNat (-1) ∧ ∀ k ∈ r, 0 ≤ far.getD k.toNat (-1) → far.getD y.toNat (-1) < far.getD k.toNat (-1) ∨ (far.getD y.toNat (-1) = far.getD k.toNat (-1) ∧ y ≤ k))
theorem choose_loop {h : Heap} (hs : Ints h s l) (hl : l.length ≤ 64) {fs : SL} {far : List Int} (hfar : Ints h fs far) (hin : ∀ x ∈ l, 0 ≤ x ∧ x < far.length) (v0 v2 v5 v26 : SL) (v3 : Int) : ∀ (M i : Nat) (y : Int), i ≤ l.length → l.length - i < M → Best far (l.take i) y →
    ∃ y', f20_l2 N M v0 v2 v3 fs v5 y s (l.length : Int) (i : Int) h = some (.exit 2, (v0, v2, v3, fs, v5, y', ()), h) ∧ Best far l y' := by
  intro M
  induction M with
  | zero => intro i y h1 h2; omega
  | succ M ih =>
    intro i y h1 h2 hb
    rw [f20_l2_succ]
    unfold f20_l2_b
    by_cases hi : i < l.length
    · have ew : wrapA .i64 ((i : Int) + 1) = ((i + 1 : Nat) : Int) := wrapA_small (by omega) (by omega)
      have hg := getD_lt l 0 hi
      have hx := hin _ (List.getElem_mem hi)
      have tk : l.take (i + 1) = l.take i ++ [l[i]] := List.take_succ_eq_append_getElem hi
      have gf : ∀ {x : Int}, 0 ≤ x → x < far.length → far.getD x.toNat 0 = far.getD x.toNat (-1) := fun h1 h2 => by
        rw [getD_lt _ _ (by omega), getD_lt _ _ (by omega)]
      rw [hs.int (x := (i : Int)) (by omega) (by omega)]
      simp only [nat_i, hi, decide_true, cond_true, Int.toNat_natCast, hg]
      rw [hfar.int (x := l[i]) hx.1 hx.2]
      simp only [gf hx.1 hx.2, leInt_dec]
      by_cases h0 : 0 ≤ far.getD l[i].toNat (-1)
      · simp only [h0, decide_true, cond_true, ltInt_dec]
        rcases hb with ⟨rfl, hb⟩ | ⟨hy, hy0, hb⟩
        · simp only [show ((-1 : Int) < 0) by omega, decide_true, cond_true, ew]
          refine ih (i + 1) l[i] (by omega) (by omega) (.inr ⟨by rw [tk]; exact List.mem_append_right _ (List.mem_singleton_self _), h0, fun k hk hk0 => ?_⟩)
          rw [tk] at hk
          rcases List.mem_append.1 hk with h3 | h3
          · have := hb k h3; omega
          · rw [List.mem_singleton.1 h3]; exact .inr ⟨rfl, Int.le_refl _⟩
        · have hyin := hin y (List.mem_of_mem_take hy)
          simp only [show ¬ (y < 0) by omega, decide_false, cond_false]
          rw [hfar.int (x := l[i]) hx.1 hx.2, hfar.int (x := y) hyin.1 hyin.2]
          simp only [gf hx.1 hx.2, gf hyin.1 hyin.2]
          by_cases hlt : far.getD l[i].toNat (-1) < far.getD y.toNat (-1)
          · simp only [hlt, decide_true, cond_true, ew]
            refine ih (i + 1) l[i] (by omega) (by omega) (.inr ⟨by rw [tk]; exact List.mem_append_right _ (List.mem_singleton_self _), h0, fun k hk hk0 => ?_⟩)
            rw [tk] at hk
            rcases List.mem_append.1 hk with h3 | h3
            · have := hb k h3 hk0; omega
            · rw [List.mem_singleton.1 h3]; exact .inr ⟨rfl, Int.le_refl _⟩
          · simp only [hlt, decide_false, cond_false]
            rw [hfar.int (x := l[i]) hx.1 hx.2, hfar.int (x := y) hyin.1 hyin.2]
            simp only [gf hx.1 hx.2, gf hyin.1 hyin.2, eqInt_dec]
            have keepY : (far.getD y.toNat (-1) < far.getD l[i].toNat (-1) ∨ (far.getD y.toNat (-1) = far.getD l[i].toNat (-1) ∧ y ≤ l[i])) → Best far (l.take (i + 1)) y := by
              intro hc
              refine .inr ⟨by rw [tk]; exact List.mem_append_left _ hy, hy0, fun k hk hk0 => ?_⟩
              rw [tk] at hk
              rcases List.mem_append.1 hk with h3 | h3
              · exact hb k h3 hk0
              · rw [List.mem_singleton.1 h3]; exact hc
            by_cases heq : far.getD l[i].toNat (-1) = far.getD y.toNat (-1)
            · simp only [heq, decide_true, cond_true]
              by_cases hky : l[i] < y
              · simp only [hky, decide_true, cond_true, ew]
                refine ih (i + 1) l[i] (by omega) (by omega) (.inr ⟨by rw [tk]; exact List.mem_append_right _ (List.mem_singleton_self _), h0, fun k hk hk0 => ?_⟩)
                rw [tk] at hk
                rcases List.mem_append.1 hk with h3 | h3
                · have := hb k h3 hk0; omega
                · rw [List.mem_singleton.1 h3]; exact .inr ⟨rfl, Int.le_refl _⟩
              · simp only [hky, decide_false, cond_false, ew]
                exact ih (i + 1) y (by omega) (by omega) (keepY (.inr ⟨heq.symm, by omega⟩))
            · simp only [heq, decide_false, cond_false, ew]
              exact ih (i + 1) y (by omega) (by omega) (keepY (.inl (by omega)))
      · simp only [h0, decide_false, cond_false, ew]
        refine ih (i + 1) y (by omega) (by omega) ?_
        rcases hb with ⟨rfl, hb⟩ | ⟨hy, hy0, hb⟩
        · refine .inl ⟨rfl, fun k hk => ?_⟩
          rw [tk] at hk
          rcases List.mem_append.1 hk with h3 | h3
          · exact hb k h3
          · rw [List.mem_singleton.1 h3]; omega
        · refine .inr ⟨by rw [tk]; exact List.mem_append_left _ hy, hy0, fun k hk hk0 => ?_⟩
          rw [tk] at hk
          rcases List.mem_append.1 hk with h3 | h3
          · exact hb k h3 hk0
          · rw [List.mem_singleton.1 h3] at hk0; omega
    · have : i = l.length := by omega
      subst this
      rw [List.take_length] at hb
      exact ⟨y, by simp [nat_i], hb⟩
/-- a way round, as far as it has come -/
structure Ch (d : List (List Int)) (at' : Nat) (far : List Int) (r : List Int) (x : Int) : Prop where
  fst : ∃ r', r = (at' : Int) :: r'
  last : ∃ r', r = r' ++ [x]
  chain : ∀ i, ∀ hi : i + 1 < r.length, r[i + 1] ∈ d.getD (r[i]).toNat []
  inr : ∀ y ∈ r, 0 ≤ y ∧ y < d.length
  pos : ∀ i, ∀ hi : i < r.length, 0 < i → 0 < far.getD (r[i]).toNat (-1)
  dec : ∀ i j, ∀ hj : j < r.length, ∀ hij : i < j, 0 < i → far.getD (r[j]).toNat (-1) < far.getD (r[i]).toNat (-1)
theorem Ch.next {at' : Nat} {far r : List Int} {x y : Int} (hf : Fine d) (hr : Far d at' far) (hc : Ch d at' far r x) (hy : y ∈ d.getD x.toNat []) (hy0 : 0 ≤ far.getD y.toNat (-1)) (hlt : x ≠ at' → far.getD y.toNat (-1) < far.getD x.toNat (-1)) (hne : y ≠ at') (hone : x = at' → r = [(at' : Int)]) : Ch d at' far (r ++ [y]) y := by
  obtain ⟨r1, h1⟩ := hc.fst
  obtain ⟨r2, h2⟩ := hc.last
  have hxin := hc.inr x (by rw [h2]; simp)
  have hyin := hf.inr x.toNat (by omega) y hy
  have hlen : r.length = r2.length + 1 := by rw [h2]; simp
  have hlast : ∀ (h : r.length - 1 < r.length), r[r.length - 1] = x := by
    intro h
    have : r[r.length - 1]? = some x := by rw [h2]; simp
    rw [List.getElem?_eq_getElem h] at this
    simpa using this
  have hpos : 0 < far.getD y.toNat (-1) := by
    rcases Int.lt_or_eq_of_le hy0 with h | h
    · exact h
    · have := hr.zero y.toNat h.symm; omega
  refine ⟨⟨r1 ++ [y], by rw [h1]; rfl⟩, ⟨r, rfl⟩, fun i hi => ?_, fun z hz => ?_, fun i hi h0 => ?_, fun i j hj hij h0 => ?_⟩
  · simp only [List.length_append, List.length_singleton] at hi
    by_cases h3 : i + 1 < r.length
    · rw [List.getElem_append_left h3, List.getElem_append_left (by omega)]; exact hc.chain i h3
    · have hi2 : i = r.length - 1 := by omega
      subst hi2
      have g1 : r.length ≤ r.length - 1 + 1 := by omega
      have g2 : r.length - 1 < r.length := by omega
      rw [List.getElem_append_right g1, List.getElem_append_left g2]
      rw [hlast g2]
      simpa [show r.length - 1 + 1 - r.length = 0 by omega] using hy
  · rcases List.mem_append.1 hz with h | h
    · exact hc.inr z h
    · rw [List.mem_singleton.1 h]; exact hyin
  · simp only [List.length_append, List.length_singleton] at hi
    by_cases h3 : i < r.length
    · rw [List.getElem_append_left h3]; exact hc.pos i h3 h0
    · have g1 : r.length ≤ i := by omega
      rw [List.getElem_append_right g1]
      simpa [show i - r.length = 0 by omega] using hpos
  · simp only [List.length_append, List.length_singleton] at hj
    by_cases h3 : j < r.length
    · have g1 : i < r.length := by omega
      rw [List.getElem_append_left h3, List.getElem_append_left g1]; exact hc.dec i j h3 hij h0
    · have g1 : r.length ≤ j := by omega
      have g2 : i < r.length := by omega
      rw [List.getElem_append_right g1, List.getElem_append_left g2]
      simp only [show j - r.length = 0 by omega, List.getElem_cons_zero]
      have hxat : x ≠ at' := fun e => by
        have hl1 : r.length = 1 := by rw [hone e]; rfl
        omega
      have h4 := hlt hxat
      by_cases h5 : i = r.length - 1
      · subst h5; rw [hlast (by omega)]; exact h4
      · have := hc.dec i (r.length - 1) (by omega) (by omega) h0
        rw [hlast (by omega)] at this
        omega
/-- a ring -/
structure Rg (d : List (List Int)) (at' : Nat) (r : List Int) : Prop where
  fst : ∃ r', r = (at' : Int) :: r'
  len : r.length ≤ d.length
  chain : ∀ i, ∀ hi : i + 1 < r.length, r[i + 1] ∈ d.getD (r[i]).toNat []
  shut : ∀ h : r.length - 1 < r.length, (at' : Int) ∈ d.getD (r[r.length - 1]).toNat []
  inr : ∀ y ∈ r, 0 ≤ y ∧ y < d.length
theorem Ch.nodup {at' : Nat} {far r : List Int} {x : Int} (hr : Far d at' far) (hc : Ch d at' far r x) : r.Nodup := by
  rw [List.nodup_iff_pairwise_ne, List.pairwise_iff_getElem]
  intro i j hi hj hij e
  obtain ⟨r1, h1⟩ := hc.fst
  have hz : ∀ h : 0 < r.length, r[0] = (at' : Int) := by
    intro h
    have : r[0]? = some (at' : Int) := by rw [h1]; rfl
    rw [List.getElem?_eq_getElem h] at this
    simpa using this
  have hp := hc.pos j hj (by omega)
  by_cases h0 : i = 0
  · subst h0
    rw [← e, hz (by omega)] at hp
    simp only [Int.toNat_natCast, hr.atz] at hp
    omega
  · have := hc.dec i j hj hij (by omega)
    rw [e] at this
    omega
theorem Ch.ring {at' : Nat} {far r : List Int} {x : Int} (hr : Far d at' far) (hc : Ch d at' far r x) (hs : (at' : Int) ∈ d.getD x.toNat []) : Rg d at' r := by
  obtain ⟨r2, h2⟩ := hc.last
  refine ⟨hc.fst, nodup_le (hc.nodup hr) hc.inr, hc.chain, fun h => ?_, hc.inr⟩
  have : r[r.length - 1]? = some x := by rw [h2]; simp
  rw [List.getElem?_eq_getElem h] at this
  simp at this
  rw [this]; exact hs
theorem ring_loop (hr : RowsB B h0 s ss d) (hf : Fine d) (hN : 1000 ≤ N) (hb0 : B ≤ h0.next) {fs : SL} {far : List Int} (hfs : Ints h0 fs far) (hfu : fs.under B) {at' : Nat} (hat : at' < d.length) (hfar : Far d at' far) (hring : Reach d (at' : Int) (at' : Int)) (v2 : SL) : ∀ (M : Nat) (h : Heap) (rs : SL) (r : List Int) (x : Int), (if x = at' then d.length else (far.getD x.toNat (-1)).toNat) < M → Keep B h0 h → Own1 B h rs (r.map (AV.int .i64)) → Ch d at' far r x → (x = at' → r = [(at' : Int)]) →
    ∃ h' rs' r', f20_l1 N M s v2 (at' : Int) fs rs x h = some (.ret, (rs', ()), h') ∧ Keep B h0 h' ∧ Own1 B h' rs' (List.map (AV.int .i64) r') ∧ Rg d at' r' := by
  intro M
  induction M with
  | zero => intro h rs r x h1; omega
  | succ M ih =>
    intro h rs r x h1 hk ho hc hone
    rw [f20_l1_succ]
    unfold f20_l1_b
    have hlen := hf.len
    obtain ⟨r2, h2⟩ := hc.last
    have hx := hc.inr x (by rw [h2]; simp)
    have hxl : x.toNat < d.length := by omega
    have hrk := hr.keep hk
    have hrow := hrk.r.row x.toNat hxl
    have hrl := hf.row x.toNat hxl
    have hnx := hk.next
    obtain ⟨y, e1, hb⟩ := choose_loop (N := N) hrow (by omega) (One.keep hk hfu hfs) (fun k hk => by rw [hfar.len]; exact hf.inr _ hxl k hk) s v2 rs (ss.getD x.toNat nilS) (at' : Int) N 0 (-1) (by omega) (by omega) (.inl ⟨rfl, fun k hk => by simp at hk⟩)
    simp only [Int.ofNat_zero] at e1
    -- there is a way on
    have hon : ∃ k ∈ d.getD x.toNat [], 0 ≤ far.getD k.toNat (-1) ∧ (x ≠ at' → far.getD k.toNat (-1) < far.getD x.toNat (-1)) := by
      by_cases hxa : x = at'
      · subst hxa
        have key : ∀ {y : Int}, Reach d (at' : Int) y → 0 ≤ far.getD y.toNat (-1) → ∃ k ∈ d.getD ((at' : Int)).toNat [], 0 ≤ far.getD k.toNat (-1) := by
          intro y hy
          induction hy with
          | one h => intro h0; exact ⟨_, h, h0⟩
          | step h3 h4 ih =>
            intro h0
            have := h3.inr hf
            exact ih (hfar.clo _ (by omega) _ h4 h0)
        obtain ⟨k, hk1, hk2⟩ := key hring (by rw [Int.toNat_natCast, hfar.atz]; exact Int.le_refl _)
        exact ⟨k, hk1, hk2, fun h => absurd rfl h⟩
      · have hp : 0 < far.getD x.toNat (-1) := by
          obtain ⟨r1, h3⟩ := hc.fst
          have hrl : 1 < r.length := by
            rcases Nat.lt_or_ge 1 r.length with h | h
            · exact h
            · exfalso
              have : r2 = [] := by
                have := congrArg List.length h2
                simp at this
                exact List.eq_nil_of_length_eq_zero (by omega)
              rw [this] at h2
              rw [h2] at h3
              simp at h3
              exact hxa h3.1
          have h4 := hc.pos (r.length - 1) (by omega) (by omega)
          have h5 : r[r.length - 1]? = some x := by rw [h2]; simp
          rw [List.getElem?_eq_getElem (by omega)] at h5
          simp at h5
          rw [h5] at h4; exact h4
        obtain ⟨k, hk1, hk2⟩ := hfar.stp x.toNat hxl hp
        exact ⟨k, hk1, by omega, fun _ => by omega⟩
    obtain ⟨k0, hk0, hk1, hk2⟩ := hon
    rcases hb with ⟨rfl, hb⟩ | ⟨hy, hy0, hb⟩
    · have := hb k0 hk0; omega
    · have hyin := hf.inr _ hxl y hy
      have hyk := hb k0 hk0 hk1
      have hylt : x ≠ at' → far.getD y.toNat (-1) < far.getD x.toNat (-1) := fun h => by have := hk2 h; omega
      rw [hrk.r.top.sl (x := x) hx.1 (by rw [hrk.r.len]; omega)]
      simp only [Ints.len hrow, Int.ofNat_eq_natCast, e1, bind3_some, eqInt_dec]
      by_cases hya : y = at'
      · subst hya
        simp only [decide_true, cond_true]
        exact ⟨h, rs, r, rfl, hk, ho, hc.ring hfar hy⟩
      · simp only [hya, decide_false, cond_false, ltInt_dec, show ¬ y < 0 by omega]
        have hrlen : r.length ≤ d.length := nodup_le (hc.nodup hfar) hc.inr
        obtain ⟨rs', h1', e2, o2, b2, c2⟩ := append_own1 app26 (v := AV.int .i64 y) rfl ho (by omega) (by simp; omega)
        rw [e2]
        simp only [bindT_some, cast_slice]
        have hc2 := hc.next hf hfar hy hy0 hylt hya hone
        refine ih h1' rs' (r ++ [y]) y ?_ (hk.trans (b2.keep (by omega) (fun A hA => (ho.ge A hA).1))) (by rw [List.map_append]; exact o2) hc2 (fun e => absurd e hya)
        rw [if_neg hya]
        have h3 := hfar.hi y.toNat
        by_cases hxa : x = at'
        · rw [if_pos hxa] at h1; omega
        · rw [if_neg hxa] at h1
          have := hylt hxa
          omega
theorem nn11 : binA E .neq 32 (.tmp 11) (.const .nilIface) AV.nilIface AV.nilIface = some (.bool false) := by kernel_rfl
/-- a ring, where there is one -/
theorem Ring_spec {h : Heap} (hf : Fine d) (hN : 1000 ≤ N) (hr : RowsB h.next h s ss d) :
    (∃ h', f20 N s h = some (nilS, h') ∧ Keep h.next h h' ∧ Acyclic d) ∨
    (∃ (h' : Heap) (s' : SL) (r : List Int) (j : Nat), f20 N s h = some (s', h') ∧ Keep h.next h h' ∧ Own1 h.next h' s' (r.map (AV.int .i64)) ∧ j < d.length ∧ Reach d (j : Int) (j : Int) ∧ (∀ k : Nat, k < j → ¬ Reach d (k : Int) (k : Int)) ∧ Rg d j r) := by
  have hm := may_spec (N := N) hr.r hf (by omega)
  have hlen := hf.len
  rcases ringed_loop (N := N) hf hN N 0 h (by omega) (by omega) hr (Nat.le_refl _) (fun j hj => by omega) with ⟨h', e, k, ha⟩ | ⟨h1, j, e, k1, hj1, hj2, hj3⟩
  · left
    simp only [Int.ofNat_zero] at e
    refine ⟨h', ?_, k, acyclic_of hf ha⟩
    simp [f20, hm, nn11, f43, hr.r.slen, e, ltInt_dec]
  · right
    simp only [Int.ofNat_zero] at e
    have r1 : RowsB h1.next h1 s ss d := (hr.keep k1).mono k1.next
    obtain ⟨fs, h2, far, e2, k2, o2, hfar⟩ := back_spec (N := N) r1 hf hN hj1
    have r2 : RowsB h2.next h2 s ss d := (r1.keep k2).mono k2.next
    generalize hH : h2.push (.row [.int .i64 j] .own) = H
    have kb : Keep h2.next h2 H := by rw [← hH]; exact (Keep.refl _ _).push (Nat.le_refl _) _
    have hHn : H.next = h2.next + 1 := by rw [← hH]; rfl
    have hch : Ch d j far [(j : Int)] (j : Int) := by
      refine ⟨⟨[], rfl⟩, ⟨[], rfl⟩, fun i hi => by simp at hi, fun y hy => ?_, fun i hi h0 => by simp at hi; omega, fun a b hb hab h0 => by simp at hb; omega⟩
      rw [List.mem_singleton.1 hy]; omega
    obtain ⟨h3, rs, r, e3, k3, o3, hrg⟩ := ring_loop (N := N) (B := h2.next) (h0 := H) (r2.keep kb) hf hN (by omega) (One.keep kb o2.one.2.2.under o2.one) o2.one.2.2.under hj1 hfar hj2 nilS N H ⟨some (h2.next, 0), 1, 1, 1⟩ [(j : Int)] (j : Int) (by rw [if_pos rfl]; omega) (Keep.refl _ _) (.inr ⟨h2.next, [.int .i64 j], .own, rfl, rfl, Nat.le_refl _, by omega, by rw [← hH]; exact g_push_eq _ rfl, rfl, by simp, by simp, by simp, .inr ⟨rfl, rfl⟩⟩) hch (fun _ => rfl)
    have hn1 := k1.next
    have hn2 := k2.next
    refine ⟨h3, rs, r, j, ?_, (k1.trans (k2.mono (by omega))).trans ((kb.trans k3).mono (by omega)), Own1.lower (by omega) o3, hj1, hj2, hj3, hrg⟩
    have e3' : f20_l1 N N s ⟨none, 0, 0, 0⟩ (j : Int) fs ⟨some (h2.next, 0), 1, 1, 1⟩ (j : Int) H = some (.ret, (rs, ()), h3) := e3
    have hj0 : ¬ ((j : Int) < 0) := by omega
    simp only [f20, hm, nn11, f43, hr.r.slen, e, ltInt_dec, e2, hH, e3', bind2_some, bindV_some, cast_bool, cond_false, bind3_some, eqOut_ret, Int.ofNat_eq_natCast, hj0, decide_false]
end Go.Proofs.Ythpplekbeecdfaa.Gb

open Go Go.Proofs.Ythpplekbeecdfaa.Ai Go.Proofs
namespace Go.Proofs.Ythpplekbeecdfaa.Gb
variable {d : List (List Int)} {at' : Nat} {far : List Int}
/-- the rest of a ring: from a thing on, by the least way back -/
inductive RingR (d : List (List Int)) (far : List Int) (at' : Nat) : List Int → Int → List Int → Prop
  | stop {r : List Int} {x : Int} : Best far (d.getD x.toNat []) (at' : Int) → RingR d far at' r x r
  | on {r r' : List Int} {x y : Int} : Best far (d.getD x.toNat []) y → y ≠ at' → 0 ≤ y → RingR d far at' (r ++ [y]) y r' → RingR d far at' r x r'
theorem Best.uniq {row : List Int} {y z : Int} (h1 : Best far row y) (h2 : Best far row z) : y = z := by
  rcases h1 with ⟨e1, a1⟩ | ⟨m1, p1, a1⟩
  · rcases h2 with ⟨e2, a2⟩ | ⟨m2, p2, a2⟩
    · rw [e1, e2]
    · have := a1 z m2; omega
  · rcases h2 with ⟨e2, a2⟩ | ⟨m2, p2, a2⟩
    · have := a2 y m1; omega
    · have h3 := a1 z m2 p2
      have h4 := a2 y m1 p1
      omega
theorem RingR.uniq {r a b : List Int} {x : Int} (h1 : RingR d far at' r x a) : RingR d far at' r x b → a = b := by
  induction h1 with
  | stop hb =>
    intro h2
    cases h2 with
    | stop _ => rfl
    | on hb2 hne _ _ => exact absurd (hb2.uniq hb) hne
  | on hb hne _ _ ih =>
    intro h2
    cases h2 with
    | stop hb2 => exact absurd (hb.uniq hb2) hne
    | on hb2 _ _ h3 =>
      have := hb2.uniq hb
      subst this
      exact ih h3
end Go.Proofs.Ythpplekbeecdfaa.Gb

open Go Go.Proofs.Ythpplekbeecdfaa.Ai Go.Proofs
namespace Go.Proofs.Ythpplekbeecdfaa.Gb
variable {N : Nat} {s : SL} {l : List Int} {ss : List SL} {d : List (List Int)} {B : Nat} {h0 : Heap}
theorem ring_loopF (hr : RowsB B h0 s ss d) (hf : Fine d) (hN : 1000 ≤ N) (hb0 : B ≤ h0.next) {fs : SL} {far : List Int} (hfs : Ints h0 fs far) (hfu : fs.under B) {at' : Nat} (hat : at' < d.length) (hfar : Far d at' far) (hring : Reach d (at' : Int) (at' : Int)) (v2 : SL) : ∀ (M : Nat) (h : Heap) (rs : SL) (r : List Int) (x : Int), (if x = at' then d.length else (far.getD x.toNat (-1)).toNat) < M → Keep B h0 h → Own1 B h rs (r.map (AV.int .i64)) → Ch d at' far r x → (x = at' → r = [(at' : Int)]) →
    ∃ h' rs' r', f20_l1 N M s v2 (at' : Int) fs rs x h = some (.ret, (rs', ()), h') ∧ Keep B h0 h' ∧ Own1 B h' rs' (List.map (AV.int .i64) r') ∧ Rg d at' r' ∧ RingR d far at' r x r' := by
  intro M
  induction M with
  | zero => intro h rs r x h1; omega
  | succ M ih =>
    intro h rs r x h1 hk ho hc hone
    rw [f20_l1_succ]
    unfold f20_l1_b
    have hlen := hf.len
    obtain ⟨r2, h2⟩ := hc.last
    have hx := hc.inr x (by rw [h2]; simp)
    have hxl : x.toNat < d.length := by omega
    have hrk := hr.keep hk
    have hrow := hrk.r.row x.toNat hxl
    have hrl := hf.row x.toNat hxl
    have hnx := hk.next
    obtain ⟨y, e1, hb⟩ := choose_loop (N := N) hrow (by omega) (One.keep hk hfu hfs) (fun k hk => by rw [hfar.len]; exact hf.inr _ hxl k hk) s v2 rs (ss.getD x.toNat nilS) (at' : Int) N 0 (-1) (by omega) (by omega) (.inl ⟨rfl, fun k hk => by simp at hk⟩)
    simp only [Int.ofNat_zero] at e1
    -- there is a way on
    have hon : ∃ k ∈ d.getD x.toNat [], 0 ≤ far.getD k.toNat (-1) ∧ (x ≠ at' → far.getD k.toNat (-1) < far.getD x.toNat (-1)) := by
      by_cases hxa : x = at'
      · subst hxa
        have key : ∀ {y : Int}, Reach d (at' : Int) y → 0 ≤ far.getD y.toNat (-1) → ∃ k ∈ d.getD ((at' : Int)).toNat [], 0 ≤ far.getD k.toNat (-1) := by
          intro y hy
          induction hy with
          | one h => intro h0; exact ⟨_, h, h0⟩
          | step h3 h4 ih =>
            intro h0
            have := h3.inr hf
            exact ih (hfar.clo _ (by omega) _ h4 h0)
        obtain ⟨k, hk1, hk2⟩ := key hring (by rw [Int.toNat_natCast, hfar.atz]; exact Int.le_refl _)
        exact ⟨k, hk1, hk2, fun h => absurd rfl h⟩
      · have hp : 0 < far.getD x.toNat (-1) := by
          obtain ⟨r1, h3⟩ := hc.fst
          have hrl : 1 < r.length := by
            rcases Nat.lt_or_ge 1 r.length with h | h
            · exact h
            · exfalso
              have : r2 = [] := by
                have := congrArg List.length h2
                simp at this
                exact List.eq_nil_of_length_eq_zero (by omega)
              rw [this] at h2
              rw [h2] at h3
              simp at h3
              exact hxa h3.1
          have h4 := hc.pos (r.length - 1) (by omega) (by omega)
          have h5 : r[r.length - 1]? = some x := by rw [h2]; simp
          rw [List.getElem?_eq_getElem (by omega)] at h5
          simp at h5
          rw [h5] at h4; exact h4
        obtain ⟨k, hk1, hk2⟩ := hfar.stp x.toNat hxl hp
        exact ⟨k, hk1, by omega, fun _ => by omega⟩
    obtain ⟨k0, hk0, hk1, hk2⟩ := hon
    have hbest := hb
    rcases hb with ⟨rfl, hb⟩ | ⟨hy, hy0, hb⟩
    · have := hb k0 hk0; omega
    · have hyin := hf.inr _ hxl y hy
      have hyk := hb k0 hk0 hk1
      have hylt : x ≠ at' → far.getD y.toNat (-1) < far.getD x.toNat (-1) := fun h => by have := hk2 h; omega
      rw [hrk.r.top.sl (x := x) hx.1 (by rw [hrk.r.len]; omega)]
      simp only [Ints.len hrow, Int.ofNat_eq_natCast, e1, bind3_some, eqInt_dec]
      by_cases hya : y = at'
      · subst hya
        simp only [decide_true, cond_true]
        exact ⟨h, rs, r, rfl, hk, ho, hc.ring hfar hy, .stop hbest⟩
      · simp only [hya, decide_false, cond_false, ltInt_dec, show ¬ y < 0 by omega]
        have hrlen : r.length ≤ d.length := nodup_le (hc.nodup hfar) hc.inr
        obtain ⟨rs', h1', e2, o2, b2, c2⟩ := append_own1 app26 (v := AV.int .i64 y) rfl ho (by omega) (by simp; omega)
        rw [e2]
        simp only [bindT_some, cast_slice]
        have hc2 := hc.next hf hfar hy hy0 hylt hya hone
        have hmeas : (if y = (at' : Int) then d.length else (far.getD y.toNat (-1)).toNat) < M := by
          rw [if_neg hya]
          have h3 := hfar.hi y.toNat
          by_cases hxa : x = at'
          · rw [if_pos hxa] at h1; omega
          · rw [if_neg hxa] at h1
            have := hylt hxa
            omega
        obtain ⟨q1, q2, q3, q4, q5, q6, q7, q8⟩ := ih h1' rs' (r ++ [y]) y hmeas (hk.trans (b2.keep (by omega) (fun A hA => (ho.ge A hA).1))) (by rw [List.map_append]; exact o2) hc2 (fun e => absurd e hya)
        exact ⟨q1, q2, q3, q4, q5, q6, q7, .on hbest hya hyin.1 q8⟩
end Go.Proofs.Ythpplekbeecdfaa.Gb

open Go Go.Proofs.Ythpplekbeecdfaa.Ai Go.Proofs
namespace Go.Proofs.Ythpplekbeecdfaa.Gb
variable {N : Nat} {s : SL} {l : List Int} {ss : List SL} {d : List (List Int)} {B : Nat} {h0 : Heap}
theorem Ring_specF {h : Heap} (hf : Fine d) (hN : 1000 ≤ N) (hr : RowsB h.next h s ss d) :
    (∃ h', f20 N s h = some (nilS, h') ∧ Keep h.next h h' ∧ Acyclic d) ∨
    (∃ (h' : Heap) (s' : SL) (r : List Int) (j : Nat), f20 N s h = some (s', h') ∧ Keep h.next h h' ∧ Own1 h.next h' s' (r.map (AV.int .i64)) ∧ j < d.length ∧ Reach d (j : Int) (j : Int) ∧ (∀ k : Nat, k < j → ¬ Reach d (k : Int) (k : Int)) ∧ Rg d j r ∧ ∃ far, Far d j far ∧ RingR d far j [(j : Int)] (j : Int) r) := by
  have hm := may_spec (N := N) hr.r hf (by omega)
  have hlen := hf.len
  rcases ringed_loop (N := N) hf hN N 0 h (by omega) (by omega) hr (Nat.le_refl _) (fun j hj => by omega) with ⟨h', e, k, ha⟩ | ⟨h1, j, e, k1, hj1, hj2, hj3⟩
  · left
    simp only [Int.ofNat_zero] at e
    refine ⟨h', ?_, k, acyclic_of hf ha⟩
    simp [f20, hm, nn11, f43, hr.r.slen, e, ltInt_dec]
  · right
    simp only [Int.ofNat_zero] at e
    have r1 : RowsB h1.next h1 s ss d := (hr.keep k1).mono k1.next
    obtain ⟨fs, h2, far, e2, k2, o2, hfar⟩ := back_spec (N := N) r1 hf hN hj1
    have r2 : RowsB h2.next h2 s ss d := (r1.keep k2).mono k2.next
    generalize hH : h2.push (.row [.int .i64 j] .own) = H
    have kb : Keep h2.next h2 H := by rw [← hH]; exact (Keep.refl _ _).push (Nat.le_refl _) _
    have hHn : H.next = h2.next + 1 := by rw [← hH]; rfl
    have hch : Ch d j far [(j : Int)] (j : Int) := by
      refine ⟨⟨[], rfl⟩, ⟨[], rfl⟩, fun i hi => by simp at hi, fun y hy => ?_, fun i hi h0 => by simp at hi; omega, fun a b hb hab h0 => by simp at hb; omega⟩
      rw [List.mem_singleton.1 hy]; omega
    obtain ⟨h3, rs, r, e3, k3, o3, hrg, hrr⟩ := ring_loopF (N := N) (B := h2.next) (h0 := H) (r2.keep kb) hf hN (by omega) (One.keep kb o2.one.2.2.under o2.one) o2.one.2.2.under hj1 hfar hj2 nilS N H ⟨some (h2.next, 0), 1, 1, 1⟩ [(j : Int)] (j : Int) (by rw [if_pos rfl]; omega) (Keep.refl _ _) (.inr ⟨h2.next, [.int .i64 j], .own, rfl, rfl, Nat.le_refl _, by omega, by rw [← hH]; exact g_push_eq _ rfl, rfl, by simp, by simp, by simp, .inr ⟨rfl, rfl⟩⟩) hch (fun _ => rfl)
    have hn1 := k1.next
    have hn2 := k2.next
    refine ⟨h3, rs, r, j, ?_, (k1.trans (k2.mono (by omega))).trans ((kb.trans k3).mono (by omega)), Own1.lower (by omega) o3, hj1, hj2, hj3, hrg, far, hfar, hrr⟩
    have e3' : f20_l1 N N s ⟨none, 0, 0, 0⟩ (j : Int) fs ⟨some (h2.next, 0), 1, 1, 1⟩ (j : Int) H = some (.ret, (rs, ()), h3) := e3
    have hj0 : ¬ ((j : Int) < 0) := by omega
    simp only [f20, hm, nn11, f43, hr.r.slen, e, ltInt_dec, e2, hH, e3', bind2_some, bindV_some, cast_bool, cond_false, bind3_some, eqOut_ret, Int.ofNat_eq_natCast, hj0, decide_false]
end Go.Proofs.Ythpplekbeecdfaa.Gb

open Go Go.Proofs.Ythpplekbeecdfaa.Ai Go.Proofs
namespace Go.Proofs.Ythpplekbeecdfaa.Gb
variable {N : Nat} {s : SL} {l : List Int} {ss : List SL} {ll : List (List Int)} {B : Nat} {h0 : Heap}
theorem few_loop {h : Heap} (hr : Rows h s ss ll) : ∀ (M i : Nat) (v2 : Bool), i ≤ ll.length → i ≤ 20 → 20 - i < M →
    f24_l1 N M s v2 (i : Int) h = some (.ret, (s, false, ()), h) ∨ (f24_l1 N M s v2 (i : Int) h = some (.exit 0, (s, v2, ()), h) ∧ ∀ j, i ≤ j → j < ll.length → j < 20 → (ll.getD j []).length ≤ 20) := by
  intro M
  induction M with
  | zero => intro i v2 h1 h2; omega
  | succ M ih =>
    intro i v2 h1 h2 h3
    rw [f24_l1_succ]
    unfold f24_l1_b
    by_cases hi : i < ll.length
    · by_cases h20 : i < 20
      · have ew : wrapA .i64 ((i : Int) + 1) = ((i + 1 : Nat) : Int) := wrapA_small (by omega) (by omega)
        have hrow := hr.row i hi
        have hlen := Ints.len hrow
        have c20 : ltInt (i : Int) 20 = true := by rw [ltInt_dec]; simp only [decide_eq_true_eq]; omega
        rw [hr.top.sl (x := (i : Int)) (by omega) (by rw [hr.len]; omega)]
        simp only [hr.slen, nat_i, hi, decide_true, cond_true, Int.toNat_natCast, hlen, Int.ofNat_eq_natCast, c20, ew]
        by_cases hb : 20 < (ll.getD i []).length
        · have : ltInt 20 ((ll.getD i []).length : Int) = true := by rw [ltInt_dec]; simp only [decide_eq_true_eq]; omega
          left; simp only [this, cond_true]
        · have : ltInt 20 ((ll.getD i []).length : Int) = false := by rw [ltInt_dec]; simp only [decide_eq_false_iff_not]; omega
          simp only [this, cond_false]
          rcases ih (i + 1) v2 (by omega) (by omega) (by omega) with e | ⟨e, hx⟩
          · exact .inl e
          · refine .inr ⟨e, fun j h4 h5 h6 => ?_⟩
            by_cases hj : j = i
            · subst hj; omega
            · exact hx j (by omega) h5 h6
      · have c20 : ltInt (i : Int) 20 = false := by rw [ltInt_dec]; simp only [decide_eq_false_iff_not]; omega
        right
        refine ⟨by simp only [hr.slen, nat_i, hi, decide_true, cond_true, Int.ofNat_eq_natCast, c20, cond_false], fun j h4 h5 h6 => by omega⟩
    · right
      refine ⟨by simp only [hr.slen, nat_i, hi, decide_false, cond_false, Int.ofNat_eq_natCast], fun j h4 h5 h6 => by omega⟩
theorem few_spec {h : Heap} (hN : 1000 ≤ N) (hr : Rows h s ss ll) : ∃ b, f24 N s h = some (b, h) ∧ (b = true → ll.length ≤ 20 ∧ ∀ j, j < ll.length → (ll.getD j []).length ≤ 20) := by
  unfold f24
  rcases few_loop (N := N) hr N 0 false (by omega) (by omega) (by omega) with e | ⟨e, hx⟩
  · simp only [Int.ofNat_zero] at e
    exact ⟨false, by simp only [e, bind3_some, eqOut]; rfl, by simp⟩
  · simp only [Int.ofNat_zero] at e
    refine ⟨leInt (ll.length : Int) 20, by simp only [e, bind3_some, eqOut_exit, decide_true, cond_true, hr.slen, Int.ofNat_eq_natCast], fun hb => ?_⟩
    rw [leInt_dec] at hb
    simp at hb
    exact ⟨by omega, fun j hj => hx j (by omega) hj (by omega)⟩
/-- a plan: what things need, and their states -/
structure Pl (B : Nat) (h : Heap) (P : Nat) (dv sv : SL) (ss : List SL) (ll : List (List Int)) (st : List Int) : Prop where
  lo : B ≤ P
  hi : P < h.next
  g : h.g P = some (.row [.slice dv.a dv.len dv.cap dv.sz, .slice sv.a sv.len sv.cap sv.sz] .own)
  s : Own1 B h sv (st.map (AV.int .i64))
  d : Own1 B h dv (ss.map SL.av)
  dl : ss.length = ll.length
  r : ∀ i, i < ll.length → Own1 B h (ss.getD i nilS) ((ll.getD i []).map (AV.int .i64))
  n1 : sv.blk ≠ some P
  n2 : ∀ A, sv.blk = some A → dv.blk ≠ some A
  n3 : ∀ i, i < ll.length → ∀ A, sv.blk = some A → (ss.getD i nilS).blk ≠ some A
  n4 : dv.blk ≠ some P
  n5 : ∀ i, i < ll.length → ∀ A, dv.blk = some A → (ss.getD i nilS).blk ≠ some A
  n6 : ∀ i, i < ll.length → (ss.getD i nilS).blk ≠ some P
theorem Pl.keep {h h' : Heap} {P : Nat} {dv sv : SL} {st : List Int} (hp : Pl B h P dv sv ss ll st) (hb : But none h h') : Pl B h' P dv sv ss ll st :=
  ⟨hp.lo, Nat.lt_of_lt_of_le hp.hi hb.next, by rw [hb.g P hp.hi (by simp)]; exact hp.g, hp.s.but hb (by simp), hp.d.but hb (by simp), hp.dl, fun i hi => (hp.r i hi).but hb (by simp), hp.n1, hp.n2, hp.n3, hp.n4, hp.n5, hp.n6⟩
theorem Pl.store {h h' : Heap} {P : Nat} {dv sv : SL} {st st' : List Int} (hp : Pl B h P dv sv ss ll st) (hb : But sv.blk h h') (hs : Own1 B h' sv (st'.map (AV.int .i64))) : Pl B h' P dv sv ss ll st' :=
  ⟨hp.lo, Nat.lt_of_lt_of_le hp.hi hb.next, by rw [hb.g P hp.hi hp.n1]; exact hp.g, hs, hp.d.but hb (fun A hA e => hp.n2 A e hA), hp.dl, fun i hi => (hp.r i hi).but hb (fun A hA e => hp.n3 i hi A e hA), hp.n1, hp.n2, hp.n3, hp.n4, hp.n5, hp.n6⟩
theorem Pl.c0 {h : Heap} {P : Nat} {dv sv : SL} {st : List Int} (hp : Pl B h P dv sv ss ll st) : h.cell (P, 0 + 0) = some (.slice dv.a dv.len dv.cap dv.sz) := by
  rw [Heap.cell_g, hp.g]; rfl
theorem Pl.c1 {h : Heap} {P : Nat} {dv sv : SL} {st : List Int} (hp : Pl B h P dv sv ss ll st) : h.cell (P, 0 + 1) = some (.slice sv.a sv.len sv.cap sv.sz) := by
  rw [Heap.cell_g, hp.g]; rfl
theorem nn14 : binA E .neq 32 (.tmp 14) (.const .nilIface) AV.nilIface AV.nilIface = some (.bool false) := by kernel_rfl
theorem nn14e (v : AV) : binA E .neq 32 (.tmp 14) (.const .nilIface) (.iface 69 v) AV.nilIface = some (.bool true) := by kernel_rfl
theorem new_loop (hr : RowsB B h0 s ss ll) (hf : Fine ll) {P : Nat} {sv : SL} {st : List Int} (hbn : B ≤ h0.next) : ∀ (M i : Nat) (h : Heap) (dv : SL) (ds : List SL), i ≤ ll.length → ll.length - i < M → Keep B h0 h → Pl B h P dv sv ds (ll.take i) st →
    ∃ h' dv' ds', f26_l1 N M (some (P, 0)) s (ll.length : Int) (i : Int) h = some (.exit 0, (some (P, 0), ()), h') ∧ Keep B h0 h' ∧ Pl B h' P dv' sv ds' ll st := by
  intro M
  induction M with
  | zero => intro i h dv ds h1 h2; omega
  | succ M ih =>
    intro i h dv ds h1 h2 hk hp
    have hlen := hf.len
    rw [f26_l1_succ]
    unfold f26_l1_b
    by_cases hi : i < ll.length
    · have ew : wrapA .i64 ((i : Int) + 1) = ((i + 1 : Nat) : Int) := wrapA_small (by omega) (by omega)
      have hrk := hr.keep hk
      have hrow := hrk.r.row i hi
      have hrl := hf.row i hi
      have hnx := hk.next
      rw [hrk.r.top.sl (x := (i : Int)) (by omega) (by rw [hrk.r.len]; omega)]
      simp only [nat_i, hi, decide_true, cond_true, Int.toNat_natCast, need_some, hp.c0, bindV_some, cast_slice]
      obtain ⟨rv, h13, e13, o13, b13, c13⟩ := append_ownN (B := B) (s := nilS) (vs := []) app26 hrow (by simp [AV.single]) (Own1.nil _ _ _) (by omega) (by simp only [List.length_nil, List.length_map]; omega)
      rw [e13]
      simp only [bindT_some, cast_slice]
      have b13n : But none h h13 := b13
      have hp13 := hp.keep b13n
      have hk13 : Keep B h h13 := b13.keep (by omega) (fun A hA => by simp [SL.blk] at hA)
      have hrv : ∀ A, rv.blk = some A → h.next ≤ A ∧ A < h13.next := by
        intro A hA
        refine ⟨?_, (o13.ge A hA).2⟩
        rcases c13 with c | ⟨A', c, hc⟩
        · rw [c] at hA; simp [SL.blk] at hA
        · rw [c] at hA; cases hA; exact hc
      obtain ⟨dv', h16, e16, o16, b16, c16⟩ := append_own1 app22 (v := .slice rv.a rv.len rv.cap rv.sz) rfl hp13.d (by have := hk13.next; omega) (by simp [hp.dl]; omega)
      have hn16 := b16.next
      have hn13 := b13.next
      have g13 : h13.g P = _ := hp13.g
      have g16 : h16.g P = _ := (b16.g P hp13.hi hp.n4).trans g13
      have gp : ∀ b, (h13.push b).cell (P, 0 + 0) = some (.slice dv.a dv.len dv.cap dv.sz) := by
        intro b
        rw [Heap.cell_g, g_push_ne _ (by have := hp13.hi; omega), g13]; rfl
      have s1 : ∀ v, sameO (some v) v = true := sameO_some
      have es : h16.store (P, 0 + 0) [.slice dv'.a dv'.len dv'.cap dv'.sz] = some (h16.put P (.row [.slice dv'.a dv'.len dv'.cap dv'.sz, .slice sv.a sv.len sv.cap sv.sz] .own)) := by
        rw [Heap.store_g, g16]; rfl
      rw [e16]
      simp only [bindT_some, cast_slice, need_some, es, gp, hp13.c0, hp.c0, s1, cond_true, guardB, ew]
      have bP : But (some P) h16 (h16.put P (.row [.slice dv'.a dv'.len dv'.cap dv'.sz, .slice sv.a sv.len sv.cap sv.sz] .own)) := ⟨fun A hA hne => g_put_ne _ (fun e => hne (by rw [e])), Nat.le_refl _⟩
      have hdv : ∀ A, dv'.blk = some A → dv.blk = some A ∨ h13.next ≤ A := by
        intro A hA
        rcases c16 with c | ⟨A', c, hc⟩
        · exact .inl (c ▸ hA)
        · rw [c] at hA; cases hA; exact .inr hc
      have hloP := hp.lo
      have hhiP := hp.hi
      have hdvP : dv'.blk ≠ some P := by
        intro e
        rcases hdv P e with e | e
        · exact hp.n4 e
        · omega
      have hdl : ds.length = i := by rw [hp.dl, List.length_take]; omega
      have htl : (ll.take i).length = i := by rw [List.length_take]; omega
      have htl1 : (ll.take (i + 1)).length = i + 1 := by rw [List.length_take]; omega
      have gd1 : ∀ j, j < i → (ds ++ [rv]).getD j nilS = ds.getD j nilS := by
        intro j hj
        rw [getD_lt _ _ (by simp; omega), getD_lt _ _ (by omega), List.getElem_append_left (by omega)]
      have gd2 : (ds ++ [rv]).getD i nilS = rv := by
        rw [getD_lt _ _ (by simp; omega), List.getElem_append_right (by omega)]; simp
      have gl1 : ∀ j, j < i → (ll.take (i + 1)).getD j [] = (ll.take i).getD j [] := by
        intro j hj
        rw [getD_lt _ _ (by omega), getD_lt _ _ (by omega)]; simp
      have gl2 : (ll.take (i + 1)).getD i [] = ll.getD i [] := by
        rw [getD_lt _ _ (by omega), getD_lt _ _ (by omega)]; simp
      have hs13 := hp13.s
      have hs16 := hs13.but b16 (fun A hA e => hp.n2 A hA e)
      have hrow13 : ∀ j, j < i + 1 → Own1 B h13 ((ds ++ [rv]).getD j nilS) (((ll.take (i + 1)).getD j []).map (AV.int .i64)) := by
        intro j hj
        by_cases hji : j = i
        · subst hji; rw [gd2, gl2]; exact o13
        · rw [gd1 j (by omega), gl1 j (by omega)]; exact hp13.r j (by omega)
      have hrne : ∀ j, j < i + 1 → ∀ A, ((ds ++ [rv]).getD j nilS).blk = some A → dv.blk ≠ some A ∧ A ≠ P ∧ sv.blk ≠ some A ∧ A < h13.next := by
        intro j hj A hA
        by_cases hji : j = i
        · subst hji
          rw [gd2] at hA
          have h3 := hrv A hA
          refine ⟨fun e => ?_, by omega, fun e => ?_, h3.2⟩
          · have := (hp.d.ge A e).2; omega
          · have := (hp.s.ge A e).2; omega
        · rw [gd1 j (by omega)] at hA
          refine ⟨fun e => hp.n5 j (by omega) A e hA, fun e => hp.n6 j (by omega) (e ▸ hA), fun e => hp.n3 j (by omega) A e hA, ?_⟩
          exact ((hp13.r j (by omega)).ge A hA).2
      have hrow16 : ∀ j, j < i + 1 → Own1 B h16 ((ds ++ [rv]).getD j nilS) (((ll.take (i + 1)).getD j []).map (AV.int .i64)) := fun j hj => (hrow13 j hj).but b16 (fun A hA => (hrne j hj A hA).1)
      refine ih (i + 1) _ dv' (ds ++ [rv]) (by omega) (by omega) (hk.trans (hk13.trans ((b16.keep (by omega) (fun A hA => (hp13.d.ge A hA).1)).trans (bP.keep (by omega) (fun A hA => by cases hA; exact hloP))))) ?_
      refine ⟨hloP, by simp; omega, g_put_eq _ rfl, hs16.but bP (fun A hA e => by cases e; exact hp.n1 hA), ?_, by rw [List.length_append, htl1, hdl]; rfl, fun j hj => (hrow16 j (by omega)).but bP (fun A hA e => by cases e; exact (hrne j (by omega) _ hA).2.1 rfl), hp.n1, ?_, fun j hj A hA e => (hrne j (by omega) A e).2.2.1 hA, hdvP, ?_, fun j hj e => (hrne j (by omega) P e).2.1 rfl⟩
      · rw [List.map_append]; exact o16.but bP (fun A hA e => by cases e; exact hdvP hA)
      · intro A hA e
        rcases hdv A e with e | e
        · exact hp.n2 A hA e
        · have := (hp13.s.ge A hA).2; omega
      · intro j hj A hA e
        have hx := hrne j (by omega) A e
        rcases hdv A hA with e2 | e2
        · exact hx.1 e2
        · omega
    · have : i = ll.length := by omega
      subst this
      rw [List.take_length] at hp
      exact ⟨h, dv, ds, by simp [nat_i], hk, hp⟩
/-- a new plan, where the needs have an order -/
theorem New_spec {h : Heap} (hf : Fine ll) (hN : 1000 ≤ N) (hr : RowsB B h s ss ll) (hb : B ≤ h.next) :
    (∃ h' P dv sv ds, f26 N s h = some ((some (P, 0), .nilIface, ()), h') ∧ Keep B h h' ∧ Pl B h' P dv sv ds ll (List.replicate ll.length 0) ∧ Acyclic ll) ∨
    (∃ (h' : Heap) (v : AV) (j : Nat), f26 N s h = some ((none, .iface 69 v, ()), h') ∧ Keep B h h' ∧ j < ll.length ∧ Reach ll (j : Int) (j : Int)) := by
  have hlen := hf.len
  rcases Order_spec (N := N) hf hN hr hb with ⟨s1, h1, out, e1, k1, _, ha, _⟩ | ⟨h1, v, j, e1, k1, ⟨A, rfl, _⟩, hj, hx, _⟩
  · left
    have hnx := k1.next
    obtain ⟨m1, m2⟩ := make1 app26 (.int .i64 0) app26z rfl ll.length (by omega) h1
    generalize hh5 : h1.push (.row (List.replicate ll.length (.int .i64 0)) .own) = h5 at m1 m2
    have hn5 : h5.next = h1.next + 1 := by rw [← hh5]; simp
    have k5 : Keep B h h5 := by rw [← hh5]; exact k1.push hb _
    have hp : Pl B (h5.push (.row [.slice none 0 0 0, .slice (some (h1.next, 0)) ll.length ll.length 1] .own)) h5.next nilS ⟨some (h1.next, 0), ll.length, ll.length, 1⟩ [] (ll.take 0) (List.replicate ll.length 0) := by
      refine ⟨by omega, by simp, g_push_eq _ rfl, ?_, Own1.nil _ _ _, rfl, fun i hi => by simp at hi, by simp [SL.blk]; omega, fun A hA => by simp [SL.blk], fun i hi => by simp at hi, by simp [SL.blk], fun i hi => by simp at hi, fun i hi => by simp at hi⟩
      rw [List.map_replicate]
      refine Own1.push ?_ _
      rcases m2 with ⟨h2, _⟩ | ⟨A, cs, st, h2, h3, h4, h6⟩
      · cases h2
      · exact .inr ⟨A, cs, st, h2, h3, by omega, h6⟩
    obtain ⟨h', dv, ds, e2, k2, hp2⟩ := new_loop (N := N) hr hf (by omega) N 0 _ nilS [] (by omega) (by omega) (k5.push hb _) hp
    simp only [Int.ofNat_zero] at e2
    refine ⟨h', h5.next, dv, _, ds, ?_, k2, hp2, ha⟩
    unfold f26
    simp only [e1, bind2_some, nn14, bindV_some, cast_bool, cond_false, hr.r.slen, Int.ofNat_eq_natCast, m1, bindT_some, cast_slice, e2, bind3_some]
  · right
    refine ⟨h1, .ptr (some (A, 0)), j, ?_, k1, hj, hx⟩
    unfold f26
    simp only [e1, bind2_some, nn14e, bindV_some, cast_bool, cond_true]
theorem New_bad {h : Heap} (hN : 1000 ≤ N) (hr : Rows h s ss ll) {c : Int} {j : Nat} (hb : badOf ll = some (c, j)) : f26 N s h = some ((none, errV h, ()), errH h c j) := by
  have h1 := Order_bad hN hr hb
  unfold f26
  simp only [h1, bind2_some, errV, nn14e, bindV_some, cast_bool, cond_true]
end Go.Proofs.Ythpplekbeecdfaa.Gb

open Go Go.Proofs.Ythpplekbeecdfaa.Ai Go.Proofs
namespace Go.Proofs.Ythpplekbeecdfaa.Gb
variable {N : Nat} {s : SL} {l : List Int} {ss : List SL} {ll : List (List Int)} {B : Nat} {h0 : Heap} {P : Nat} {dv sv : SL} {st : List Int}
theorem Keep.but {h h' : Heap} (k : Keep h.next h h') : But none h h' := ⟨fun A hA _ => k.g A hA, k.next⟩
theorem eqI (a b : Int) : eqInt a b = decide (a = b) := eqInt_dec a b
/-- what may be done with a thing -/
def nowM (ll : List (List Int)) (st : List Int) (i : Nat) : Int :=
  if st.getD i 0 = 2 then 3 else if st.getD i 0 = 1 then 3 else
  if (ll.getD i []).any (fun k => decide (st.getD k.toNat 0 = 2)) then 2 else if (ll.getD i []).any (fun k => decide (st.getD k.toNat 0 = 0)) then 0 else 1
def allM (ll : List (List Int)) (st : List Int) (w : Int) (i m : Nat) : List Int := ((List.range' i m).filter fun i => decide (nowM ll st i = w)).map Int.ofNat
theorem now_loop {h : Heap} (hp : Pl B h P dv sv ss ll st) (hs : Ints h s l) (hl : l.length ≤ 1000) (hin : ∀ x ∈ l, 0 ≤ x ∧ x < st.length) (v1 : Int) : ∀ (M i : Nat) (a b : Bool), i ≤ l.length → l.length - i < M →
    f47_l1 N M (some (P, 0)) v1 a b s (l.length : Int) (i : Int) h = some (.exit 0, (some (P, 0), v1, a || (l.drop i).any (fun k => decide (st.getD k.toNat 0 = 0)), b || (l.drop i).any (fun k => decide (st.getD k.toNat 0 = 2)), ()), h) := by
  intro M
  induction M with
  | zero => intro i a b h1 h2; omega
  | succ M ih =>
    intro i a b h1 h2
    rw [f47_l1_succ]
    unfold f47_l1_b
    by_cases hi : i < l.length
    · have ew : wrapA .i64 ((i : Int) + 1) = ((i + 1 : Nat) : Int) := wrapA_small (by omega) (by omega)
      have hd : l.drop i = l[i] :: l.drop (i + 1) := List.drop_eq_getElem_cons hi
      have hx := hin l[i] (List.getElem_mem hi)
      have rd : ∀ {β : Type} (K : Int → Option β), (ixK sv.a sv.len l[i] 1 fun q => bindV (.val (.one (.int .i64))) (h.cell q) K) = K (st.getD l[i].toNat 0) := fun K => hp.s.one.int hx.1 (by omega) K
      rw [hs.int (x := (i : Int)) (by omega) (by omega)]
      simp only [nat_i, hi, decide_true, cond_true, Int.toNat_natCast, getD_lt _ _ hi, ew, hd, List.any_cons, need_some, hp.c1, bindV_some, cast_slice, rd, eqI]
      cases a <;> cases b <;> simp only [cond_true, cond_false, Bool.true_or, Bool.false_or]
      · rw [ih (i + 1) _ _ (by omega) (by omega)]
      · rw [ih (i + 1) _ _ (by omega) (by omega)]; simp
      · rw [ih (i + 1) _ _ (by omega) (by omega)]; simp
      · rw [ih (i + 1) _ _ (by omega) (by omega)]; simp
    · have : i = l.length := by omega
      subst this
      simp [nat_i]
theorem now_spec {h : Heap} (hf : Fine ll) (hN : 1000 ≤ N) (hp : Pl B h P dv sv ss ll st) (hsl : st.length = ll.length) {i : Nat} (hi : i < ll.length) : f47 N (some (P, 0)) (i : Int) h = some (nowM ll st i, h) := by
  have hrow : Ints h (ss.getD i nilS) (ll.getD i []) := (hp.r i hi).one
  have hl := now_loop (N := N) hp hrow (by have := hf.row i hi; omega) (fun x hx => by rw [hsl]; exact hf.inr i hi x hx) (i : Int) N 0 false false (by omega) (by have := hf.row i hi; omega)
  simp only [Int.ofNat_zero, List.drop_zero, Bool.false_or] at hl
  have rs : ∀ {β : Type} (K : SL → Option β), (ixK dv.a dv.len (i : Int) 1 fun q => bindV (.val (.one .slice)) (h.cell q) K) = K (ss.getD i nilS) := fun K => by
    rw [hp.d.one.sl (x := (i : Int)) (by omega) (by rw [hp.dl]; omega)]; simp only [Int.toNat_natCast]
  have rd : ∀ {β : Type} (K : Int → Option β), (ixK sv.a sv.len (i : Int) 1 fun q => bindV (.val (.one (.int .i64))) (h.cell q) K) = K (st.getD i 0) := fun K => by
    rw [hp.s.one.int (x := (i : Int)) (by omega) (by omega)]; simp only [Int.toNat_natCast]
  unfold f47
  simp only [need_some, hp.c0, hp.c1, bindV_some, cast_slice, rs, Ints.len hrow, Int.ofNat_eq_natCast, hl, bind3_some, rd, eqI]
  unfold nowM
  by_cases h1 : st.getD i 0 = 2
  · simp only [h1, decide_true, cond_true, if_true]
  · by_cases h2 : st.getD i 0 = 1
    · simp only [h1, h2, decide_true, decide_false, cond_true, cond_false, if_true, if_false]
      rfl
    · simp only [h1, h2, decide_false, cond_false, if_false]
      cases (ll.getD i []).any (fun k => decide (st.getD k.toNat 0 = 2)) <;> cases (ll.getD i []).any (fun k => decide (st.getD k.toNat 0 = 0)) <;> rfl
theorem all_loop (hf : Fine ll) (hN : 1000 ≤ N) (hp : Pl B h0 P dv sv ss ll st) (hsl : st.length = ll.length) (w : Int) : ∀ (M i : Nat) (h : Heap) (ov : SL) (out : List Int), i ≤ ll.length → ll.length - i < M → out.length ≤ i → Keep h0.next h0 h → Own1 h0.next h ov (out.map (AV.int .i64)) →
    ∃ h' ov', f45_l1 N M (some (P, 0)) w ov (ll.length : Int) (i : Int) h = some (.exit 0, (ov', ()), h') ∧ Keep h0.next h0 h' ∧ Own1 h0.next h' ov' ((out ++ allM ll st w i (ll.length - i)).map (AV.int .i64)) := by
  intro M
  induction M with
  | zero => intro i h ov out h1 h2; omega
  | succ M ih =>
    intro i h ov out h1 h2 hoi hk ho
    have hlen := hf.len
    rw [f45_l1_succ]
    unfold f45_l1_b
    by_cases hi : i < ll.length
    · have ew : wrapA .i64 ((i : Int) + 1) = ((i + 1 : Nat) : Int) := wrapA_small (by omega) (by omega)
      have hnx := hk.next
      have en := now_spec (N := N) hf hN (hp.keep (Keep.but hk)) hsl hi
      have ha : allM ll st w i (ll.length - i) = (if nowM ll st i = w then [(i : Int)] else []) ++ allM ll st w (i + 1) (ll.length - (i + 1)) := by
        rw [show ll.length - i = (ll.length - (i + 1)) + 1 by omega]
        simp only [allM, List.range'_succ, List.filter_cons, decide_eq_true_eq]
        split <;> simp
      simp only [nat_i, hi, decide_true, cond_true, en, bind2_some, eqI, ew, ha]
      by_cases hw : nowM ll st i = w
      · obtain ⟨ov1, h1', e1, o1, b1, c1⟩ := append_own1 app26 (v := AV.int .i64 (i : Int)) rfl ho (by omega) (by rw [List.length_map]; omega)
        simp only [hw, decide_true, cond_true, if_true]
        rw [e1]
        simp only [bindT_some, cast_slice]
        obtain ⟨h2', ov2, e2, k2, o2⟩ := ih (i + 1) h1' ov1 (out ++ [(i : Int)]) (by omega) (by omega) (by simp; omega) (hk.trans (b1.keep (by omega) (fun A hA => (ho.ge A hA).1))) (by rw [List.map_append]; exact o1)
        exact ⟨h2', ov2, e2, k2, by rw [← List.append_assoc]; exact o2⟩
      · simp only [hw, decide_false, cond_false, if_false, List.nil_append]
        exact ih (i + 1) h ov out (by omega) (by omega) (by omega) hk ho
    · have : i = ll.length := by omega
      subst this
      exact ⟨h, ov, by simp [nat_i], hk, by simpa [allM] using ho⟩
theorem all_spec {h : Heap} (hf : Fine ll) (hN : 1000 ≤ N) (hp : Pl B h P dv sv ss ll st) (hsl : st.length = ll.length) (w : Int) :
    ∃ s' h', f45 N (some (P, 0)) w h = some (s', h') ∧ But none h h' ∧ Own1 h.next h' s' ((allM ll st w 0 ll.length).map (AV.int .i64)) := by
  have hlen := hf.len
  obtain ⟨h', ov, e, k, o⟩ := all_loop (N := N) hf hN hp hsl w N 0 h nilS [] (by omega) (by omega) (by simp) (Keep.refl _ _) (Own1.nil _ _ _)
  simp only [Int.ofNat_zero, List.nil_append, Nat.sub_zero] at e o
  have hl : sv.len = ll.length := by have := hp.s.len; rw [List.length_map] at this; omega
  refine ⟨ov, h', ?_, Keep.but k, o⟩
  unfold f45
  simp only [Option.isNone_some, cond_false, need_some, hp.c1, bindV_some, cast_slice, hl, Int.ofNat_eq_natCast, e, bind3_some]
theorem Ready_spec {h : Heap} (hf : Fine ll) (hN : 1000 ≤ N) (hp : Pl B h P dv sv ss ll st) (hsl : st.length = ll.length) :
    ∃ s' h', f28 N (some (P, 0)) h = some (s', h') ∧ But none h h' ∧ Own1 h.next h' s' ((allM ll st 1 0 ll.length).map (AV.int .i64)) := by
  obtain ⟨s', h', e, x⟩ := all_spec (N := N) hf hN hp hsl 1
  exact ⟨s', h', by simp only [f28, e, bind2_some], x⟩
theorem Blocked_spec {h : Heap} (hf : Fine ll) (hN : 1000 ≤ N) (hp : Pl B h P dv sv ss ll st) (hsl : st.length = ll.length) :
    ∃ s' h', f33 N (some (P, 0)) h = some (s', h') ∧ But none h h' ∧ Own1 h.next h' s' ((allM ll st 2 0 ll.length).map (AV.int .i64)) := by
  obtain ⟨s', h', e, x⟩ := all_spec (N := N) hf hN hp hsl 2
  exact ⟨s', h', by simp only [f33, e, bind2_some], x⟩
theorem left_loop {h : Heap} (hs : Ints h s l) (hl : l.length ≤ 1000) : ∀ (M i : Nat) (v : Nat), i ≤ l.length → l.length - i < M → v ≤ i →
    f29_l1 N M (v : Int) s (l.length : Int) (i : Int) h = some (.exit 0, (((v + (l.drop i).count 0 : Nat) : Int), ()), h) := by
  intro M
  induction M with
  | zero => intro i v h1 h2; omega
  | succ M ih =>
    intro i v h1 h2 hv
    rw [f29_l1_succ]
    unfold f29_l1_b
    by_cases hi : i < l.length
    · have ew : wrapA .i64 ((i : Int) + 1) = ((i + 1 : Nat) : Int) := wrapA_small (by omega) (by omega)
      have ew2 : wrapA .i64 ((v : Int) + 1) = ((v + 1 : Nat) : Int) := wrapA_small (by omega) (by omega)
      have hd : l.drop i = l[i] :: l.drop (i + 1) := List.drop_eq_getElem_cons hi
      rw [hs.int (x := (i : Int)) (by omega) (by omega)]
      simp only [nat_i, hi, decide_true, cond_true, Int.toNat_natCast, getD_lt _ _ hi, ew, ew2, hd, eqI, List.count_cons]
      by_cases h0 : l[i] = 0
      · simp only [h0, decide_true, cond_true]
        rw [ih (i + 1) (v + 1) (by omega) (by omega) (by omega)]
        simp; omega
      · simp only [h0, decide_false, cond_false]
        rw [ih (i + 1) v (by omega) (by omega) (by omega)]
        simp [h0]
    · have : i = l.length := by omega
      subst this
      simp [nat_i]
theorem Left_spec {h : Heap} (hf : Fine ll) (hN : 1000 ≤ N) (hp : Pl B h P dv sv ss ll st) (hsl : st.length = ll.length) : f29 N (some (P, 0)) h = some ((st.count 0 : Int), h) := by
  have hlen := hf.len
  have hl : sv.len = st.length := by have := hp.s.len; rw [List.length_map] at this; omega
  have e := left_loop (N := N) (hp.s.one : Ints h sv st) (by omega) N 0 0 (by omega) (by omega) (by omega)
  simp only [Int.ofNat_zero, List.drop_zero, Nat.zero_add] at e
  rw [← hl] at e
  unfold f29
  simp only [Option.isNone_some, Bool.not_false, cond_true, need_some, hp.c1, bindV_some, cast_slice, Int.ofNat_eq_natCast]
  exact (congrArg (fun o => bind3 o fun _ (j12 : Int × Unit) h13 => some (j12.1, h13)) e).trans rfl
theorem State_spec {h : Heap} (hp : Pl B h P dv sv ss ll st) {i : Int} (h0 : 0 ≤ i) (h1 : i < st.length) : f36 N (some (P, 0)) i h = some ((!decide (st.getD i.toNat 0 = 0), decide (st.getD i.toNat 0 = 1), ()), h) := by
  have hl : sv.len = st.length := by have := hp.s.len; rw [List.length_map] at this; omega
  have rd : ∀ {β : Type} (K : Int → Option β), (ixK sv.a sv.len i 1 fun q => bindV (.val (.one (.int .i64))) (h.cell q) K) = K (st.getD i.toNat 0) := fun K => hp.s.one.int h0 h1 K
  have c1 : ltInt i 0 = false := by rw [ltInt_dec]; simp only [decide_eq_false_iff_not]; omega
  have c2 : leInt (st.length : Int) i = false := by rw [leInt_dec]; simp only [decide_eq_false_iff_not]; omega
  rw [← hl] at c2
  unfold f36
  simp only [Option.isNone_some, c1, c2, cond_false, need_some, hp.c1, bindV_some, cast_slice, Int.ofNat_eq_natCast, rd, eqI]
/-- a thing is done: the plan after it, or an error -/
theorem Done_ok {h : Heap} (hf : Fine ll) (hN : 1000 ≤ N) (hp : Pl B h P dv sv ss ll st) (hsl : st.length = ll.length) {i : Int} (h0 : 0 ≤ i) (h1 : i < st.length) (ok : Bool) (hn : nowM ll st i.toNat = 1 ∨ nowM ll st i.toNat = 2 ∧ ok = false) :
    ∃ h', f30 N (some (P, 0)) i ok h = some (.nilIface, h') ∧ But sv.blk h h' ∧ Pl B h' P dv sv ss ll (st.set i.toNat (if ok then 1 else 2)) := by
  have hl : sv.len = st.length := by have := hp.s.len; rw [List.length_map] at this; omega
  have c1 : ltInt i 0 = false := by rw [ltInt_dec]; simp only [decide_eq_false_iff_not]; omega
  have c2 : leInt (sv.len : Int) i = false := by rw [leInt_dec, hl]; simp only [decide_eq_false_iff_not]; omega
  have hnow := now_spec (N := N) hf hN hp hsl (i := i.toNat) (by omega)
  rw [show ((i.toNat : Nat) : Int) = i by omega] at hnow
  obtain ⟨h32, e32, o32, b32, n32⟩ := store_own1 hp.s (i := i.toNat) (by rw [List.length_map]; omega) (AV.int .i64 2)
  have ix : ∀ {β : Type} (K : Nat × Nat → Option β), ixK sv.a sv.len i 1 K = K (sv.at i.toNat 1) := fun K => hp.s.one.ixz h0 (by rw [List.length_map]; omega) K
  have p32 : Pl B h32 P dv sv ss ll (st.set i.toNat 2) := hp.store b32 (by rw [List.map_set]; exact o32)
  obtain ⟨h36, e36, o36, b36, n36⟩ := store_own1 p32.s (i := i.toNat) (by rw [List.length_map, List.length_set]; omega) (AV.int .i64 1)
  have p36 : Pl B h36 P dv sv ss ll (st.set i.toNat 1) := p32.store b36 (by rw [← List.set_set (2 : Int), List.map_set]; exact o36)
  unfold f30
  simp only [Option.isNone_some, c1, c2, cond_false, need_some, hp.c1, bindV_some, cast_slice, Int.ofNat_eq_natCast, hnow, bind2_some, eqI, ix, e32, p32.c1, e36]
  rcases hn with hn | ⟨hn, rfl⟩
  · simp only [hn, decide_true, Bool.not_true, cond_false]
    cases ok with
    | true => exact ⟨h36, rfl, b32.trans b36, p36⟩
    | false => exact ⟨h32, rfl, b32, p32⟩
  · simp only [hn, show ¬ ((2 : Int) = 1) by omega, decide_false, Bool.not_false, cond_true, decide_true, Bool.not_true, cond_false]
    exact ⟨h32, rfl, b32, p32⟩
theorem Done_err {h : Heap} (hf : Fine ll) (hN : 1000 ≤ N) (hp : Pl B h P dv sv ss ll st) (hsl : st.length = ll.length) {i : Int} (h0 : 0 ≤ i) (h1 : i < st.length) (hn : nowM ll st i.toNat ≠ 1) :
    f30 N (some (P, 0)) i true h = some (errV h, errH h 13 0) := by
  have hl : sv.len = st.length := by have := hp.s.len; rw [List.length_map] at this; omega
  have c1 : ltInt i 0 = false := by rw [ltInt_dec]; simp only [decide_eq_false_iff_not]; omega
  have c2 : leInt (sv.len : Int) i = false := by rw [leInt_dec, hl]; simp only [decide_eq_false_iff_not]; omega
  have hnow := now_spec (N := N) hf hN hp hsl (i := i.toNat) (by omega)
  rw [show ((i.toNat : Nat) : Int) = i by omega] at hnow
  unfold f30
  simp only [Option.isNone_some, c1, c2, cond_false, need_some, hp.c1, bindV_some, cast_slice, Int.ofNat_eq_natCast, hnow, bind2_some, eqI, hn, decide_false, Bool.not_false, cond_true, f46_13]
  cases decide (nowM ll st i.toNat = 2) <;> rfl
end Go.Proofs.Ythpplekbeecdfaa.Gb

open Go Go.Proofs.Ythpplekbeecdfaa.Ai Go.Proofs
namespace Go.Proofs.Ythpplekbeecdfaa.Gb
variable {N : Nat} {s : SL} {ss : List SL} {d : List (List Int)} {B : Nat} {h0 : Heap} {far : List Int} {at' : Nat} {o : List Int}
/-- the document's steps are the program's way back -/
theorem far_fw (hf : Fine d) (hr : Far d at' far) (hat : at' < d.length) {i : Nat} (hi : i < d.length) (hb : Fw d i d.length 0 0 o) (hne : i ≠ at') : o.getD at' (-1) = far.getD i (-1) := by
  have hlo := hr.lo i
  have hol := hb.lo at'
  have up : ∀ n : Nat, o.getD at' (-1) = ((n + 1 : Nat) : Int) → 0 ≤ far.getD i (-1) ∧ far.getD i (-1) ≤ ((n + 1 : Nat) : Int) := fun n hn => by
    have h1 := Fw.walk hb n at' hn
    have h2 := Far.le hf hr h1 rfl (by omega) (by omega)
    rwa [Int.toNat_natCast] at h2
  rcases Nat.lt_or_ge 0 (o.getD at' (-1)).toNat with h | h
  · obtain ⟨n, hn⟩ : ∃ n : Nat, o.getD at' (-1) = ((n + 1 : Nat) : Int) := ⟨(o.getD at' (-1)).toNat - 1, by omega⟩
    have h1 := up n hn
    have h2 := Far.walk hf hr (far.getD i (-1)).toNat i hi (by omega)
    rcases Nat.eq_zero_or_pos (far.getD i (-1)).toNat with h3 | h3
    · exact absurd (hr.zero i (by omega)) hne
    · rw [show (far.getD i (-1)).toNat = ((far.getD i (-1)).toNat - 1) + 1 by omega] at h2
      have h4 := Fw.le hf hi hb _ _ h2
      rw [Int.toNat_natCast] at h4
      omega
  · by_cases h1 : 0 ≤ far.getD i (-1)
    · have h2 := Far.walk hf hr (far.getD i (-1)).toNat i hi (by omega)
      rcases Nat.eq_zero_or_pos (far.getD i (-1)).toNat with h3 | h3
      · exact absurd (hr.zero i (by omega)) hne
      · rw [show (far.getD i (-1)).toNat = ((far.getD i (-1)).toNat - 1) + 1 by omega] at h2
        have h4 := Fw.le hf hi hb _ _ h2
        rw [Int.toNat_natCast] at h4
        omega
    · omega
/-- the best of those below i -/
def BestN (far row : List Int) (i : Nat) (b fd : Int) : Prop :=
  (b = -1 ∧ fd = 0 ∧ ∀ k ∈ row, k < (i : Int) → far.getD k.toNat (-1) < 0) ∨ (b ∈ row ∧ b < (i : Int) ∧ 0 ≤ fd ∧ fd = far.getD b.toNat (-1) ∧ ∀ k ∈ row, k < (i : Int) → 0 ≤ far.getD k.toNat (-1) → fd < far.getD k.toNat (-1) ∨ (fd = far.getD k.toNat (-1) ∧ b ≤ k))
theorem BestN.skip {row : List Int} {i : Nat} {b fd : Int} (h : BestN far row i b fd) (hn : (i : Int) ∈ row → far.getD i (-1) < 0 ∨ (0 ≤ b ∧ fd ≤ far.getD i (-1))) : BestN far row (i + 1) b fd := by
  rcases h with ⟨h1, h2, h3⟩ | ⟨h1, h2, h3, h4, h5⟩
  · refine .inl ⟨h1, h2, fun k hk hlt => ?_⟩
    by_cases e : k = (i : Int)
    · subst e
      rw [Int.toNat_natCast]
      rcases hn hk with h | h
      · exact h
      · omega
    · exact h3 k hk (by omega)
  · refine .inr ⟨h1, by omega, h3, h4, fun k hk hlt h0 => ?_⟩
    by_cases e : k = (i : Int)
    · subst e
      rw [Int.toNat_natCast] at h0 ⊢
      rcases hn hk with h | h
      · omega
      · by_cases e2 : fd < far.getD i (-1)
        · exact .inl e2
        · exact .inr ⟨by omega, by omega⟩
    · exact h5 k hk (by omega) h0
theorem BestN.take {row : List Int} {i : Nat} {b fd : Int} (h : BestN far row i b fd) (hin : ∀ k ∈ row, 0 ≤ k) (hi : (i : Int) ∈ row) (h0 : 0 ≤ far.getD i (-1)) (hlt : b < 0 ∨ far.getD i (-1) < fd) : BestN far row (i + 1) i (far.getD i (-1)) := by
  refine .inr ⟨hi, by omega, h0, by rw [Int.toNat_natCast], fun k hk hkl hk0 => ?_⟩
  by_cases e : k = (i : Int)
  · subst e; right; rw [Int.toNat_natCast]; omega
  · left
    rcases h with ⟨h1, h2, h3⟩ | ⟨h1, h2, h3, h4, h5⟩
    · have := h3 k hk (by omega); omega
    · have := h5 k hk (by omega) hk0
      rcases hlt with hlt | hlt
      · have := hin b h1; omega
      · omega
theorem BestN.best {row : List Int} {n : Nat} {b fd : Int} (h : BestN far row n b fd) (hin : ∀ k ∈ row, 0 ≤ k ∧ k < (n : Int)) : Best far row b := by
  rcases h with ⟨h1, h2, h3⟩ | ⟨h1, h2, h3, h4, h5⟩
  · exact .inl ⟨h1, fun k hk => h3 k hk (hin k hk).2⟩
  · refine .inr ⟨h1, by omega, fun k hk h0 => ?_⟩
    have := h5 k hk (hin k hk).2 h0
    omega
/-! the walk -/
theorem need21 {h : Heap} (hr : Rows h s ss d) (hf : Fine d) {x : Nat} (hx : x < d.length) (v5 v8 v9 v10 : Int) (v6 : SL) : ∀ (M j : Nat) (b : Bool), j ≤ (d.getD x []).length → (d.getD x []).length - j < M →
    f21_l3 N M s v5 v6 (x : Int) v8 v9 v10 b (j : Int) h = some (.exit 4, (s, v5, v6, (x : Int), v8, v9, v10, b || ((d.getD x []).drop j).any (fun k => decide (k = v10)), ()), h) := by
  intro M
  induction M with
  | zero => intro j b h1 h2; omega
  | succ M ih =>
    intro j b h1 h2
    rw [f21_l3_succ]
    unfold f21_l3_b
    have hrow := hr.row x hx
    have hrl := hf.row x hx
    have hlen := hf.len
    have rs : ∀ {β : Type} (K : SL → Option β), (ixK s.a s.len (x : Int) 1 fun q => bindV (.val (.one .slice)) (h.cell q) K) = K (ss.getD x nilS) := fun K => by
      rw [hr.top.sl (x := (x : Int)) (by omega) (by rw [hr.len]; omega)]; simp only [Int.toNat_natCast]
    simp only [rs, Ints.len hrow, Int.ofNat_eq_natCast, nat_i]
    by_cases hj : j < (d.getD x []).length
    · have ew : wrapA .i64 ((j : Int) + 1) = ((j + 1 : Nat) : Int) := wrapA_small (by omega) (by omega)
      have hd : (d.getD x []).drop j = (d.getD x [])[j] :: (d.getD x []).drop (j + 1) := List.drop_eq_getElem_cons hj
      have ri : ∀ {β : Type} (K : Int → Option β), (ixK (ss.getD x nilS).a (d.getD x []).length (j : Int) 1 fun q => bindV (.val (.one (.int .i64))) (h.cell q) K) = K (d.getD x [])[j] := fun K => by
        rw [← Ints.len hrow, hrow.int (x := (j : Int)) (by omega) (by omega)]; simp only [Int.toNat_natCast, getD_lt _ _ hj]
      simp only [hj, decide_true, cond_true, ri, ew, hd, List.any_cons, eqInt_dec]
      cases b with
      | true =>
        simp only [cond_true, Bool.true_or]
        rw [ih (j + 1) _ (by omega) (by omega)]; simp
      | false =>
        simp only [cond_false, Bool.false_or]
        exact ih (j + 1) _ (by omega) (by omega)
    · have : j = (d.getD x []).length := by omega
      subst this
      simp
theorem best21 (hf : Fine d) (hN : 1000 ≤ N) (hat : at' < d.length) (hfar : Far d at' far) {x : Nat} (hx : x < d.length) (v6 : SL) : ∀ (M i : Nat) (h : Heap) (b fd : Int), i ≤ d.length → d.length - i < M → RowsB B h s ss d → B ≤ h.next → BestN far (d.getD x []) i b fd →
    ∃ h' b', f21_l2 N M s (at' : Int) v6 (x : Int) b fd (i : Int) h = some (.exit 2, (s, (at' : Int), v6, b', ()), h') ∧ Keep h.next h h' ∧ Best far (d.getD x []) b' := by
  intro M
  induction M with
  | zero => intro i h b fd h1 h2; omega
  | succ M ih =>
    intro i h b fd h1 h2 hr hb hbn
    have hlen := hf.len
    have hxl := hf.row x hx
    rw [f21_l2_succ]
    unfold f21_l2_b
    by_cases hi : i < d.length
    · have ew : wrapA .i64 ((i : Int) + 1) = ((i + 1 : Nat) : Int) := wrapA_small (by omega) (by omega)
      have e3 := need21 (N := N) hr.r hf hx (at' : Int) b fd (i : Int) v6 N 0 false (by omega) (by omega)
      simp only [Int.ofNat_zero, List.drop_zero, Bool.false_or] at e3
      obtain ⟨s1, h1', o, e1, k1, o1, fw⟩ := steps_spec (N := N) hr hb hf hN hi
      have hnx := k1.next
      have ro : ∀ {β : Type} (K : Int → Option β), (ixK s1.a s1.len (at' : Int) 1 fun q => bindV (.val (.one (.int .i64))) (h1'.cell q) K) = K (o.getD at' (-1)) := fun K => by
        rw [o1.one.int (x := (at' : Int)) (by omega) (by rw [fw.len]; omega), Int.toNat_natCast, getD_lt _ _ (by rw [fw.len]; omega), getD_lt _ _ (by rw [fw.len]; omega)]
      have hr1 := hr.keep (k1.mono hb)
      have go : ∀ b fd, BestN far (d.getD x []) (i + 1) b fd → ∃ h' b', f21_l2 N M s (at' : Int) v6 (x : Int) b fd ((i + 1 : Nat) : Int) h1' = some (.exit 2, (s, (at' : Int), v6, b', ()), h') ∧ Keep h.next h h' ∧ Best far (d.getD x []) b' := fun b fd hh => by
        obtain ⟨h', b', e, k, q⟩ := ih (i + 1) h1' b fd (by omega) (by omega) hr1 (by omega) hh
        exact ⟨h', b', e, k1.trans (k.mono hnx), q⟩
      have hbb : 0 ≤ b ∨ b = -1 := by
        rcases hbn with ⟨h, _⟩ | ⟨h, _⟩
        · exact .inr h
        · exact .inl (hf.inr x hx b h).1
      simp only [hr.r.slen, Int.ofNat_eq_natCast, nat_i, hi, decide_true, cond_true, e3, bind3_some, e1, bind2_some, ro, eqInt_dec, ew]
      have hany : ((d.getD x []).any fun k => decide (k = (i : Int))) = true ↔ (i : Int) ∈ d.getD x [] := by
        rw [List.any_eq_true]
        constructor
        · rintro ⟨k, hk, e⟩; rw [decide_eq_true_eq] at e; exact e ▸ hk
        · intro hm; exact ⟨_, hm, by simp⟩
      have hnn : ∀ k ∈ d.getD x [], 0 ≤ k := fun k hk => (hf.inr x hx k hk).1
      by_cases hmem : (i : Int) ∈ d.getD x []
      · simp only [hany.2 hmem, cond_true, leInt_dec, ltInt_dec]
        by_cases hia : i = at'
        · subst hia
          have hz := hfar.atz
          simp only [decide_true, cond_true, Int.le_refl]
          by_cases hb0 : b < 0
          · simp only [hb0, decide_true, cond_true]
            have := go _ _ (hbn.take hnn hmem (by omega) (.inl hb0))
            rw [hz] at this
            exact this
          · simp only [hb0, decide_false, cond_false]
            by_cases hfd : 0 < fd
            · simp only [hfd, decide_true, cond_true]
              have := go _ _ (hbn.take hnn hmem (by omega) (.inr (by omega)))
              rw [hz] at this
              exact this
            · simp only [hfd, decide_false, cond_false]
              exact go _ _ (hbn.skip fun _ => .inr ⟨by omega, by omega⟩)
        · have hia2 : ¬ ((i : Int) = (at' : Int)) := by omega
          have hg := far_fw hf hfar hat hi fw hia
          simp only [hia2, decide_false, cond_false, hg]
          by_cases hg0 : 0 ≤ far.getD i (-1)
          · simp only [hg0, decide_true, cond_true]
            by_cases hb0 : b < 0
            · simp only [hb0, decide_true, cond_true]
              exact go _ _ (hbn.take hnn hmem (by omega) (.inl hb0))
            · simp only [hb0, decide_false, cond_false]
              by_cases hfd : far.getD i (-1) < fd
              · simp only [hfd, decide_true, cond_true]
                exact go _ _ (hbn.take hnn hmem (by omega) (.inr (by omega)))
              · simp only [hfd, decide_false, cond_false]
                exact go _ _ (hbn.skip fun _ => .inr ⟨by omega, by omega⟩)
          · simp only [hg0, decide_false, cond_false]
            exact go _ _ (hbn.skip fun _ => .inl (by omega))
      · have hany2 : ((d.getD x []).any fun k => decide (k = (i : Int))) = false := by
          rw [← Bool.not_eq_true, hany]; exact hmem
        simp only [hany2, cond_false]
        have hgo := go _ _ (hbn.skip fun h => absurd h hmem)
        by_cases hia : i = at'
        · subst hia
          simp only [decide_true, cond_true]; exact hgo
        · have hia2 : ¬ ((i : Int) = (at' : Int)) := by omega
          simp only [hia2, decide_false, cond_false]; exact hgo
    · have : i = d.length := by omega
      subst this
      exact ⟨h, b, by simp [nat_i, hr.r.slen], Keep.refl _ _, hbn.best fun k hk => hf.inr x hx k hk⟩
theorem RingR.len {r r' : List Int} {x : Int} (h : RingR d far at' r x r') : r.length ≤ r'.length := by
  induction h with
  | stop _ => exact Nat.le_refl _
  | on _ _ _ _ ih => simp at ih; omega
theorem ring21 (hf : Fine d) (hN : 1000 ≤ N) (hat : at' < d.length) (hfar : Far d at' far) {r r' : List Int} {x : Int} (hrr : RingR d far at' r x r') : ∀ (M : Nat) (h : Heap) (rs : SL), r'.length ≤ d.length → r'.length - r.length < M → 0 ≤ x → x < d.length → RowsB B h s ss d → B ≤ h.next → Own1 B h rs (r.map (AV.int .i64)) →
    ∃ h' rs', f21_l1 N M s (at' : Int) rs x h = some (.exit 0, (rs', ()), h') ∧ Keep B h h' ∧ Own1 B h' rs' (List.map (AV.int .i64) r') := by
  induction hrr with
  | @stop r x hbest =>
    intro M h rs hl hm hx0 hx1 hr hb ho
    obtain ⟨M, rfl⟩ : ∃ m, M = m + 1 := ⟨M - 1, by omega⟩
    have hlen := hf.len
    rw [f21_l1_succ]
    unfold f21_l1_b
    have hrl : rs.len = r.length := by have := ho.len; simpa using this
    have hle : leInt (rs.len : Int) (d.length : Int) = true := by rw [hrl, leInt_dec]; simp only [decide_eq_true_eq]; omega
    obtain ⟨h1, b', e1, k1, hb1⟩ := best21 (N := N) (x := x.toNat) hf hN hat hfar (by omega) rs N 0 h (-1) 0 (by omega) (by omega) hr hb (.inl ⟨rfl, rfl, fun k hk hlt => by have := hf.inr x.toNat (by omega) k hk; omega⟩)
    rw [show ((x.toNat : Nat) : Int) = x by omega] at e1
    simp only [Int.ofNat_zero] at e1
    have hbe := hb1.uniq hbest
    subst hbe
    refine ⟨h1, rs, ?_, k1.mono hb, ho.but (Keep.but k1) (fun A _ => by simp)⟩
    simp only [hr.r.slen, Int.ofNat_eq_natCast, hle, cond_true, e1, bind3_some, eqInt_dec, decide_true]
  | @on r r' x y hbest hne hy0 hrr ih =>
    intro M h rs hl hm hx0 hx1 hr hb ho
    obtain ⟨M, rfl⟩ : ∃ m, M = m + 1 := ⟨M - 1, by omega⟩
    have hlen := hf.len
    rw [f21_l1_succ]
    unfold f21_l1_b
    have hrl : rs.len = r.length := by have := ho.len; simpa using this
    have hln := hrr.len
    simp only [List.length_append, List.length_singleton] at hln
    have hle : leInt (rs.len : Int) (d.length : Int) = true := by rw [hrl, leInt_dec]; simp only [decide_eq_true_eq]; omega
    obtain ⟨h1, b', e1, k1, hb1⟩ := best21 (N := N) (x := x.toNat) hf hN hat hfar (by omega) rs N 0 h (-1) 0 (by omega) (by omega) hr hb (.inl ⟨rfl, rfl, fun k hk hlt => by have := hf.inr x.toNat (by omega) k hk; omega⟩)
    rw [show ((x.toNat : Nat) : Int) = x by omega] at e1
    simp only [Int.ofNat_zero] at e1
    have hbe := hb1.uniq hbest
    subst hbe
    have hyin : b' < d.length := by
      rcases hbest with ⟨h, _⟩ | ⟨h, _⟩
      · omega
      · exact (hf.inr x.toNat (by omega) _ h).2
    have o1 : Own1 B h1 rs (r.map (AV.int .i64)) := ho.but (Keep.but k1) (fun A _ => by simp)
    have hnx := k1.next
    obtain ⟨rs', h2, e2, o2, b2, c2⟩ := append_own1 app26 (v := AV.int .i64 b') rfl o1 (by omega) (by simp; omega)
    have k2 : Keep B h1 h2 := b2.keep (by omega) (fun A hA => (o1.ge A hA).1)
    have hnx2 := k2.next
    obtain ⟨h3, rs3, e3, k3, o3⟩ := ih M h2 rs' hl (by simp; omega) hy0 hyin ((hr.keep (k1.mono hb)).keep k2) (by omega) (by rw [List.map_append]; exact o2)
    refine ⟨h3, rs3, ?_, (k1.mono hb).trans (k2.trans k3), o3⟩
    have hlt : ltInt b' 0 = false := by rw [ltInt_dec]; simp only [decide_eq_false_iff_not]; omega
    simp only [hr.r.slen, Int.ofNat_eq_natCast, hle, cond_true, e1, bind3_some, eqInt_dec, hne, decide_false, cond_false, hlt]
    rw [e2]
    simp only [bindT_some, cast_slice]
    exact e3
end Go.Proofs.Ythpplekbeecdfaa.Gb

open Go Go.Proofs.Ythpplekbeecdfaa.Ai Go.Proofs
namespace Go.Proofs.Ythpplekbeecdfaa.Gb
variable {N : Nat} {s : SL} {ss : List SL} {ll : List (List Int)} {B : Nat} {h0 : Heap}
/-- a row, its numbers taken into the range -/
theorem raw_row (hr : RowsB B h0 s ss ll) {i : Nat} (hi : i < ll.length) (hi70 : i < 70) (hl : (ll.getD i []).length ≤ 70) (hb0 : B ≤ h0.next) (v4 v5 : _) (v6 : SL) : ∀ (M k : Nat) (h : Heap) (rv : SL), k ≤ (ll.getD i []).length → (ll.getD i []).length - k < M → Keep B h0 h → Own1 B h rv (((ll.getD i []).take k).map (AV.int .i64)) →
    ∃ rv' h', f10_l2 N M s true v4 v5 v6 (i : Int) rv (k : Int) h = some (.exit 2, (s, true, v4, v5, v6, (i : Int), rv', ()), h') ∧ Keep B h0 h' ∧ Own1 B h' rv' ((ll.getD i []).map (AV.int .i64)) ∧ But rv.blk h h' ∧ (rv'.blk = rv.blk ∨ ∃ A, rv'.blk = some A ∧ h.next ≤ A) := by
  intro M
  induction M with
  | zero => intro k h rv h1 h2; omega
  | succ M ih =>
    intro k h rv h1 h2 hk ho
    rw [f10_l2_succ]
    unfold f10_l2_b
    have hrk := hr.keep hk
    have hrow := hrk.r.row i hi
    have hnx := hk.next
    simp only [hrk.r.slen]
    have ht := hrk.r.top.sl (β := Out × (SL × Bool × SL × Bool × SL × Int × SL × Unit) × Heap) (x := (i : Int)) (by omega) (by rw [hrk.r.len]; omega)
    rw [hrk.r.slen] at ht
    rw [ht]
    simp only [Int.toNat_natCast, Ints.len hrow]
    by_cases hkl : k < (ll.getD i []).length
    · have ew : wrapA .i64 ((k : Int) + 1) = ((k + 1 : Nat) : Int) := wrapA_small (by omega) (by omega)
      have hg : (ll.getD i []).getD k 0 = (ll.getD i [])[k] := getD_lt _ _ hkl
      have htk : (ll.getD i []).take (k + 1) = (ll.getD i []).take k ++ [(ll.getD i [])[k]] := List.take_succ_eq_append_getElem hkl
      obtain ⟨rv1, h2', e2, o2, b2, c2⟩ := append_own1 app26 (v := AV.int .i64 (ll.getD i [])[k]) rfl ho (by omega) (by simp; omega)
      have k2 : Keep B h h2' := b2.keep (by omega) (fun A hA => (ho.ge A hA).1)
      obtain ⟨rv', h', e3, k3, o3, b3, c3⟩ := ih (k + 1) h2' rv1 (by omega) (by omega) (hk.trans k2) (by rw [htk, List.map_append]; exact o2)
      refine ⟨rv', h', ?_, k3, o3, b2.step c2 b3, ?_⟩
      · rw [ht]
        simp only [ltInt_dec, Int.ofNat_eq_natCast, Int.ofNat_lt, hkl, decide_true, cond_true, Int.toNat_natCast]
        have hi2 := hrow.int (β := Out × (SL × Bool × SL × Bool × SL × Int × SL × Unit) × Heap) (x := (k : Int)) (by omega) (by omega)
        rw [Ints.len hrow] at hi2 ⊢
        rw [hi2]
        simp only [Int.toNat_natCast, hg, Bool.not_true, cond_false]
        rw [e2]
        simp only [bindT_some, cast_slice, ew]
        exact e3
      · rcases c3 with c3 | ⟨A, c3, c4⟩
        · rw [c3]; exact c2
        · exact .inr ⟨A, c3, by have := b2.next; omega⟩
    · have : k = (ll.getD i []).length := by omega
      subst this
      rw [List.take_length] at ho
      refine ⟨rv, h, ?_, hk, ho, But.refl _ _, .inl rfl⟩
      simp [ltInt_dec]

def rawL (ll : List (List Int)) (k : Nat) : List (List Int) := ll.take k
theorem rawL_succ {k : Nat} (hk : k < ll.length) : rawL ll (k + 1) = rawL ll k ++ [ll.getD k []] := by
  unfold rawL
  rw [List.take_succ_eq_append_getElem hk, getD_lt _ _ hk]
theorem rawL_len {k : Nat} (hk : k ≤ ll.length) : (rawL ll k).length = k := by simp [rawL]; omega
theorem raw_loop (hr : RowsB B h0 s ss ll) (hN : 1000 ≤ N) (hb0 : B ≤ h0.next) (v4 : SL) (v5 : Bool) : ∀ (M k : Nat) (h : Heap) (ov : SL) (ss' : List SL), k ≤ ll.length → k ≤ 70 → 70 - k < M → (∀ i, i < k → (ll.getD i []).length ≤ 70) → Fst B h0 h ov ss' (rawL ll k) →
    (∃ ov' h' ss', f10_l1 N M s true v4 v5 ov (k : Int) h = some (.exit 0, (v4, v5, ov', ()), h') ∧ Fst B h0 h' ov' ss' (rawL ll (mOf ll)) ∧ ∀ i, i < mOf ll → (ll.getD i []).length ≤ 70) ∨
    (∃ ov' h', f10_l1 N M s true v4 v5 ov (k : Int) h = some (.ret, (nilS, false, ov', ()), h') ∧ ∃ i, i < ll.length ∧ 70 < (ll.getD i []).length) := by
  intro M
  induction M with
  | zero => intro k h ov ss' h1 h2 h3; omega
  | succ M ih =>
    intro k h ov ss' h1 h2 h3 h4 hf
    rw [f10_l1_succ]
    unfold f10_l1_b
    have hrk := hr.keep hf.k
    have hnx := hf.k.next
    by_cases hkl : k < ll.length ∧ k < 70
    · obtain ⟨hkl, hk70⟩ := hkl
      have hrow := hrk.r.row k hkl
      have ht := hrk.r.top.sl (β := Out × (SL × Bool × SL × Unit) × Heap) (x := (k : Int)) (by omega) (by rw [hrk.r.len]; omega)
      have ew : wrapA .i64 ((k : Int) + 1) = ((k + 1 : Nat) : Int) := wrapA_small (by omega) (by omega)
      simp only [hrk.r.slen] at ht ⊢
      simp only [ltInt_dec, Int.ofNat_eq_natCast, Int.ofNat_lt, hkl, show (k : Int) < 70 by omega, decide_true, cond_true]
      rw [ht]
      simp only [Int.toNat_natCast, Ints.len hrow]
      by_cases hl : (ll.getD k []).length ≤ 70
      · simp only [show ¬ (70 : Int) < ((ll.getD k []).length : Int) by omega, decide_false, cond_false]
        obtain ⟨rv, h', e1, k1, o1, b1, c1⟩ := raw_row (N := N) hr hkl hk70 hl hb0 v4 v5 ov N 0 h nilS (by omega) (by omega) hf.k (by simpa using Own1.nil B h 0)
        simp only [Int.ofNat_zero] at e1
        have ov1 : Own1 B h' ov (ss'.map SL.av) := hf.o.but b1 (fun A hA => by simp [SL.blk])
        have hsl := hf.o.len
        rw [List.length_map, hf.len, rawL_len (by omega)] at hsl
        have hs'l : ss'.length = k := by rw [hf.len, rawL_len (by omega)]
        have hnx1 := b1.next
        obtain ⟨ov', h2', e2, o2, b2, c2⟩ := append_own1 app22 (v := SL.av rv) rfl ov1 (by omega) (by rw [List.length_map]; omega)
        have k2 : Keep B h' h2' := b2.keep (by omega) (fun A hA => (ov1.ge A hA).1)
        have hrvn : ∀ A, rv.blk = some A → h.next ≤ A := by
          intro A hA
          rcases c1 with c1 | ⟨A', c1, c3⟩
          · rw [c1] at hA; simp [SL.blk] at hA
          · rw [c1] at hA; cases hA; exact c3
        have hf' : Fst B h0 h2' ov' (ss' ++ [rv]) (rawL ll (k + 1)) := by
          refine ⟨k1.trans k2, by rw [List.map_append]; exact o2, by simp [hs'l, rawL_len (show k + 1 ≤ ll.length by omega)], fun i hi => ?_⟩
          rw [rawL_len (by omega)] at hi
          rw [rawL_succ hkl]
          by_cases hik : i < k
          · rw [getD_append_l _ _ _ (by omega), getD_append_l _ _ _ (by rw [rawL_len (by omega)]; omega)]
            obtain ⟨q1, q2⟩ := hf.row i (by rw [rawL_len (by omega)]; omega)
            have q3 := q1.but b1 (fun A hA => by simp [SL.blk])
            refine ⟨q3.but b2 q2, fun A hA e => ?_⟩
            rcases c2 with c2 | ⟨A', c2, c3⟩
            · exact q2 A hA (c2 ▸ e)
            · rw [c2] at e; cases e
              have := (q3.ge A hA).2; omega
          · have : i = k := by omega
            subst this
            rw [getD_append_r _ _ _ hs'l.symm, getD_append_r _ _ _ (by rw [rawL_len (by omega)])]
            have hne : ∀ A, rv.blk = some A → ov.blk ≠ some A := by
              intro A hA e
              have h5 := hrvn A hA
              have h6 := (hf.o.ge A e).2
              omega
            refine ⟨o1.but b2 hne, fun A hA e => ?_⟩
            rcases c2 with c2 | ⟨A', c2, c3⟩
            · exact hne A hA (c2 ▸ e)
            · rw [c2] at e; cases e
              have := (o1.ge A hA).2; omega
        have e1' : f10_l2 N N s true v4 v5 ov (k : Int) ⟨none, 0, 0, 0⟩ 0 h = some (.exit 2, (s, true, v4, v5, ov, (k : Int), rv, ()), h') := e1
        rw [e1']
        simp only [bind3_some]
        have e2' : appendA E 22 22 (.slice ov.a ov.len ov.cap ov.sz) (.slice (some (h'.next, 0)) 1 1 1) (h'.push (.row [.slice rv.a rv.len rv.cap rv.sz] .own)) = some (.slice ov'.a ov'.len ov'.cap ov'.sz, h2') := e2
        rw [e2']
        simp only [bindT_some, cast_slice, ew]
        exact ih (k + 1) h2' ov' (ss' ++ [rv]) (by omega) (by omega) (by omega) (fun i hi => by
          by_cases hik : i < k
          · exact h4 i hik
          · have : i = k := by omega
            subst this; exact hl) hf'
      · simp only [show (70 : Int) < ((ll.getD k []).length : Int) by omega, decide_true, cond_true]
        exact .inr ⟨ov, h, rfl, k, hkl, by omega⟩
    · have hk : k = mOf ll := by unfold mOf; omega
      left
      refine ⟨ov, h, ss', ?_, hk ▸ hf, fun i hi => h4 i (by omega)⟩
      simp only [hrk.r.slen, ltInt_dec, Int.ofNat_eq_natCast, Int.ofNat_lt]
      by_cases hkl' : k < ll.length
      · have : ¬ (k : Int) < 70 := by omega
        simp [hkl', this]
      · simp [hkl']
/-- needs, taken into the range -/
theorem raw_spec {h : Heap} (hr : RowsB h.next h s ss ll) (hN : 1000 ≤ N) :
    (∃ s' h' ss', f10 N s true h = some ((s', true, ()), h') ∧ Keep h.next h h' ∧ RowsB h'.next h' s' ss' (rawL ll (mOf ll)) ∧ ∀ i, i < mOf ll → (ll.getD i []).length ≤ 70) ∨
    (∃ s' h', f10 N s true h = some ((s', false, ()), h') ∧ ∃ i, i < ll.length ∧ 70 < (ll.getD i []).length) := by
  rcases raw_loop (N := N) hr hN (Nat.le_refl _) nilS false N 0 h nilS [] (by omega) (by omega) (by omega) (fun i hi => by omega) ⟨Keep.refl _ _, Own1.nil _ _ _, by simp [rawL], fun i hi => by simp [rawL] at hi⟩ with ⟨ov, h', ss', e, hf, hl⟩ | ⟨ov, h', e, hbig⟩
  · left
    simp only [Int.ofNat_zero] at e
    have e' : f10_l1 N N s true ⟨none, 0, 0, 0⟩ false ⟨none, 0, 0, 0⟩ 0 h = some (.exit 0, (⟨none, 0, 0, 0⟩, false, ov, ()), h') := e
    refine ⟨ov, h', ss', by unfold f10; rw [e']; simp, hf.k, ⟨⟨hf.o.one, hf.len, fun i hi => (hf.row i hi).1.one⟩, ?_, fun i hi => ?_⟩, hl⟩
    · exact hf.o.one.2.2.under
    · exact (hf.row i hi).1.one.2.2.under
  · right
    simp only [Int.ofNat_zero] at e
    have e' : f10_l1 N N s true ⟨none, 0, 0, 0⟩ false ⟨none, 0, 0, 0⟩ 0 h = some (.ret, (⟨none, 0, 0, 0⟩, false, ov, ()), h') := e
    exact ⟨⟨none, 0, 0, 0⟩, h', by unfold f10; rw [e']; simp, hbig⟩
end Go.Proofs.Ythpplekbeecdfaa.Gb
