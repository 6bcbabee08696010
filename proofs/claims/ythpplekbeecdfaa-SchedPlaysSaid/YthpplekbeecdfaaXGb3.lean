import Derived.Test.YthpplekbeecdfaaXGb2
/- Functions of the program as plain functions, and what they come to; part 3. -/
set_option linter.unusedVariables false
set_option linter.unusedSimpArgs false
open Go Go.Proofs.Ythpplekbeecdfaa.Ai Go.Proofs
namespace Go.Proofs.Ythpplekbeecdfaa.Gb
variable {N : Nat} {s : SL} {ss : List SL} {ll : List (List Int)} {B : Nat} {h0 : Heap}
/-! both, one behind the other -/
/-- what is told: code and place -/
def Tld (h : Heap) (v : AV) (c k : Int) : Prop := (v = .nilIface ∧ c = 0 ∧ k = 0) ∨ isErr h v c k
theorem Tld.keep {h h' : Heap} (hk : Keep h.next h h') {v : AV} {c k : Int} (hx : Tld h v c k) : Tld h' v c k := by
  rcases hx with hx | hx
  · exact .inl hx
  · exact .inr (hx.keep hk)
theorem Tld.is (hN : 1 ≤ N) {h : Heap} {v : AV} {c k : Int} (hx : Tld h v c k) : f19 N v c k h = some (true, h) := by
  have e : f23 N v h = some ((c, k, ()), h) := by
    rcases hx with ⟨rfl, rfl, rfl⟩ | hx
    · exact told_nil h
    · exact told_err hN hx
  unfold f19
  simp only [e, bind2_some, eqInt_dec, decide_true, cond_true]
theorem badOf_ne {c : Int} {j : Nat} (h : badOf ll = some (c, j)) : c ≠ 0 ∧ c ≠ 42 := by
  unfold badOf at h
  split at h
  · cases h; omega
  · split at h
    · cases h; omega
    · split at h
      · cases h; omega
      · cases h
theorem errH_keep (h : Heap) (c a : Int) : Keep h.next h (errH h c a) := (Keep.refl _ _).push (Nat.le_refl _) _
theorem Order_both {h : Heap} (hN : 1000 ≤ N) (hr : RowsB h.next h s ss ll) :
    ∃ s1 v h1 l c k, f14 N s h = some ((s1, v, ()), h1) ∧ Keep h.next h h1 ∧ Ints h1 s1 l ∧ s1.under h1.next ∧ Tld h1 v c k ∧ l.length ≤ 64 ∧
    ∃ s2 h2, f15 N s h1 = some ((s2, c, k, ()), h2) ∧ Keep h1.next h1 h2 ∧ Ints h2 s2 l ∧ s2.under h2.next := by
  cases hbad : badOf ll with
  | none =>
    have hf := badOf_none.1 hbad
    rcases Order_specF hf hN hr (Nat.le_refl _) with ⟨s1, h1, l, e1, k1, o1, ha, hw, hl⟩ | ⟨h1, v, j, e1, k1, he, hj, hj2, hj3⟩
    · have hr1 := (hr.keep k1).mono k1.next
      have hlen := hf.len
      have hwl := hw.len
      rcases rOrder_specF hf hN hr1 (Nat.le_refl _) with ⟨s2, h2, l2, e2, k2, o2, ha2, hw2, hl2⟩ | ⟨h2, j, e2, k2, hj, hj2, hj3⟩
      · rw [hl2, ← hl] at o2
        exact ⟨s1, _, h1, l, 0, 0, e1, k1, o1.one, o1.one.2.2.under, .inl ⟨rfl, rfl, rfl⟩, by omega, s2, h2, e2, k2, o2.one, o2.one.2.2.under⟩
      · exact absurd hj2 (ha _)
    · have hr1 := (hr.keep k1).mono k1.next
      rcases rOrder_specF hf hN hr1 (Nat.le_refl _) with ⟨s2, h2, l2, e2, k2, o2, ha2, hw2, hl2⟩ | ⟨h2, j2, e2, k2, hi, hi2, hi3⟩
      · exact absurd hj2 (ha2 _)
      · have : j2 = j := by
          rcases Nat.lt_trichotomy j j2 with h | h | h
          · exact absurd hj2 (hi3 j h)
          · exact h.symm
          · exact absurd hi2 (hj3 j2 h)
        subst this
        exact ⟨nilS, v, h1, [], 42, (j2 : Int), e1, k1, One.nil _, (One.nil h1).2.2.under, .inr he, by simp, nilS, h2, e2, k2, One.nil _, (One.nil h2).2.2.under⟩
  | some p =>
    obtain ⟨c, j⟩ := p
    have k1 := errH_keep h c j
    have hr1 := (hr.keep k1).mono k1.next
    exact ⟨nilS, _, _, [], c, (j : Int), Order_bad hN hr.r hbad, k1, One.nil _, (One.nil (errH h c j)).2.2.under, .inr (isErr_of h c j), by simp, nilS, _, rOrder_bad hN hr1.r hbad (badOf_ne hbad).1, Keep.refl _ _, One.nil _, (One.nil (errH h c j)).2.2.under⟩
theorem Levels_both {h : Heap} (hN : 1000 ≤ N) (hr : RowsB h.next h s ss ll) :
    ∃ s1 v h1 l c k, f16 N s h = some ((s1, v, ()), h1) ∧ Keep h.next h h1 ∧ Ints h1 s1 l ∧ s1.under h1.next ∧ Tld h1 v c k ∧ l.length ≤ 64 ∧
    ∃ s2 h2, f17 N s h1 = some ((s2, c, k, ()), h2) ∧ Keep h1.next h1 h2 ∧ Ints h2 s2 l ∧ s2.under h2.next := by
  cases hbad : badOf ll with
  | none =>
    have hf := badOf_none.1 hbad
    rcases Levels_spec hf hN hr (Nat.le_refl _) with ⟨s1, h1, l, e1, k1, o1, ha, hl⟩ | ⟨h1, v, j, e1, k1, he, hj, hj2, hj3⟩
    · have hr1 := (hr.keep k1).mono k1.next
      have hlen := hf.len
      have hwl := hl.len
      rcases rLevels_spec hf hN hr1 (Nat.le_refl _) with ⟨s2, h2, l2, e2, k2, o2, ha2, hl2⟩ | ⟨h2, j, e2, k2, hj, hj2, hj3⟩
      · rw [Levels.uniq hf ha hl2 hl] at o2
        exact ⟨s1, _, h1, l, 0, 0, e1, k1, o1.one, o1.one.2.2.under, .inl ⟨rfl, rfl, rfl⟩, by omega, s2, h2, e2, k2, o2.one, o2.one.2.2.under⟩
      · exact absurd hj2 (ha _)
    · have hr1 := (hr.keep k1).mono k1.next
      rcases rLevels_spec hf hN hr1 (Nat.le_refl _) with ⟨s2, h2, l2, e2, k2, o2, ha2, hl2⟩ | ⟨h2, j2, e2, k2, hi, hi2, hi3⟩
      · exact absurd hj2 (ha2 _)
      · have : j2 = j := by
          rcases Nat.lt_trichotomy j j2 with h | h | h
          · exact absurd hj2 (hi3 j h)
          · exact h.symm
          · exact absurd hi2 (hj3 j2 h)
        subst this
        exact ⟨nilS, v, h1, [], 42, (j2 : Int), e1, k1, One.nil _, (One.nil h1).2.2.under, .inr he, by simp, nilS, h2, e2, k2, One.nil _, (One.nil h2).2.2.under⟩
  | some p =>
    obtain ⟨c, j⟩ := p
    have k1 := errH_keep h c j
    have hr1 := (hr.keep k1).mono k1.next
    have hne := (badOf_ne hbad).1
    have e0 : eqInt c 0 = false := by rw [eqInt_dec]; simp only [decide_eq_false_iff_not]; exact hne
    have e1 : f16 N s h = some ((nilS, errV h, ()), errH h c j) := by
      unfold f16
      simp only [Order_bad hN hr.r hbad, bind2_some, errV, nn16e, bindV_some, cast_bool, cond_true]
    have e2 : f17 N s (errH h c j) = some ((nilS, c, (j : Int), ()), errH h c j) := by
      unfold f17
      simp only [rOrder_bad hN hr1.r hbad hne, bind2_some, e0, Bool.not_false, cond_true]
    exact ⟨nilS, _, _, [], c, (j : Int), e1, k1, One.nil _, (One.nil (errH h c j)).2.2.under, .inr (isErr_of h c j), by simp, nilS, _, e2, Keep.refl _ _, One.nil _, (One.nil (errH h c j)).2.2.under⟩
theorem nn11e (v : AV) : binA E .neq 32 (.tmp 11) (.const .nilIface) (.iface 69 v) AV.nilIface = some (.bool true) := by kernel_rfl
theorem nn9e (v : AV) : binA E .neq 32 (.tmp 9) (.const .nilIface) (.iface 69 v) AV.nilIface = some (.bool true) := by kernel_rfl
theorem e42 : eqInt 42 42 = true := rfl
theorem e042 : eqInt 0 42 = false := rfl
theorem Ring_both {h : Heap} (hN : 1000 ≤ N) (hr : RowsB h.next h s ss ll) :
    ∃ s1 h1 l, f20 N s h = some (s1, h1) ∧ Keep h.next h h1 ∧ Ints h1 s1 l ∧ s1.under h1.next ∧ l.length ≤ 64 ∧
    ∃ s2 h2, f21 N s h1 = some (s2, h2) ∧ Keep h1.next h1 h2 ∧ Ints h2 s2 l := by
  cases hbad : badOf ll with
  | none =>
    have hf := badOf_none.1 hbad
    have hlen := hf.len
    rcases Ring_specF hf hN hr with ⟨h1, e1, k1, ha⟩ | ⟨h1, s1, l, j, e1, k1, o1, hj, hj2, hj3, hrg, far, hfar, hrr⟩
    · have hr1 := (hr.keep k1).mono k1.next
      rcases rOrder_specF hf hN hr1 (Nat.le_refl _) with ⟨s2, h2, l2, e2, k2, o2, ha2, hw2, hl2⟩ | ⟨h2, j, e2, k2, hj, hj2, hj3⟩
      · refine ⟨nilS, h1, [], e1, k1, One.nil _, (One.nil h1).2.2.under, by simp, nilS, h2, ?_, k2, One.nil _⟩
        unfold f21
        simp only [e2, bind2_some, e042, Bool.not_false, cond_true]
      · exact absurd hj2 (ha _)
    · have hr1 := (hr.keep k1).mono k1.next
      have hrl := hrg.len
      rcases rOrder_specF hf hN hr1 (Nat.le_refl _) with ⟨s2, h2, l2, e2, k2, o2, ha2, hw2, hl2⟩ | ⟨h2, j2, e2, k2, hi, hi2, hi3⟩
      · exact absurd hj2 (ha2 _)
      · have : j2 = j := by
          rcases Nat.lt_trichotomy j j2 with h | h | h
          · exact absurd hj2 (hi3 j h)
          · exact h.symm
          · exact absurd hi2 (hj3 j2 h)
        subst this
        have hr2 := (hr1.keep k2).mono k2.next
        generalize hH : h2.push (.row [.int .i64 (j2 : Int)] .own) = H
        have kb : Keep h2.next h2 H := by rw [← hH]; exact (Keep.refl _ _).push (Nat.le_refl _) _
        have hHn : H.next = h2.next + 1 := by rw [← hH]; rfl
        obtain ⟨h3, s3, e3, k3, o3⟩ := ring21 (N := N) (B := h2.next) (s := s) (ss := ss) hf hN hj hfar hrr N H ⟨some (h2.next, 0), 1, 1, 1⟩ hrl (by omega) (by omega) (by omega) (hr2.keep kb) (by omega) (.inr ⟨h2.next, [.int .i64 j2], .own, rfl, rfl, Nat.le_refl _, by omega, by rw [← hH]; exact g_push_eq _ rfl, rfl, by simp, by simp, by simp, .inr ⟨rfl, rfl⟩⟩)
        have hn2 := k2.next
        refine ⟨s1, h1, l, e1, k1, o1.one, o1.one.2.2.under, by omega, s3, h3, ?_, k2.trans ((kb.trans k3).mono hn2), o3.one⟩
        unfold f21
        simp only [e2, bind2_some, e42, Bool.not_true, cond_false, hH, e3, bind3_some]
  | some p =>
    obtain ⟨c, j⟩ := p
    have k1 := errH_keep h c j
    have hr1 := (hr.keep k1).mono k1.next
    have hne := badOf_ne hbad
    have e0 : eqInt c 42 = false := by rw [eqInt_dec]; simp only [decide_eq_false_iff_not]; exact hne.2
    have hm := may_any (N := N) hr.r (by omega)
    simp only [hbad] at hm
    have e1 : f20 N s h = some (nilS, errH h c j) := by
      unfold f20
      simp only [hm, bind2_some, errV, nn11e, bindV_some, cast_bool, cond_true]
    have e2 : f21 N s (errH h c j) = some (nilS, errH h c j) := by
      unfold f21
      simp only [rOrder_bad hN hr1.r hbad hne.1, bind2_some, e0, Bool.not_false, cond_true]
    exact ⟨nilS, _, [], e1, k1, One.nil _, (One.nil (errH h c j)).2.2.under, by simp, nilS, _, e2, Keep.refl _ _, One.nil _⟩
theorem Below_both {h : Heap} (hN : 1000 ≤ N) (hr : RowsB h.next h s ss ll) (i : Int) :
    ∃ s1 h1 l, f12 N s i h = some (s1, h1) ∧ Keep h.next h h1 ∧ Ints h1 s1 l ∧ s1.under h1.next ∧ l.length ≤ 64 ∧
    ∃ s2 h2, f22 N s i h1 = some (s2, h2) ∧ Keep h1.next h1 h2 ∧ Ints h2 s2 l := by
  have hm := may_any (N := N) hr.r (by omega)
  cases hbad : badOf ll with
  | none =>
    have hf := badOf_none.1 hbad
    have hlen := hf.len
    have hbd := bad_spec (N := N) hr.r (by omega)
    simp only [hbad] at hm hbd
    have z0 : eqInt 0 0 = true := rfl
    by_cases hi0 : 0 ≤ i
    · by_cases hi1 : i < ll.length
      · obtain ⟨s1, h1, l, e1, k1, o1, hll, hso, hmem⟩ := Below_spec (N := N) hr hf hN hi0 hi1
        have hr1 := (hr.keep k1).mono k1.next
        obtain ⟨s2, h2, o, e2, k2, o2, hmem2⟩ := rBelow_spec (N := N) hr1 hf hN hi0 hi1
        have heq : l = belowL (o.map fun x => decide (0 < x)) ll.length := sorted_eq hso (belowL_sorted _ _) fun x => by rw [hmem, hmem2]
        rw [← heq] at o2
        exact ⟨s1, h1, l, e1, k1, o1.one, o1.one.2.2.under, hll, s2, h2, e2, k2, o2.one⟩
      · have l1 : ltInt i 0 = false := by rw [ltInt_dec]; simp only [decide_eq_false_iff_not]; omega
        have l2 : leInt (ll.length : Int) i = true := by rw [leInt_dec]; simp only [decide_eq_true_eq]; omega
        refine ⟨nilS, h, [], ?_, Keep.refl _ _, One.nil _, (One.nil h).2.2.under, by simp, nilS, h, ?_, Keep.refl _ _, One.nil _⟩
        · unfold f12; simp only [hm, bind2_some, nn9, bindV_some, cast_bool, cond_false, l1, hr.r.slen, Int.ofNat_eq_natCast, l2, cond_true]
        · unfold f22; simp only [hbd, bind2_some, z0, Bool.not_true, cond_false, l1, hr.r.slen, Int.ofNat_eq_natCast, l2, cond_true]
    · have l1 : ltInt i 0 = true := by rw [ltInt_dec]; simp only [decide_eq_true_eq]; omega
      refine ⟨nilS, h, [], ?_, Keep.refl _ _, One.nil _, (One.nil h).2.2.under, by simp, nilS, h, ?_, Keep.refl _ _, One.nil _⟩
      · unfold f12; simp only [hm, bind2_some, nn9, bindV_some, cast_bool, cond_false, l1, cond_true]
      · unfold f22; simp only [hbd, bind2_some, z0, Bool.not_true, cond_false, l1, cond_true]
  | some p =>
    obtain ⟨c, j⟩ := p
    have k1 := errH_keep h c j
    have hr1 := (hr.keep k1).mono k1.next
    have hne := (badOf_ne hbad).1
    have hbd := bad_spec (N := N) hr1.r (by omega)
    simp only [hbad] at hm hbd
    have e0 : eqInt c 0 = false := by rw [eqInt_dec]; simp only [decide_eq_false_iff_not]; exact hne
    refine ⟨nilS, _, [], ?_, k1, One.nil _, (One.nil (errH h c j)).2.2.under, by simp, nilS, _, ?_, Keep.refl _ _, One.nil _⟩
    · unfold f12; simp only [hm, bind2_some, errV, nn9e, bindV_some, cast_bool, cond_true]
    · unfold f22; simp only [hbd, bind2_some, e0, Bool.not_false, cond_true]
end Go.Proofs.Ythpplekbeecdfaa.Gb

open Go Go.Proofs.Ythpplekbeecdfaa.Ai Go.Proofs
namespace Go.Proofs.Ythpplekbeecdfaa.Gb
variable {N : Nat} {s : SL} {ss : List SL} {ll : List (List Int)} {B : Nat} {h0 : Heap}
theorem rows_same {h : Heap} {s7 s9 : SL} {ss7 ss9 : List SL} (h7 : Rows h s7 ss7 ll) (h9 : Rows h s9 ss9 ll) (hN : 1001 ≤ N) (hl : ll.length ≤ 70) (hrow : ∀ i, i < ll.length → (ll.getD i []).length ≤ 70) (v2 : Int) (v6 : Bool) : ∀ (M i : Nat), i ≤ ll.length → ll.length - i < M →
    f4_l1 N M v2 v6 s7 s9 (i : Int) h = some (.exit 0, (v2, v6, s7, ()), h) := by
  intro M
  induction M with
  | zero => intro i h1 h2; omega
  | succ M ih =>
    intro i h1 h2
    rw [f4_l1_succ]
    unfold f4_l1_b
    by_cases hi : i < ll.length
    · have ew : wrapA .i64 ((i : Int) + 1) = ((i + 1 : Nat) : Int) := wrapA_small (by omega) (by omega)
      have r7 : ∀ {β : Type} (K : SL → Option β), (ixK s7.a s7.len (i : Int) 1 fun q => bindV (.val (.one .slice)) (h.cell q) K) = K (ss7.getD i nilS) := fun K => by
        rw [h7.top.sl (x := (i : Int)) (by omega) (by rw [h7.len]; omega)]; simp only [Int.toNat_natCast]
      have r9 : ∀ {β : Type} (K : SL → Option β), (ixK s9.a s9.len (i : Int) 1 fun q => bindV (.val (.one .slice)) (h.cell q) K) = K (ss9.getD i nilS) := fun K => by
        rw [h9.top.sl (x := (i : Int)) (by omega) (by rw [h9.len]; omega)]; simp only [Int.toNat_natCast]
      have hlt : ltInt (i : Int) (s7.len : Int) = true := by rw [h7.slen, ltInt_dec]; simp only [decide_eq_true_eq]; omega
      have hrl := hrow i hi
      have e := same_spec (N := N) (h7.row i hi) (h9.row i hi) hN (by omega)
      simp only [decide_true] at e
      simp only [Int.ofNat_eq_natCast, hlt, cond_true, r7, r9, e, bind2_some, Bool.not_true, cond_false, ew]
      exact ih (i + 1) (by omega) (by omega)
    · have : i = ll.length := by omega
      subst this
      simp [nat_i, h7.slen]
theorem fit_any {h : Heap} (hr : RowsB h.next h s ss ll) (hN : 1000 ≤ N) (raw : Bool) :
    (∃ s' h' ss' dd, f10 N s raw h = some ((s', true, ()), h') ∧ RowsB h'.next h' s' ss' dd ∧ dd.length ≤ 70 ∧ ∀ i, i < dd.length → (dd.getD i []).length ≤ 70) ∨
    (∃ s' h', f10 N s raw h = some ((s', false, ()), h')) := by
  cases raw with
  | true =>
    rcases raw_spec (N := N) hr hN with ⟨s', h', ss', e, _, r, hl⟩ | ⟨s', h', e, _⟩
    · left
      have hm : mOf ll ≤ ll.length := by unfold mOf; omega
      have hm7 : mOf ll ≤ 70 := by unfold mOf; omega
      have hlen : (rawL ll (mOf ll)).length = mOf ll := rawL_len hm
      refine ⟨s', h', ss', _, e, r, by omega, fun i hi => ?_⟩
      rw [hlen] at hi
      have : (rawL ll (mOf ll)).getD i [] = ll.getD i [] := by
        unfold rawL
        rw [List.getD_eq_getElem?_getD, List.getElem?_take_of_lt hi, ← List.getD_eq_getElem?_getD]
      rw [this]; exact hl i hi
    · exact .inr ⟨s', h', e⟩
  | false =>
    rcases fit_spec (N := N) hr hN with ⟨s', h', ss', e, _, r, hl⟩ | ⟨s', h', e⟩
    · left
      have hm : mOf ll ≤ ll.length := by unfold mOf; omega
      have hm7 : mOf ll ≤ 70 := by unfold mOf; omega
      have hlen : (fitL ll (mOf ll)).length = mOf ll := fitL_len hm
      refine ⟨s', h', ss', _, e, r, by omega, fun i hi => ?_⟩
      rw [hlen] at hi
      have : ((fitL ll (mOf ll)).getD i []).length = (ll.getD i []).length := by
        unfold fitL
        rw [getD_lt _ _ (by rw [List.length_map, List.length_take]; omega), getD_lt _ _ (by omega)]
        simp
      rw [this]; exact hl i hi
    · exact .inr ⟨s', h', e⟩
theorem Ints.keepN {h h' : Heap} {l : List Int} (hk : Keep h.next h h') (hu : s.under h.next) (hi : Ints h s l) : Ints h' s l := One.keep hk hu hi
theorem orders_law {h : Heap} (hr : RowsB h.next h s ss ll) (raw : Bool) (i : Int) : ∃ h', f4 2000000 s raw i h = some (true, h') := by
  rcases fit_any (N := 2000000) hr (by omega) raw with ⟨s1, h1, ss1, dd, e1, r1, hl, hrow⟩ | ⟨s1, h1, e1⟩
  · rcases raw_spec (N := 2000000) r1 (by omega) with ⟨s2, h2, ss2, e2, k2, r2, _⟩ | ⟨_, _, _, i, hi, hbig⟩
    · have hm : mOf dd = dd.length := by unfold mOf; omega
      have hraw : rawL dd (mOf dd) = dd := by rw [hm]; exact List.take_length
      rw [hraw] at r2
      have q2 := (r1.keep k2).mono k2.next
      obtain ⟨sa, va, h3, la, ca, pa, e3, k3, i3, u3, t3, l3, sb, h4, e4, k4, i4, u4⟩ := Order_both (N := 2000000) (by omega) q2
      have q3 := (q2.keep k3).mono k3.next
      have q4 := (q3.keep k4).mono k4.next
      obtain ⟨sx, vx, h5, lx, cx, px, e5, k5, i5, u5, t5, l5, sy, h6, e6, k6, i6, u6⟩ := Levels_both (N := 2000000) (by omega) q4
      have q5 := (q4.keep k5).mono k5.next
      have q6 := (q5.keep k6).mono k6.next
      have k46 := k5.trans (k6.mono k5.next)
      have k36 := k4.trans (k46.mono k4.next)
      have s18 := same_spec (N := 2000000) (Ints.keepN k36 u3 i3) (Ints.keepN k46 u4 i4) (by omega) (by omega)
      have s19 := (t3.keep k36).is (N := 2000000) (by omega)
      have s20 := same_spec (N := 2000000) (Ints.keepN k6 u5 i5) i6 (by omega) (by omega)
      have s21 := (t5.keep k6).is (N := 2000000) (by omega)
      have k23 := k3
      have w6 : Rows h6 s2 ss2 dd := ((((r2.keep k3).mono k3.next).keep k36)).r
      have s22 := rows_same (N := 2000000) q6.r w6 (by omega) hl hrow i false 2000000 0 (by omega) (by omega)
      obtain ⟨sr, h7, lr, e7, k7, i7, u7, l7, sq, h8, e8, k8, i8⟩ := Ring_both (N := 2000000) (by omega) q6
      have q7 := (q6.keep k7).mono k7.next
      have q8 := (q7.keep k8).mono k8.next
      have s23 := same_spec (N := 2000000) (Ints.keepN k8 u7 i7) i8 (by omega) (by omega)
      obtain ⟨sm, h9, lm, e9, k9, i9, u9, l9, sn, h10, e10, k10, i10⟩ := Below_both (N := 2000000) (by omega) q8 i
      have s24 := same_spec (N := 2000000) (Ints.keepN k10 u9 i9) i10 (by omega) (by omega)
      simp only [decide_true, Int.ofNat_zero] at s18 s20 s22 s23 s24
      refine ⟨h10, ?_⟩
      unfold f4
      simp only [e1, bind2_some, Bool.not_true, cond_false, e2, e3, e4, e5, e6, s18, s19, s20, s21, s22, bind3_some, eqOut_exit, decide_true, cond_true, f11, e7, e8, s23, e9, e10, s24]
    · exfalso
      have := hrow i hi; omega
  · refine ⟨h1, ?_⟩
    simp [f4, e1, f11]
theorem undP4 : Try.prog.underlying 4 = some .bool := by kernel_rfl
theorem orders_true {H : Type} (h : Heap) (vs : List AV) (ds : List (DataW H)) (hr : RdArgs Try.prog h [22, 4, 3] vs ds) : ∃ xs : vdens [.one .slice, .one .bool, .one (.int .i64)], ∃ h', VTy.tos _ xs = vs ∧ (fun (x : vdens [.one .slice, .one .bool, .one (.int .i64)]) h => f4 2000000 x.1 x.2.1 x.2.2.1 h) xs h = some (true, h') := by
  obtain ⟨c0, d0, _, _, rfl, rfl, r0, hr⟩ := hr.cons_inv
  obtain ⟨c1, d1, _, _, rfl, rfl, r1, hr⟩ := hr.cons_inv
  obtain ⟨c2, d2, _, _, rfl, rfl, r2, hr⟩ := hr.cons_inv
  obtain ⟨rfl, rfl⟩ := hr.nil_inv
  obtain ⟨s, ss, d, rfl, hrow⟩ := rows_of r0
  obtain ⟨b1, rfl, _⟩ := Rd.bool_inv undP4 r1
  obtain ⟨n2, rfl, _⟩ := Rd.int_inv undP3 r2
  obtain ⟨h', e⟩ := orders_law hrow b1 n2
  refine ⟨(s, b1, n2, ()), h', ?_, e⟩
  simp [VTy.tos, VTy.to, CTy.to, argOf, undP3, undP4, undP22]
end Go.Proofs.Ythpplekbeecdfaa.Gb

open Go Go.Proofs.Ythpplekbeecdfaa.Ai Go.Proofs
namespace Go.Proofs.Ythpplekbeecdfaa.Gb
variable {ll : List (List Int)} {bd : Nat → Bool} {st st1 st2 : List Int} {B : Nat}
/-- a plan of which some is done rightly -/
structure Good (ll : List (List Int)) (bd : Nat → Bool) (st : List Int) : Prop where
  len : st.length = ll.length
  v : ∀ i, i < ll.length → st.getD i 0 = 0 ∨ st.getD i 0 = 1 ∨ st.getD i 0 = 2
  w : ∀ i, i < ll.length → st.getD i 0 = 1 → bd i = false ∧ ∀ k ∈ ll.getD i [], st.getD k.toNat 0 = 1
  x : ∀ i, i < ll.length → st.getD i 0 = 2 → bd i = true ∨ ∃ k ∈ ll.getD i [], st.getD k.toNat 0 = 2
theorem getD_rep (n i : Nat) : (List.replicate n (0 : Int)).getD i 0 = 0 := by
  rw [List.getD_eq_getElem?_getD, List.getElem?_replicate]; split <;> rfl
theorem Good.start : Good ll bd (List.replicate ll.length 0) := by
  refine ⟨by simp, fun i _ => .inl (getD_rep _ _), fun i _ h => ?_, fun i _ h => ?_⟩ <;> rw [getD_rep] at h <;> omega
theorem now1 {i : Nat} (h : nowM ll st i = 1) : st.getD i 0 ≠ 1 ∧ st.getD i 0 ≠ 2 ∧ ∀ k ∈ ll.getD i [], st.getD k.toNat 0 ≠ 2 ∧ st.getD k.toNat 0 ≠ 0 := by
  unfold nowM at h
  split at h
  · omega
  · split at h
    · omega
    · split at h
      · omega
      · split at h
        · omega
        · rename_i h1 h2 h3 h4
          simp only [List.any_eq_true, decide_eq_true_eq, not_exists, not_and] at h3 h4
          exact ⟨h2, h1, fun k hk => ⟨h3 k hk, h4 k hk⟩⟩
theorem now2 {i : Nat} (h : nowM ll st i = 2) : st.getD i 0 ≠ 1 ∧ st.getD i 0 ≠ 2 ∧ ∃ k ∈ ll.getD i [], st.getD k.toNat 0 = 2 := by
  unfold nowM at h
  split at h
  · omega
  · split at h
    · omega
    · split at h
      · rename_i h1 h2 h3
        simp only [List.any_eq_true, decide_eq_true_eq] at h3
        exact ⟨h2, h1, h3⟩
      · split at h <;> omega
theorem now_open {i : Nat} (h0 : st.getD i 0 = 0) (hd : ∀ k ∈ ll.getD i [], st.getD k.toNat 0 ≠ 0) : nowM ll st i = 1 ∨ nowM ll st i = 2 := by
  unfold nowM
  rw [if_neg (by omega), if_neg (by omega)]
  split
  · exact .inr rfl
  · split
    · rename_i h
      simp only [List.any_eq_true, decide_eq_true_eq] at h
      obtain ⟨k, hk, e⟩ := h
      exact absurd e (hd k hk)
    · exact .inl rfl
theorem Good.zero (hg : Good ll bd st) {i : Nat} (hi : i < ll.length) (h : nowM ll st i = 1 ∨ nowM ll st i = 2) : st.getD i 0 = 0 := by
  rcases hg.v i hi with e | e | e
  · exact e
  · rcases h with h | h
    · exact absurd e (now1 h).1
    · exact absurd e (now2 h).1
  · rcases h with h | h
    · exact absurd e (now1 h).2.1
    · exact absurd e (now2 h).2.1
theorem set_getD (st : List Int) (i j : Nat) (v : Int) (hi : i < st.length) : (st.set i v).getD j 0 = if j = i then v else st.getD j 0 := by
  simp only [List.getD_eq_getElem?_getD, List.getElem?_set]
  by_cases h : i = j
  · subst h; simp [hi]
  · rw [if_neg h, if_neg (fun e => h e.symm)]
theorem Good.next (hf : Fine ll) (hg : Good ll bd st) {i : Nat} {ok : Bool} (hi : i < ll.length) (hn : nowM ll st i = 1 ∧ ok = !bd i ∨ nowM ll st i = 2 ∧ ok = false) : Good ll bd (st.set i (if ok then 1 else 2)) := by
  have hl := hg.len
  have h0 := hg.zero hi (by rcases hn with h | h; exact .inl h.1; exact .inr h.1)
  have hset := fun j => set_getD st i j (if ok then 1 else 2) (by omega)
  refine ⟨by simpa using hl, fun j hj => ?_, fun j hj e => ?_, fun j hj e => ?_⟩
  · rw [hset]
    split
    · cases ok <;> simp
    · exact hg.v j hj
  · rw [hset] at e
    by_cases hji : j = i
    · subst hji
      rw [if_pos rfl] at e
      rcases hn with ⟨h1, h2⟩ | ⟨h1, h2⟩
      · cases hb : bd j with
        | true => rw [hb] at h2; subst h2; simp at e
        | false =>
          refine ⟨rfl, fun k hk => ?_⟩
          have hx := (now1 h1).2.2 k hk
          have hr := hf.inr j hi k hk
          rw [hset]
          split
          · rename_i e3; rw [e3] at hx; exact absurd h0 hx.2
          · rcases hg.v k.toNat (by omega) with e4 | e4 | e4
            · exact absurd e4 hx.2
            · exact e4
            · exact absurd e4 hx.1
      · subst h2; simp at e
    · rw [if_neg hji] at e
      have hx := hg.w j hj e
      refine ⟨hx.1, fun k hk => ?_⟩
      rw [hset]
      split
      · rename_i e3
        have := hx.2 k hk
        rw [e3] at this; omega
      · exact hx.2 k hk
  · rw [hset] at e
    have up : ∀ j, (∃ k ∈ ll.getD j [], st.getD k.toNat 0 = 2) → ∃ k ∈ ll.getD j [], (st.set i (if ok then 1 else 2)).getD k.toNat 0 = 2 := by
      rintro j ⟨k, hk, e4⟩
      refine ⟨k, hk, ?_⟩
      rw [hset]
      split
      · rename_i e3; rw [e3] at e4; omega
      · exact e4
    by_cases hji : j = i
    · subst hji
      rw [if_pos rfl] at e
      rcases hn with ⟨h1, h2⟩ | ⟨h1, h2⟩
      · left
        cases hb : bd j with
        | true => rfl
        | false => rw [hb] at h2; subst h2; simp at e
      · exact .inr (up j (now2 h1).2.2)
    · rw [if_neg hji] at e
      rcases hg.x j hj e with h | h
      · exact .inl h
      · exact .inr (up j h)
theorem count_set0 (st : List Int) {i : Nat} (hi : i < st.length) (h0 : st.getD i 0 = 0) {v : Int} (hv : v ≠ 0) : (st.set i v).count 0 + 1 = st.count 0 := by
  rw [List.count_set hi]
  have h1 : st[i] = 0 := by rw [getD_lt _ _ hi] at h0; exact h0
  have h2 : 0 < st.count 0 := List.count_pos_iff.2 (by rw [← h1]; exact List.getElem_mem hi)
  simp [h1, hv]
  omega
theorem mem_allM {n : Nat} {w x : Int} : x ∈ allM ll st w 0 n ↔ 0 ≤ x ∧ x < n ∧ nowM ll st x.toNat = w := by
  simp only [allM, List.mem_map, List.mem_filter, List.mem_range'_1, decide_eq_true_eq]
  constructor
  · rintro ⟨i, ⟨⟨_, h1⟩, h2⟩, rfl⟩
    simp only [Int.ofNat_eq_natCast, Int.toNat_natCast]
    exact ⟨by omega, by omega, h2⟩
  · rintro ⟨h1, h2, h3⟩
    exact ⟨x.toNat, ⟨⟨by omega, by omega⟩, h3⟩, by simp; omega⟩
theorem some_open (hf : Fine ll) (ha : Acyclic ll) (hl : st.length = ll.length) (hc : 0 < st.count 0) : ∃ i, i < ll.length ∧ (nowM ll st i = 1 ∨ nowM ll st i = 2) := by
  obtain ⟨i, hi, e⟩ := List.getElem_of_mem (List.count_pos_iff.1 hc)
  have hd : ∀ j, j < st.length → (st.map fun x => decide (x ≠ 0)).getD j false = decide (st.getD j 0 ≠ 0) := by
    intro j hj
    rw [getD_lt _ _ (by simpa using hj), getD_lt _ _ hj, List.getElem_map]
  obtain ⟨j, hj, hr⟩ := ready_exists hf ha (st.map fun x => decide (x ≠ 0)) _ i (Nat.le_refl _) (by omega) (by rw [hd i hi, getD_lt _ _ hi]; simp [e])
  refine ⟨j, hj, now_open ?_ ?_⟩
  · simp only [ready, Bool.and_eq_true, Bool.not_eq_true'] at hr
    have := hr.1
    rw [hd j (by omega)] at this
    simpa using this
  · intro k hk
    simp only [ready, Bool.and_eq_true, List.all_eq_true] at hr
    have h1 := hr.2 k hk
    have hin := hf.inr j hj k hk
    rw [hd _ (by omega)] at h1
    simpa using h1
theorem allM_len {w : Int} {n : Nat} : (allM ll st w 0 n).length ≤ n := by
  simp only [allM, List.length_map]
  exact Nat.le_trans (List.length_filter_le _ _) (by simp)
theorem Good.want (hg : Good ll bd st) (hc : st.count 0 = 0) {i : Nat} (hi : i < ll.length) : st.getD i 0 = 1 ↔ bd i = false ∧ ∀ k ∈ ll.getD i [], st.getD k.toNat 0 = 1 := by
  constructor
  · exact hg.w i hi
  · rintro ⟨h1, h2⟩
    rcases hg.v i hi with e | e | e
    · have hl := hg.len
      have : (0 : Int) ∈ st := by
        rw [getD_lt _ _ (by omega)] at e
        rw [← e]; exact List.getElem_mem _
      exact absurd (List.count_pos_iff.2 this) (by omega)
    · exact e
    · rcases hg.x i hi e with h3 | ⟨k, hk, h3⟩
      · rw [h1] at h3; cases h3
      · have := h2 k hk; omega
theorem Good.uniq (hf : Fine ll) (ha : Acyclic ll) (h1 : Good ll bd st1) (h2 : Good ll bd st2) (c1 : st1.count 0 = 0) (c2 : st2.count 0 = 0) : ∀ (m i : Nat), need' ll (i : Int) ≤ m → i < ll.length → (st1.getD i 0 = 1 ↔ st2.getD i 0 = 1) := by
  intro m
  induction m with
  | zero =>
    intro i hm hi
    have hno : ∀ k, k ∉ ll.getD i [] := by
      intro k hk
      have := need_lt hf ha (i := (i : Int)) (k := k) (by simpa using hk)
      omega
    rw [h1.want c1 hi, h2.want c2 hi]
    constructor <;> exact fun h => ⟨h.1, fun k hk => absurd hk (hno k)⟩
  | succ m ih =>
    intro i hm hi
    rw [h1.want c1 hi, h2.want c2 hi]
    have hk : ∀ k ∈ ll.getD i [], (st1.getD k.toNat 0 = 1 ↔ st2.getD k.toNat 0 = 1) := by
      intro k hk
      have hin := hf.inr i hi k hk
      have := need_lt hf ha (i := (i : Int)) (k := k) (by simpa using hk)
      exact ih k.toNat (by rw [show ((k.toNat : Nat) : Int) = k by omega]; omega) (by omega)
    constructor
    · exact fun h => ⟨h.1, fun k h3 => (hk k h3).1 (h.2 k h3)⟩
    · exact fun h => ⟨h.1, fun k h3 => (hk k h3).2 (h.2 k h3)⟩
end Go.Proofs.Ythpplekbeecdfaa.Gb

open Go Go.Proofs.Ythpplekbeecdfaa.Ai Go.Proofs
namespace Go.Proofs.Ythpplekbeecdfaa.Gb
variable {N : Nat} {s : SL} {l : List Int} {ss : List SL} {ll : List (List Int)} {B : Nat} {h0 : Heap} {P : Nat} {dv sv : SL} {st : List Int} {bd : List Bool}
/-- a run's step, once its place in the list is known -/
noncomputable def runTail (N : Nat) (go : Option (Nat × Nat) → SL → SL → Int → Bool → Int → Heap → Option (Out × (Bool × Unit) × Heap)) (v0 : Option (Nat × Nat)) (v1 v2 : SL) (v3 : Int) (v8 : Bool) (v9 : Int) (x9 : SL) (k : Int) (h10 : Heap) : Option (Out × (Bool × Unit) × Heap) :=
  (bind2 (f28 N v0 h10) fun (x47 : SL) h48 =>
  (bif ltInt k (Int.ofNat x47.len) then
    (ixK x9.a x9.len k 1 fun q50 =>
    (bindV (.val (.one (.int .i64))) (h48.cell q50) fun (x51 : Int) =>
    (bif ltInt x51 (Int.ofNat v1.len) then
      (ixK x9.a x9.len k 1 fun q53 =>
      (bindV (.val (.one (.int .i64))) (h48.cell q53) fun (x54 : Int) =>
      (ixK v1.a v1.len x54 1 fun q55 =>
      (bindV (.val (.one .bool)) (h48.cell q55) fun (x56 : Bool) =>
      (ixK x9.a x9.len k 1 fun q58 =>
      (bindV (.val (.one (.int .i64))) (h48.cell q58) fun (x59 : Int) =>
      (bind2 (f30 N v0 x59 (!x56) h48) fun (x60 : AV) h61 =>
      (bindV (.val (.one .bool)) (binA E .neq 32 (.tmp 75) (.const .nilIface) x60 AV.nilIface) fun (x62 : Bool) =>
      (bif x62 then some (Out.ret, (false, ()), h61) else go v0 v1 v2 v3 v8 (wrapA .i64 (v9 + 1)) h61)))))))))
    else
      (ixK x9.a x9.len k 1 fun q64 =>
      (bindV (.val (.one (.int .i64))) (h48.cell q64) fun (x65 : Int) =>
      (bind2 (f30 N v0 x65 true h48) fun (x66 : AV) h67 =>
      (bindV (.val (.one .bool)) (binA E .neq 32 (.tmp 75) (.const .nilIface) x66 AV.nilIface) fun (x68 : Bool) =>
      (bif x68 then some (Out.ret, (false, ()), h67) else go v0 v1 v2 v3 v8 (wrapA .i64 (v9 + 1)) h67))))))))
  else
    (ixK x9.a x9.len k 1 fun q70 =>
    (bindV (.val (.one (.int .i64))) (h48.cell q70) fun (x71 : Int) =>
    (bind2 (f30 N v0 x71 false h48) fun (x72 : AV) h73 =>
    (bindV (.val (.one .bool)) (binA E .neq 32 (.tmp 75) (.const .nilIface) x72 AV.nilIface) fun (x74 : Bool) =>
    (bif x74 then some (Out.ret, (false, ()), h73) else go v0 v1 v2 v3 v8 (wrapA .i64 (v9 + 1)) h73)))))))
theorem run_eq (N : Nat) (go : Option (Nat × Nat) → SL → SL → Int → Bool → Int → Heap → Option (Out × (Bool × Unit) × Heap)) (v0 : Option (Nat × Nat)) (v1 v2 : SL) (v3 : Int) (v8 : Bool) (v9 : Int) (h : Heap) : f37_l1_b N go v0 v1 v2 v3 v8 v9 h =
  (bif ltInt v9 v3 then
    (bind2 (f28 N v0 (h.push (.row [] .own))) fun (x3 : SL) h4 =>
    (bindT (.val (.one .slice)) (appendA E 26 26 (.slice (some (h.next, 0)) 0 0 1) (.slice x3.a x3.len x3.cap x3.sz) h4) fun (x5 : SL) h6 =>
    (bind2 (f33 N v0 h6) fun (x7 : SL) h8 =>
    (bindT (.val (.one .slice)) (appendA E 26 26 (.slice x5.a x5.len x5.cap x5.sz) (.slice x7.a x7.len x7.cap x7.sz) h8) fun (x9 : SL) h10 =>
    (bif eqInt (Int.ofNat x9.len) 0 then some (Out.ret, (false, ()), h10)
    else (bif ltInt v9 (Int.ofNat v2.len) then
      (ixK v2.a v2.len v9 1 fun q13 =>
      (bindV (.val (.one (.int .i64))) (h10.cell q13) fun (x14 : Int) =>
      (bindV (.val (.one (.int .i64))) (binInt .rem .i64 x14 (Int.ofNat x9.len)) fun (x15 : Int) =>
      (bindV (.val (.one (.int .i64))) (binInt .rem .i64 (wrapA .i64 (x15 + (Int.ofNat x9.len))) (Int.ofNat x9.len)) fun (x17 : Int) => runTail N go v0 v1 v2 v3 v8 v9 x9 x17 h10))))
      else runTail N go v0 v1 v2 v3 v8 v9 x9 0 h10))))))
  else some ((Out.exit 0), (v8, ()), h)) := rfl
theorem nn75 : binA E .neq 32 (.tmp 75) (.const .nilIface) AV.nilIface AV.nilIface = some (.bool false) := by kernel_rfl
/-- a rest that is brought into the range -/
theorem rem2 {n : Nat} (hn : 0 < n) (h1 : n ≤ 1000) (x : Int) : ∃ r k : Int, binInt .rem .i64 x (n : Int) = some (.int .i64 r) ∧ binInt .rem .i64 (wrapA .i64 (r + n)) (n : Int) = some (.int .i64 k) ∧ 0 ≤ k ∧ k < n := by
  have e0 : eqInt (n : Int) 0 = false := by rw [eqI]; simp only [decide_eq_false_iff_not]; omega
  have hb1 : x.tmod n < n := Int.tmod_lt_of_pos _ (by omega)
  have hb2 : -(n : Int) < x.tmod n := by
    have := Int.lt_tmod_of_pos x (show (0 : Int) < n by omega)
    omega
  have ew : wrapA .i64 (x.tmod n + n) = x.tmod n + n := wrapA_small (by omega) (by omega)
  refine ⟨x.tmod n, (x.tmod n + n).tmod n, by simp only [binInt, e0, cond_false], by simp only [binInt, e0, cond_false, ew], Int.tmod_nonneg _ (by omega), Int.tmod_lt_of_pos _ (by omega)⟩
theorem runTail_spec {h : Heap} (hf : Fine ll) (hN : 1000 ≤ N) (hp : Pl B h P dv sv ss ll st) (hg : Good ll (fun i => bd.getD i false) st) {v1 v2 x9 : SL} (hv1 : One h v1 (bd.map AV.bool)) (hu1 : v1.under B) {C : Nat} (hx9 : Own1 C h x9 ((allM ll st 1 0 ll.length ++ allM ll st 2 0 ll.length).map (AV.int .i64))) (hbn : B ≤ h.next)
    {k : Int} (hk0 : 0 ≤ k) (hk1 : k < (allM ll st 1 0 ll.length ++ allM ll st 2 0 ll.length).length) (go : Option (Nat × Nat) → SL → SL → Int → Bool → Int → Heap → Option (Out × (Bool × Unit) × Heap)) (v3 : Int) (v8 : Bool) (v9 : Int) :
    ∃ h' st', runTail N go (some (P, 0)) v1 v2 v3 v8 v9 x9 k h = go (some (P, 0)) v1 v2 v3 v8 (wrapA .i64 (v9 + 1)) h' ∧ But sv.blk h h' ∧ Pl B h' P dv sv ss ll st' ∧ Good ll (fun i => bd.getD i false) st' ∧ st'.count 0 + 1 = st.count 0 := by
  obtain ⟨rs, h1, e1, b1, o1⟩ := Ready_spec (N := N) hf hN hp hg.len
  have hp1 := hp.keep b1
  have hx := hx9.but b1 (by simp)
  have hrl : rs.len = (allM ll st 1 0 ll.length).length := by have := o1.len; rw [List.length_map] at this; exact this
  have rd : ∀ {β : Type} (K : Int → Option β), (ixK x9.a x9.len k 1 fun q => bindV (.val (.one (.int .i64))) (h1.cell q) K) = K ((allM ll st 1 0 ll.length ++ allM ll st 2 0 ll.length).getD k.toNat 0) := fun K => hx.one.int hk0 hk1 K
  have k1 : Keep B h h1 := b1.keep hbn (by simp)
  have hv := hv1.keep k1 hu1
  have hvl : v1.len = bd.length := by have := hv1.1; rw [List.length_map] at this; exact this
  rw [List.length_append] at hk1
  have hlt : ltInt k (rs.len : Int) = decide (k < ((allM ll st 1 0 ll.length).length : Int)) := by rw [ltInt_dec, hrl]
  unfold runTail
  simp only [e1, bind2_some, Int.ofNat_eq_natCast, hlt, rd]
  generalize hxe : (allM ll st 1 0 ll.length ++ allM ll st 2 0 ll.length).getD k.toNat 0 = x
  have fin : ∀ (ok : Bool), 0 ≤ x → x < ll.length → (nowM ll st x.toNat = 1 ∧ ok = !(bd.getD x.toNat false) ∨ nowM ll st x.toNat = 2 ∧ ok = false) →
      ∃ h' st', f30 N (some (P, 0)) x ok h1 = some (.nilIface, h') ∧ But sv.blk h h' ∧ Pl B h' P dv sv ss ll st' ∧ Good ll (fun i => bd.getD i false) st' ∧ st'.count 0 + 1 = st.count 0 := by
    intro ok hx0 hx1 hn
    obtain ⟨h', e, b, p⟩ := Done_ok (N := N) hf hN hp1 hg.len hx0 (by rw [hg.len]; exact hx1) ok (by rcases hn with ⟨a, _⟩ | ⟨a, b⟩; exact .inl a; exact .inr ⟨a, b⟩)
    refine ⟨h', _, e, ⟨fun A hA hne => (b.g A (Nat.lt_of_lt_of_le hA b1.next) hne).trans (b1.g A hA (by simp)), Nat.le_trans b1.next b.next⟩, p, hg.next hf (by omega) hn, ?_⟩
    refine count_set0 st (by rw [hg.len]; omega) (hg.zero (by omega) (by rcases hn with ⟨a, _⟩ | ⟨a, _⟩; exact .inl a; exact .inr a)) ?_
    cases ok <;> simp
  by_cases hr : k < ((allM ll st 1 0 ll.length).length : Int)
  · have hm : x ∈ allM ll st 1 0 ll.length := by
      rw [← hxe, getD_lt _ _ (by rw [List.length_append]; omega), List.getElem_append_left (by omega)]
      exact List.getElem_mem _
    obtain ⟨hx0, hx1, hn⟩ := mem_allM.1 hm
    simp only [hr, decide_true, cond_true]
    by_cases hb : x < (bd.length : Int)
    · have rb : ∀ {β : Type} (K : Bool → Option β), (ixK v1.a v1.len x 1 fun q => bindV (.val (.one .bool)) (h1.cell q) K) = K (bd.getD x.toNat false) := fun K => hv.bool hx0 hb K
      obtain ⟨h', st', e, b, p, g, c⟩ := fin (!(bd.getD x.toNat false)) hx0 hx1 (.inl ⟨hn, rfl⟩)
      have hlb : ltInt x (v1.len : Int) = true := by rw [ltInt_dec, hvl]; simp only [decide_eq_true_eq]; omega
      simp only [hlb, cond_true, rb, e, bind2_some, nn75, bindV_some, cast_bool, cond_false]
      exact ⟨h', st', rfl, b, p, g, c⟩
    · have hbf : bd.getD x.toNat false = false := by
        rw [List.getD_eq_getElem?_getD, List.getElem?_eq_none (by omega)]; rfl
      obtain ⟨h', st', e, b, p, g, c⟩ := fin true hx0 hx1 (.inl ⟨hn, by rw [hbf]; rfl⟩)
      have hlb : ltInt x (v1.len : Int) = false := by rw [ltInt_dec, hvl]; simp only [decide_eq_false_iff_not]; omega
      simp only [hlb, cond_false, e, bind2_some, nn75, bindV_some, cast_bool]
      exact ⟨h', st', rfl, b, p, g, c⟩
  · have hm : x ∈ allM ll st 2 0 ll.length := by
      rw [← hxe, getD_lt _ _ (by rw [List.length_append]; omega), List.getElem_append_right (by omega)]
      exact List.getElem_mem _
    obtain ⟨hx0, hx1, hn⟩ := mem_allM.1 hm
    obtain ⟨h', st', e, b, p, g, c⟩ := fin false hx0 hx1 (.inr ⟨hn, rfl⟩)
    simp only [hr, decide_false, cond_false, e, bind2_some, nn75, bindV_some, cast_bool]
    exact ⟨h', st', rfl, b, p, g, c⟩
end Go.Proofs.Ythpplekbeecdfaa.Gb

open Go Go.Proofs.Ythpplekbeecdfaa.Ai Go.Proofs
namespace Go.Proofs.Ythpplekbeecdfaa.Gb
variable {N : Nat} {s : SL} {l : List Int} {ss : List SL} {ll : List (List Int)} {B : Nat} {h0 : Heap} {P : Nat} {dv sv : SL} {st : List Int} {bd : List Bool}
/-- the list of what is ready and what is blocked -/
theorem list_spec {h : Heap} (hf : Fine ll) (hN : 1000 ≤ N) (hp : Pl B h P dv sv ss ll st) (hsl : st.length = ll.length) : ∃ (x3 : SL) (h4 : Heap) (x5 : SL) (h6 : Heap) (x7 : SL) (h8 : Heap) (x9 : SL) (h10 : Heap),
    f28 N (some (P, 0)) (h.push (.row [] .own)) = some (x3, h4) ∧ appendA E 26 26 (.slice (some (h.next, 0)) 0 0 1) (.slice x3.a x3.len x3.cap x3.sz) h4 = some (.slice x5.a x5.len x5.cap x5.sz, h6) ∧
    f33 N (some (P, 0)) h6 = some (x7, h8) ∧ appendA E 26 26 (.slice x5.a x5.len x5.cap x5.sz) (.slice x7.a x7.len x7.cap x7.sz) h8 = some (.slice x9.a x9.len x9.cap x9.sz, h10) ∧
    But none h h10 ∧ Own1 h.next h10 x9 ((allM ll st 1 0 ll.length ++ allM ll st 2 0 ll.length).map (AV.int .i64)) := by
  have hlen := hf.len
  have b2 : But none h (h.push (.row [] .own)) := But.push h _ _
  have n2 : (h.push (.row [] .own)).next = h.next + 1 := by simp
  obtain ⟨x3, h4, e4, b4, o4⟩ := Ready_spec (N := N) hf hN (hp.keep b2) hsl
  have n4 := b4.next
  have o0 : Own1 h.next h4 ⟨some (h.next, 0), 0, 0, 1⟩ [] := by
    refine Own1.but b4 (by simp) (.inr ⟨h.next, [], .own, rfl, rfl, Nat.le_refl _, by simp, g_push_eq _ rfl, rfl, by simp, rfl, Nat.le_refl _, .inr ⟨rfl, rfl⟩⟩)
  have hl1 : (allM ll st 1 0 ll.length).length ≤ ll.length := allM_len
  have hl2 : (allM ll st 2 0 ll.length).length ≤ ll.length := allM_len
  obtain ⟨x5, h6, e6, o6, b6, c6⟩ := append_ownN app26 o4.one (by simp [AV.single]) o0 (by omega) (by rw [List.length_map]; simp; omega)
  have n6 := b6.next
  have k6 : Keep h.next h h6 := (b2.keep (Nat.le_refl _) (by simp)).trans ((b4.keep (by omega) (by simp)).trans (b6.keep (by omega) (fun A hA => (o0.ge A hA).1)))
  obtain ⟨x7, h8, e8, b8, o8⟩ := Blocked_spec (N := N) hf hN (hp.keep (Keep.but k6)) hsl
  have n8 := b8.next
  have o6' := o6.but b8 (by simp)
  obtain ⟨x9, h10, e10, o10, b10, c10⟩ := append_ownN app26 o8.one (by simp [AV.single]) o6' (by omega) (by simp only [List.length_append, List.length_map, List.length_nil]; omega)
  refine ⟨x3, h4, x5, h6, x7, h8, x9, h10, e4, e6, e8, e10, Keep.but (k6.trans ((b8.keep (by omega) (by simp)).trans (b10.keep (by omega) (fun A hA => (o6'.ge A hA).1)))), ?_⟩
  rw [List.map_append]
  exact o10
theorem run_loop (hf : Fine ll) (ha : Acyclic ll) (hN : 1000 ≤ N) {v1 v2 : SL} {ord : List Int} : ∀ (M i : Nat) (h : Heap) (st : List Int), i ≤ ll.length → ll.length - i < M → st.count 0 = ll.length - i → Pl B h P dv sv ss ll st → Good ll (fun i => bd.getD i false) st → One h v1 (bd.map AV.bool) → v1.under B → Ints h v2 ord → v2.under B → B ≤ h.next →
    ∃ h' st', f37_l1 N M (some (P, 0)) v1 v2 (ll.length : Int) false (i : Int) h = some (.exit 0, (false, ()), h') ∧ But sv.blk h h' ∧ Pl B h' P dv sv ss ll st' ∧ Good ll (fun i => bd.getD i false) st' ∧ st'.count 0 = 0 := by
  intro M
  induction M with
  | zero => intro i h st h1 h2; omega
  | succ M ih =>
    intro i h st h1 h2 hc hp hg hv1 hu1 hv2 hu2 hbn
    have hlen := hf.len
    rw [f37_l1_succ, run_eq]
    by_cases hi : i < ll.length
    · have ew : wrapA .i64 ((i : Int) + 1) = ((i + 1 : Nat) : Int) := wrapA_small (by omega) (by omega)
      obtain ⟨x3, h4, x5, h6, x7, h8, x9, h10, e4, e6, e8, e10, b10, o10⟩ := list_spec (N := N) hf hN hp hg.len
      have n10 := b10.next
      have k10 : Keep B h h10 := b10.keep hbn (by simp)
      have hp10 := hp.keep b10
      have hv10 := hv1.keep k10 hu1
      have hw10 : Ints h10 v2 ord := hv2.keep k10 hu2
      have hl1 : (allM ll st 1 0 ll.length).length ≤ ll.length := allM_len
      have hl2 : (allM ll st 2 0 ll.length).length ≤ ll.length := allM_len
      obtain ⟨j, hj, hjo⟩ := some_open hf ha hg.len (by omega)
      have hmem : (j : Int) ∈ allM ll st 1 0 ll.length ++ allM ll st 2 0 ll.length := by
        rw [List.mem_append]
        rcases hjo with hjo | hjo
        · exact .inl (mem_allM.2 ⟨by omega, by omega, by simpa using hjo⟩)
        · exact .inr (mem_allM.2 ⟨by omega, by omega, by simpa using hjo⟩)
      have hpos := List.length_pos_of_mem hmem
      generalize hL : allM ll st 1 0 ll.length ++ allM ll st 2 0 ll.length = L at o10 hpos
      have hLl : L.length ≤ 1000 := by rw [← hL, List.length_append]; omega
      have hx9 : x9.len = L.length := by have := o10.len; rw [List.length_map] at this; exact this
      have e0 : eqInt (L.length : Int) 0 = false := by rw [eqI]; simp only [decide_eq_false_iff_not]; omega
      have step : ∀ k : Int, 0 ≤ k → k < L.length → ∃ h' st', runTail N (f37_l1 N M) (some (P, 0)) v1 v2 (ll.length : Int) false (i : Int) x9 k h10 = some (.exit 0, (false, ()), h') ∧ But sv.blk h h' ∧ Pl B h' P dv sv ss ll st' ∧ Good ll (fun i => bd.getD i false) st' ∧ st'.count 0 = 0 := by
        intro k hk0 hk1
        obtain ⟨h', st', e, b, p, g, c⟩ := runTail_spec (N := N) (v1 := v1) (v2 := v2) hf hN hp10 hg hv10 hu1 (by rw [hL]; exact o10) (by omega) hk0 (by rw [hL]; exact hk1) (f37_l1 N M) (ll.length : Int) false (i : Int)
        have hb1 : But sv.blk h h' := ⟨fun A hA hne => (b.g A (by omega) hne).trans (b10.g A hA (by simp)), Nat.le_trans n10 b.next⟩
        have kb : Keep B h10 h' := b.keep (by omega) (fun A hA => (hp10.s.ge A hA).1)
        obtain ⟨h'', st'', e2, b2, r⟩ := ih (i + 1) h' st' (by omega) (by omega) (by omega) p g (hv10.keep kb hu1) hu1 (hw10.keep kb hu2) hu2 (by have := b.next; omega)
        exact ⟨h'', st'', by rw [e, ew]; exact e2, hb1.trans b2, r⟩
      have hw := Ints.len hw10
      have hxe : (⟨x9.a, L.length, x9.cap, x9.sz⟩ : SL) = x9 := by rw [← hx9]
      simp only [nat_i, hi, decide_true, cond_true, e4, bind2_some, e6, bindT_some, cast_slice, e8, e10, hx9, Int.ofNat_eq_natCast, e0, cond_false, hw, hxe]
      by_cases ho : i < ord.length
      · obtain ⟨r, k, r1, r2, hk0, hk1⟩ := rem2 hpos hLl (ord.getD i 0)
        have ro : ∀ {β : Type} (K : Int → Option β), (ixK v2.a ord.length (i : Int) 1 fun q => bindV (.val (.one (.int .i64))) (h10.cell q) K) = K (ord.getD i 0) := fun K => by
          rw [← hw, hw10.int (x := (i : Int)) (by omega) (by omega)]; simp only [Int.toNat_natCast]
        simp only [ho, decide_true, cond_true, ro, r1, bindV_some, cast_int, r2]
        exact step k hk0 hk1
      · simp only [ho, decide_false, cond_false]
        exact step 0 (by omega) (by omega)
    · have : i = ll.length := by omega
      subst this
      exact ⟨h, st, by simp [nat_i], But.refl _ _, hp, hg, by omega⟩
theorem run_spec (hf : Fine ll) (ha : Acyclic ll) (hN : 1000 ≤ N) {v1 v2 : SL} {ord : List Int} {h : Heap} (hp : Pl B h P dv sv ss ll (List.replicate ll.length 0)) (hv1 : One h v1 (bd.map AV.bool)) (hu1 : v1.under B) (hv2 : Ints h v2 ord) (hu2 : v2.under B) (hbn : B ≤ h.next) :
    ∃ h' st', f37 N (some (P, 0)) v1 v2 (ll.length : Int) h = some (true, h') ∧ But sv.blk h h' ∧ Pl B h' P dv sv ss ll st' ∧ Good ll (fun i => bd.getD i false) st' ∧ st'.count 0 = 0 := by
  have hlen := hf.len
  obtain ⟨h', st', e, r⟩ := run_loop (N := N) (bd := bd) hf ha hN N 0 h (List.replicate ll.length 0) (by omega) (by omega) (by simp) hp Good.start hv1 hu1 hv2 hu2 hbn
  simp only [Int.ofNat_zero] at e
  refine ⟨h', st', ?_, r⟩
  unfold f37
  simp only [e, bind3_some, eqOut_exit, decide_true, cond_true]
/-- another plan stays as it is -/
theorem Pl.other {h h' : Heap} {o : Option Nat} (hp : Pl B h P dv sv ss ll st) (hb : But o h h') (ho : ∀ A, o = some A → A ≠ P ∧ sv.blk ≠ some A ∧ dv.blk ≠ some A ∧ ∀ i, i < ll.length → (ss.getD i nilS).blk ≠ some A) : Pl B h' P dv sv ss ll st :=
  ⟨hp.lo, Nat.lt_of_lt_of_le hp.hi hb.next, by rw [hb.g P hp.hi (fun e => (ho P e).1 rfl)]; exact hp.g, hp.s.but hb (fun A hA e => (ho A e).2.1 hA), hp.d.but hb (fun A hA e => (ho A e).2.2.1 hA), hp.dl, fun i hi => (hp.r i hi).but hb (fun A hA e => (ho A e).2.2.2 i hi hA), hp.n1, hp.n2, hp.n3, hp.n4, hp.n5, hp.n6⟩
theorem Pl.lt {h : Heap} (hp : Pl B h P dv sv ss ll st) {A : Nat} (hA : A < B ∨ h.next ≤ A) : A ≠ P ∧ sv.blk ≠ some A ∧ dv.blk ≠ some A ∧ ∀ i, i < ll.length → (ss.getD i nilS).blk ≠ some A := by
  have h1 := hp.lo
  have h2 := hp.hi
  refine ⟨by omega, fun e => ?_, fun e => ?_, fun i hi e => ?_⟩
  · have := hp.s.ge A e; omega
  · have := hp.d.ge A e; omega
  · have := (hp.r i hi).ge A e; omega
end Go.Proofs.Ythpplekbeecdfaa.Gb

open Go Go.Proofs.Ythpplekbeecdfaa.Ai Go.Proofs
namespace Go.Proofs.Ythpplekbeecdfaa.Gb
variable {N : Nat} {s ev ov : SL} {ss : List SL} {ll : List (List Int)} {B C Q : Nat} {h0 : Heap} {st : List Int} {l : List Int}
/-! the document's plan -/
def didL (st : List Int) : List Bool := st.map fun x => !decide (x = 0)
def okL (st : List Int) : List Bool := st.map fun x => decide (x = 1)
theorem didL_get {i : Nat} (hi : i < st.length) : (didL st).getD i false = !decide (st.getD i 0 = 0) := by
  unfold didL
  rw [getD_lt _ _ (by rw [List.length_map]; exact hi), getD_lt _ _ hi, List.getElem_map]
theorem okL_get {i : Nat} (hi : i < st.length) : (okL st).getD i false = decide (st.getD i 0 = 1) := by
  unfold okL
  rw [getD_lt _ _ (by rw [List.length_map]; exact hi), getD_lt _ _ hi, List.getElem_map]
structure Rp (C B : Nat) (h : Heap) (Q : Nat) (s : SL) (ss : List SL) (ll : List (List Int)) (ev ov : SL) (st : List Int) : Prop where
  lo : B ≤ Q
  hi : Q < h.next
  g : h.g Q = some (.row [.slice s.a s.len s.cap s.sz, .slice ev.a ev.len ev.cap ev.sz, .slice ov.a ov.len ov.cap ov.sz] .own)
  e : Own1 B h ev ((didL st).map AV.bool)
  o : Own1 B h ov ((okL st).map AV.bool)
  r : RowsB C h s ss ll
  cb : C ≤ B
  n1 : ev.blk ≠ some Q
  n2 : ov.blk ≠ some Q
  n3 : ∀ A, ev.blk = some A → ov.blk ≠ some A
theorem Rp.other {h h' : Heap} {o : Option Nat} (hp : Rp C B h Q s ss ll ev ov st) (hb : But o h h') (ho : ∀ A, o = some A → A < h.next → A ≠ Q ∧ ev.blk ≠ some A ∧ ov.blk ≠ some A) (hk : Keep C h h') : Rp C B h' Q s ss ll ev ov st :=
  ⟨hp.lo, Nat.lt_of_lt_of_le hp.hi hb.next, by rw [hb.g Q hp.hi (fun e => (ho Q e hp.hi).1 rfl)]; exact hp.g, hp.e.but hb (fun A hA e => (ho A e (hp.e.ge A hA).2).2.1 hA), hp.o.but hb (fun A hA e => (ho A e (hp.o.ge A hA).2).2.2 hA), hp.r.keep hk, hp.cb, hp.n1, hp.n2, hp.n3⟩
theorem Rp.keep {h h' : Heap} (hp : Rp C B h Q s ss ll ev ov st) (hb : But none h h') : Rp C B h' Q s ss ll ev ov st :=
  hp.other hb (fun A e => by cases e) ⟨fun A hA => hb.g A (by have := hp.lo; have := hp.hi; have := hp.cb; omega) (by simp), hb.next⟩
theorem Rp.c0 {h : Heap} (hp : Rp C B h Q s ss ll ev ov st) : h.cell (Q, 0 + 0) = some (.slice s.a s.len s.cap s.sz) := by rw [Heap.cell_g, hp.g]; rfl
theorem Rp.c1 {h : Heap} (hp : Rp C B h Q s ss ll ev ov st) : h.cell (Q, 0 + 1) = some (.slice ev.a ev.len ev.cap ev.sz) := by rw [Heap.cell_g, hp.g]; rfl
theorem Rp.c2 {h : Heap} (hp : Rp C B h Q s ss ll ev ov st) : h.cell (Q, 0 + 2) = some (.slice ov.a ov.len ov.cap ov.sz) := by rw [Heap.cell_g, hp.g]; rfl
theorem Rp.re {h : Heap} (hp : Rp C B h Q s ss ll ev ov st) {x : Int} (h0 : 0 ≤ x) (h1 : x < st.length) {β : Type} (K : Bool → Option β) : (ixK ev.a ev.len x 1 fun q => bindV (.val (.one .bool)) (h.cell q) K) = K (!decide (st.getD x.toNat 0 = 0)) := by
  rw [hp.e.one.bool h0 (by unfold didL; rw [List.length_map]; exact h1), didL_get (by omega)]
theorem Rp.ro {h : Heap} (hp : Rp C B h Q s ss ll ev ov st) {x : Int} (h0 : 0 ≤ x) (h1 : x < st.length) {β : Type} (K : Bool → Option β) : (ixK ov.a ov.len x 1 fun q => bindV (.val (.one .bool)) (h.cell q) K) = K (decide (st.getD x.toNat 0 = 1)) := by
  rw [hp.o.one.bool h0 (by unfold okL; rw [List.length_map]; exact h1), okL_get (by omega)]
theorem Rp.rs {h : Heap} (hp : Rp C B h Q s ss ll ev ov st) {i : Nat} (hi : i < ll.length) {β : Type} (K : SL → Option β) : (ixK s.a s.len (i : Int) 1 fun q => bindV (.val (.one .slice)) (h.cell q) K) = K (ss.getD i nilS) := by
  rw [hp.r.r.top.sl (x := (i : Int)) (by omega) (by rw [hp.r.r.len]; omega)]; simp only [Int.toNat_natCast]
theorem Rp.ri {h : Heap} (hp : Rp C B h Q s ss ll ev ov st) {i : Nat} (hi : i < ll.length) {j : Nat} (hj : j < (ll.getD i []).length) {β : Type} (K : Int → Option β) : (ixK (ss.getD i nilS).a (ss.getD i nilS).len (j : Int) 1 fun q => bindV (.val (.one (.int .i64))) (h.cell q) K) = K (ll.getD i [])[j] := by
  rw [(hp.r.r.row i hi).int (x := (j : Int)) (by omega) (by omega)]; simp only [Int.toNat_natCast, getD_lt _ _ hj]
theorem ready2 {h : Heap} (hf : Fine ll) (hp : Rp C B h Q s ss ll ev ov st) (hsl : st.length = ll.length) {i : Nat} (hi : i < ll.length) (v3 : SL) : ∀ (M j : Nat) (b : Bool), j ≤ (ll.getD i []).length → (ll.getD i []).length - j < M →
    f32_l2 N M (some (Q, 0)) v3 (i : Int) b (j : Int) h = some (.exit 2, (some (Q, 0), v3, (i : Int), b && ((ll.getD i []).drop j).all (fun k => decide (st.getD k.toNat 0 = 1)), ()), h) := by
  intro M
  induction M with
  | zero => intro j b h1 h2; omega
  | succ M ih =>
    intro j b h1 h2
    rw [f32_l2_succ]
    unfold f32_l2_b
    have hrl := hf.row i hi
    have hlen := hf.len
    have hrow : (ss.getD i nilS).len = (ll.getD i []).length := Ints.len (hp.r.r.row i hi)
    have hlt : ltInt (j : Int) ((ss.getD i nilS).len : Int) = decide (j < (ll.getD i []).length) := by rw [hrow, nat_i]
    by_cases hj : j < (ll.getD i []).length
    · have ew : wrapA .i64 ((j : Int) + 1) = ((j + 1 : Nat) : Int) := wrapA_small (by omega) (by omega)
      have hin := hf.inr i hi _ (List.getElem_mem hj)
      have hd : (ll.getD i []).drop j = (ll.getD i [])[j] :: (ll.getD i []).drop (j + 1) := List.drop_eq_getElem_cons hj
      have re := fun {β : Type} (K : Bool → Option β) => hp.re (x := (ll.getD i [])[j]) hin.1 (by omega) K
      have ro := fun {β : Type} (K : Bool → Option β) => hp.ro (x := (ll.getD i [])[j]) hin.1 (by omega) K
      simp only [need_some, hp.c0, hp.c1, hp.c2, bindV_some, cast_slice, hp.rs hi, Int.ofNat_eq_natCast, hlt, hj, decide_true, cond_true, hp.ri hi hj, re, ro, ew, hd, List.all_cons]
      cases b with
      | true =>
        simp only [cond_true, Bool.true_and]
        by_cases h0 : st.getD (ll.getD i [])[j].toNat 0 = 0
        · simp only [h0, decide_true, Bool.not_true, cond_false, show ¬ ((0 : Int) = 1) by omega, decide_false, Bool.false_and]
          rw [ih (j + 1) _ (by omega) (by omega)]; simp
        · simp only [h0, decide_false, Bool.not_false, cond_true]
          exact ih (j + 1) _ (by omega) (by omega)
      | false =>
        simp only [cond_false, Bool.false_and]
        rw [ih (j + 1) _ (by omega) (by omega)]; simp
    · have : j = (ll.getD i []).length := by omega
      subst this
      simp only [need_some, hp.c0, bindV_some, cast_slice, hp.rs hi, Int.ofNat_eq_natCast, hlt, hj, decide_false, cond_false, List.drop_length, List.all_nil, Bool.and_true]
/-- values that may be -/
def Val (st : List Int) : Prop := ∀ i, i < st.length → st.getD i 0 = 0 ∨ st.getD i 0 = 1 ∨ st.getD i 0 = 2
theorem ready_now (hf : Fine ll) (hv : Val st) (hsl : st.length = ll.length) {i : Nat} (hi : i < ll.length) : (!(!decide (st.getD i 0 = 0)) && (ll.getD i []).all fun k => decide (st.getD k.toNat 0 = 1)) = decide (nowM ll st i = 1) := by
  have hk : ∀ k ∈ ll.getD i [], st.getD k.toNat 0 = 0 ∨ st.getD k.toNat 0 = 1 ∨ st.getD k.toNat 0 = 2 := fun k hk => hv k.toNat (by have := hf.inr i hi k hk; omega)
  rw [Bool.not_not, Bool.eq_iff_iff]
  simp only [Bool.and_eq_true, decide_eq_true_eq, List.all_eq_true]
  unfold nowM
  constructor
  · rintro ⟨h0, h1⟩
    rw [if_neg (by omega), if_neg (by omega), if_neg, if_neg]
    · intro h2
      obtain ⟨k, h3, h4⟩ := List.any_eq_true.1 h2
      have := h1 k h3
      rw [decide_eq_true_eq] at h4; omega
    · intro h2
      obtain ⟨k, h3, h4⟩ := List.any_eq_true.1 h2
      have := h1 k h3
      rw [decide_eq_true_eq] at h4; omega
  · intro hx
    split at hx
    · omega
    · split at hx
      · omega
      · split at hx
        · omega
        · split at hx
          · omega
          · rename_i a1 a2 a3 a4
            refine ⟨by rcases hv i (by omega) with e | e | e <;> omega, fun k h3 => ?_⟩
            rcases hk k h3 with e | e | e
            · exact absurd (List.any_eq_true.2 ⟨k, h3, by rw [decide_eq_true_eq]; exact e⟩) a4
            · exact e
            · exact absurd (List.any_eq_true.2 ⟨k, h3, by rw [decide_eq_true_eq]; exact e⟩) a3
theorem ready1 (hf : Fine ll) (hN : 1000 ≤ N) (hv : Val st) (hsl : st.length = ll.length) (hp : Rp C B h0 Q s ss ll ev ov st) : ∀ (M i : Nat) (h : Heap) (rv : SL) (out : List Int), i ≤ ll.length → ll.length - i < M → out.length ≤ i → Keep h0.next h0 h → Own1 h0.next h rv (out.map (AV.int .i64)) →
    ∃ h' rv', f32_l1 N M (some (Q, 0)) rv (i : Int) h = some (.exit 0, (rv', ()), h') ∧ Keep h0.next h0 h' ∧ Own1 h0.next h' rv' ((out ++ allM ll st 1 i (ll.length - i)).map (AV.int .i64)) := by
  intro M
  induction M with
  | zero => intro i h rv out h1 h2; omega
  | succ M ih =>
    intro i h rv out h1 h2 h3 hk ho
    rw [f32_l1_succ]
    unfold f32_l1_b
    have hlen := hf.len
    have hp1 := hp.keep (Keep.but hk)
    have hlt : ltInt (i : Int) (s.len : Int) = decide (i < ll.length) := by rw [hp.r.r.slen, nat_i]
    by_cases hi : i < ll.length
    · have ew : wrapA .i64 ((i : Int) + 1) = ((i + 1 : Nat) : Int) := wrapA_small (by omega) (by omega)
      have hrl := hf.row i hi
      have re := fun {β : Type} (K : Bool → Option β) => hp1.re (x := (i : Int)) (by omega) (by omega) K
      have e2 := ready2 (N := N) hf hp1 hsl hi rv N 0 (!(!decide (st.getD i 0 = 0))) (by omega) (by omega)
      simp only [Int.ofNat_zero, List.drop_zero] at e2
      rw [ready_now hf hv hsl hi] at e2
      have hal : allM ll st 1 i (ll.length - i) = (if nowM ll st i = 1 then [(i : Int)] else []) ++ allM ll st 1 (i + 1) (ll.length - (i + 1)) := by
        unfold allM
        rw [show ll.length - i = (ll.length - (i + 1)) + 1 by omega, List.range'_succ, List.filter_cons]
        split
        · rename_i hh; rw [decide_eq_true_eq] at hh; rw [if_pos hh]; rfl
        · rename_i hh; rw [decide_eq_true_eq] at hh; rw [if_neg hh]; rfl
      simp only [need_some, hp1.c0, hp1.c1, bindV_some, cast_slice, Int.ofNat_eq_natCast, hlt, hi, decide_true, cond_true, re, Int.toNat_natCast, e2, bind3_some, ew]
      by_cases hn : nowM ll st i = 1
      · simp only [hn, decide_true, cond_true]
        have hnx := hk.next
        obtain ⟨rv', h1', e3, o3, b3, c3⟩ := append_own1 app26 (v := AV.int .i64 (i : Int)) rfl ho hnx (by rw [List.length_map]; omega)
        have k3 : Keep h0.next h h1' := b3.keep hnx (fun A hA => (ho.ge A hA).1)
        rw [e3]
        simp only [bindT_some, cast_slice]
        rw [hal, if_pos hn, ← List.append_assoc]
        exact ih (i + 1) h1' rv' (out ++ [(i : Int)]) (by omega) (by omega) (by simp; omega) (hk.trans k3) (by rw [List.map_append]; exact o3)
      · simp only [hn, decide_false, cond_false]
        rw [hal, if_neg hn, List.nil_append]
        exact ih (i + 1) h rv out (by omega) (by omega) (by omega) hk ho
    · have : i = ll.length := by omega
      subst this
      refine ⟨h, rv, ?_, hk, ?_⟩
      · simp only [need_some, hp1.c0, bindV_some, cast_slice, Int.ofNat_eq_natCast, hlt, hi, decide_false, cond_false]
      · simpa [allM] using ho
theorem rReady_spec {h : Heap} (hf : Fine ll) (hN : 1000 ≤ N) (hv : Val st) (hsl : st.length = ll.length) (hp : Rp C B h Q s ss ll ev ov st) :
    ∃ s' h', f32 N (some (Q, 0)) h = some (s', h') ∧ Keep h.next h h' ∧ Own1 h.next h' s' ((allM ll st 1 0 ll.length).map (AV.int .i64)) := by
  have hlen := hf.len
  obtain ⟨h', rv, e, k, o⟩ := ready1 (N := N) hf hN hv hsl hp N 0 h nilS [] (by omega) (by omega) (by simp) (Keep.refl _ _) (Own1.nil _ _ _)
  simp only [Int.ofNat_zero, List.nil_append, Nat.sub_zero] at e o
  refine ⟨rv, h', ?_, k, o⟩
  have e' : f32_l1 N N (some (Q, 0)) ⟨none, 0, 0, 0⟩ 0 h = some (.exit 0, (rv, ()), h') := e
  unfold f32
  rw [e']; rfl
end Go.Proofs.Ythpplekbeecdfaa.Gb

open Go Go.Proofs.Ythpplekbeecdfaa.Ai Go.Proofs
namespace Go.Proofs.Ythpplekbeecdfaa.Gb
variable {N : Nat} {s ev ov : SL} {ss : List SL} {ll : List (List Int)} {B C Q : Nat} {h0 : Heap} {st : List Int} {l : List Int}
theorem blk2 {h : Heap} (hf : Fine ll) (hv : Val st) (hp : Rp C B h Q s ss ll ev ov st) (hsl : st.length = ll.length) {i : Nat} (hi : i < ll.length) (v3 : SL) : ∀ (M j : Nat) (b : Bool), j ≤ (ll.getD i []).length → (ll.getD i []).length - j < M →
    f34_l2 N M (some (Q, 0)) v3 (i : Int) b (j : Int) h = some (.exit 2, (some (Q, 0), v3, (i : Int), b || ((ll.getD i []).drop j).any (fun k => decide (st.getD k.toNat 0 = 2)), ()), h) := by
  intro M
  induction M with
  | zero => intro j b h1 h2; omega
  | succ M ih =>
    intro j b h1 h2
    rw [f34_l2_succ]
    unfold f34_l2_b
    have hrl := hf.row i hi
    have hlen := hf.len
    have hrow : (ss.getD i nilS).len = (ll.getD i []).length := Ints.len (hp.r.r.row i hi)
    have hlt : ltInt (j : Int) ((ss.getD i nilS).len : Int) = decide (j < (ll.getD i []).length) := by rw [hrow, nat_i]
    by_cases hj : j < (ll.getD i []).length
    · have ew : wrapA .i64 ((j : Int) + 1) = ((j + 1 : Nat) : Int) := wrapA_small (by omega) (by omega)
      have hin := hf.inr i hi _ (List.getElem_mem hj)
      have hd : (ll.getD i []).drop j = (ll.getD i [])[j] :: (ll.getD i []).drop (j + 1) := List.drop_eq_getElem_cons hj
      have re := fun {β : Type} (K : Bool → Option β) => hp.re (x := (ll.getD i [])[j]) hin.1 (by omega) K
      have ro := fun {β : Type} (K : Bool → Option β) => hp.ro (x := (ll.getD i [])[j]) hin.1 (by omega) K
      have hvk := hv (ll.getD i [])[j].toNat (by omega)
      simp only [need_some, hp.c0, hp.c1, hp.c2, bindV_some, cast_slice, hp.rs hi, Int.ofNat_eq_natCast, hlt, hj, decide_true, cond_true, hp.ri hi hj, re, ro, ew, hd, List.any_cons]
      cases b with
      | false =>
        simp only [cond_false, Bool.false_or]
        by_cases h0 : st.getD (ll.getD i [])[j].toNat 0 = 0
        · simp only [h0, decide_true, Bool.not_true, cond_false, show ¬ ((0 : Int) = 2) by omega, decide_false, Bool.false_or]
          rw [ih (j + 1) _ (by omega) (by omega)]; simp
        · have hnot : (!decide (st.getD (ll.getD i [])[j].toNat 0 = 1)) = decide (st.getD (ll.getD i [])[j].toNat 0 = 2) := by
            rcases hvk with e | e | e
            · exact absurd e h0
            · rw [e]; rfl
            · rw [e]; rfl
          simp only [h0, decide_false, Bool.not_false, cond_true, hnot]
          exact ih (j + 1) _ (by omega) (by omega)
      | true =>
        simp only [cond_true, Bool.true_or]
        rw [ih (j + 1) _ (by omega) (by omega)]; simp
    · have : j = (ll.getD i []).length := by omega
      subst this
      simp only [need_some, hp.c0, bindV_some, cast_slice, hp.rs hi, Int.ofNat_eq_natCast, hlt, hj, decide_false, cond_false, List.drop_length, List.any_nil, Bool.or_false]
theorem blk_now (hv : Val st) (hsl : st.length = ll.length) {i : Nat} (hi : i < ll.length) : nowM ll st i = 2 ↔ (((ll.getD i []).any fun k => decide (st.getD k.toNat 0 = 2)) = true ∧ st.getD i 0 = 0) := by
  unfold nowM
  constructor
  · intro hx
    split at hx
    · omega
    · split at hx
      · omega
      · split at hx
        · rename_i a1 a2 a3
          exact ⟨a3, by rcases hv i (by omega) with e | e | e <;> omega⟩
        · split at hx <;> omega
  · rintro ⟨h1, h2⟩
    rw [if_neg (by omega), if_neg (by omega), if_pos h1]
theorem blk1 (hf : Fine ll) (hN : 1000 ≤ N) (hv : Val st) (hsl : st.length = ll.length) (hp : Rp C B h0 Q s ss ll ev ov st) : ∀ (M i : Nat) (h : Heap) (rv : SL) (out : List Int), i ≤ ll.length → ll.length - i < M → out.length ≤ i → Keep h0.next h0 h → Own1 h0.next h rv (out.map (AV.int .i64)) →
    ∃ h' rv', f34_l1 N M (some (Q, 0)) rv (i : Int) h = some (.exit 0, (rv', ()), h') ∧ Keep h0.next h0 h' ∧ Own1 h0.next h' rv' ((out ++ allM ll st 2 i (ll.length - i)).map (AV.int .i64)) := by
  intro M
  induction M with
  | zero => intro i h rv out h1 h2; omega
  | succ M ih =>
    intro i h rv out h1 h2 h3 hk ho
    rw [f34_l1_succ]
    unfold f34_l1_b
    have hlen := hf.len
    have hp1 := hp.keep (Keep.but hk)
    have hlt : ltInt (i : Int) (s.len : Int) = decide (i < ll.length) := by rw [hp.r.r.slen, nat_i]
    by_cases hi : i < ll.length
    · have ew : wrapA .i64 ((i : Int) + 1) = ((i + 1 : Nat) : Int) := wrapA_small (by omega) (by omega)
      have hrl := hf.row i hi
      have re := fun {β : Type} (K : Bool → Option β) => hp1.re (x := (i : Int)) (by omega) (by omega) K
      have e2 := blk2 (N := N) hf hv hp1 hsl hi rv N 0 false (by omega) (by omega)
      simp only [Int.ofNat_zero, List.drop_zero, Bool.false_or] at e2
      have hal : allM ll st 2 i (ll.length - i) = (if nowM ll st i = 2 then [(i : Int)] else []) ++ allM ll st 2 (i + 1) (ll.length - (i + 1)) := by
        unfold allM
        rw [show ll.length - i = (ll.length - (i + 1)) + 1 by omega, List.range'_succ, List.filter_cons]
        split
        · rename_i hh; rw [decide_eq_true_eq] at hh; rw [if_pos hh]; rfl
        · rename_i hh; rw [decide_eq_true_eq] at hh; rw [if_neg hh]; rfl
      have hnow := blk_now hv hsl hi
      simp only [need_some, hp1.c0, hp1.c1, bindV_some, cast_slice, Int.ofNat_eq_natCast, hlt, hi, decide_true, cond_true, re, Int.toNat_natCast, e2, bind3_some, ew]
      cases hany : ((ll.getD i []).any fun k => decide (st.getD k.toNat 0 = 2)) with
      | true =>
        by_cases hz : st.getD i 0 = 0
        · have hn : nowM ll st i = 2 := hnow.2 ⟨hany, hz⟩
          simp only [hz, decide_true, Bool.not_true, Bool.not_false, cond_true]
          have hnx := hk.next
          obtain ⟨rv', h1', e3, o3, b3, c3⟩ := append_own1 app26 (v := AV.int .i64 (i : Int)) rfl ho hnx (by rw [List.length_map]; omega)
          have k3 : Keep h0.next h h1' := b3.keep hnx (fun A hA => (ho.ge A hA).1)
          rw [e3]
          simp only [bindT_some, cast_slice]
          rw [hal, if_pos hn, ← List.append_assoc]
          exact ih (i + 1) h1' rv' (out ++ [(i : Int)]) (by omega) (by omega) (by simp; omega) (hk.trans k3) (by rw [List.map_append]; exact o3)
        · have hn : ¬ nowM ll st i = 2 := fun h => hz (hnow.1 h).2
          simp only [hz, decide_false, Bool.not_false, Bool.not_true, cond_true, cond_false]
          rw [hal, if_neg hn, List.nil_append]
          exact ih (i + 1) h rv out (by omega) (by omega) (by omega) hk ho
      | false =>
        have hn : ¬ nowM ll st i = 2 := fun h => by have := (hnow.1 h).1; rw [hany] at this; cases this
        simp only [cond_false]
        rw [hal, if_neg hn, List.nil_append]
        exact ih (i + 1) h rv out (by omega) (by omega) (by omega) hk ho
    · have : i = ll.length := by omega
      subst this
      refine ⟨h, rv, ?_, hk, ?_⟩
      · simp only [need_some, hp1.c0, bindV_some, cast_slice, Int.ofNat_eq_natCast, hlt, hi, decide_false, cond_false]
      · simpa [allM] using ho
theorem rBlocked_spec {h : Heap} (hf : Fine ll) (hN : 1000 ≤ N) (hv : Val st) (hsl : st.length = ll.length) (hp : Rp C B h Q s ss ll ev ov st) :
    ∃ s' h', f34 N (some (Q, 0)) h = some (s', h') ∧ Keep h.next h h' ∧ Own1 h.next h' s' ((allM ll st 2 0 ll.length).map (AV.int .i64)) := by
  have hlen := hf.len
  obtain ⟨h', rv, e, k, o⟩ := blk1 (N := N) hf hN hv hsl hp N 0 h nilS [] (by omega) (by omega) (by simp) (Keep.refl _ _) (Own1.nil _ _ _)
  simp only [Int.ofNat_zero, List.nil_append, Nat.sub_zero] at e o
  refine ⟨rv, h', ?_, k, o⟩
  have e' : f34_l1 N N (some (Q, 0)) ⟨none, 0, 0, 0⟩ 0 h = some (.exit 0, (rv, ()), h') := e
  unfold f34
  rw [e']; rfl
theorem has48_loop {h : Heap} (hs : Ints h s l) (hl : l.length ≤ 1000) (x : Int) (b : Bool) : ∀ (M i : Nat), i ≤ l.length → l.length - i < M →
    (x ∈ l.drop i ∧ f48_l1 N M s x b (i : Int) h = some (.ret, (true, ()), h)) ∨ (x ∉ l.drop i ∧ f48_l1 N M s x b (i : Int) h = some (.exit 0, (b, ()), h)) := by
  intro M
  induction M with
  | zero => intro i h1 h2; omega
  | succ M ih =>
    intro i h1 h2
    rw [f48_l1_succ]
    unfold f48_l1_b
    have hlt : ltInt (i : Int) (s.len : Int) = decide (i < l.length) := by rw [Ints.len hs, nat_i]
    by_cases hi : i < l.length
    · have ew : wrapA .i64 ((i : Int) + 1) = ((i + 1 : Nat) : Int) := wrapA_small (by omega) (by omega)
      have hd : l.drop i = l[i] :: l.drop (i + 1) := List.drop_eq_getElem_cons hi
      have ri : ∀ {β : Type} (K : Int → Option β), (ixK s.a s.len (i : Int) 1 fun q => bindV (.val (.one (.int .i64))) (h.cell q) K) = K l[i] := fun K => by
        rw [hs.int (x := (i : Int)) (by omega) (by omega)]; simp only [Int.toNat_natCast, getD_lt _ _ hi]
      simp only [Int.ofNat_eq_natCast, hlt, hi, decide_true, cond_true, ri, eqInt_dec, ew]
      by_cases he : l[i] = x
      · left
        simp only [he, decide_true, cond_true]
        exact ⟨by rw [hd, he]; exact List.mem_cons_self .., trivial⟩
      · simp only [he, decide_false, cond_false]
        rcases ih (i + 1) (by omega) (by omega) with ⟨h3, h4⟩ | ⟨h3, h4⟩
        · exact .inl ⟨by rw [hd]; exact List.mem_cons_of_mem _ h3, h4⟩
        · refine .inr ⟨?_, h4⟩
          rw [hd, List.mem_cons]
          rintro (e | e)
          · exact he e.symm
          · exact h3 e
    · have : i = l.length := by omega
      subst this
      right
      refine ⟨by simp, ?_⟩
      simp only [Int.ofNat_eq_natCast, hlt, hi, decide_false, cond_false]
theorem has48_spec {h : Heap} (hN : 1001 ≤ N) (hs : Ints h s l) (hl : l.length ≤ 1000) (x : Int) : f48 N s x h = some (decide (x ∈ l), h) := by
  unfold f48
  rcases has48_loop (N := N) hs hl x false N 0 (by omega) (by omega) with ⟨h1, e⟩ | ⟨h1, e⟩
  · simp only [Int.ofNat_zero, List.drop_zero] at e h1
    rw [e]
    simp only [bind3_some, eqOut_ret, h1, decide_true, cond_false]
  · simp only [Int.ofNat_zero, List.drop_zero] at e h1
    rw [e]
    simp only [bind3_some, eqOut_exit, h1, decide_false, decide_true, cond_true]
theorem left35 {h : Heap} (hp : Rp C B h Q s ss ll ev ov st) (hl : st.length ≤ 1000) : ∀ (M i v : Nat), i ≤ st.length → st.length - i < M → v ≤ i →
    f35_l1 N M (some (Q, 0)) (v : Int) (i : Int) h = some (.exit 0, (((v + (st.drop i).count 0 : Nat) : Int), ()), h) := by
  intro M
  induction M with
  | zero => intro i v h1 h2; omega
  | succ M ih =>
    intro i v h1 h2 h3
    rw [f35_l1_succ]
    unfold f35_l1_b
    have hel : ev.len = st.length := by have := hp.e.len; unfold didL at this; simpa using this
    have hlt : ltInt (i : Int) (ev.len : Int) = decide (i < st.length) := by rw [hel, nat_i]
    by_cases hi : i < st.length
    · have ew : wrapA .i64 ((i : Int) + 1) = ((i + 1 : Nat) : Int) := wrapA_small (by omega) (by omega)
      have ev' : wrapA .i64 ((v : Int) + 1) = ((v + 1 : Nat) : Int) := wrapA_small (by omega) (by omega)
      have hd : st.drop i = st[i] :: st.drop (i + 1) := List.drop_eq_getElem_cons hi
      have re := fun {β : Type} (K : Bool → Option β) => hp.re (x := (i : Int)) (by omega) (by omega) K
      simp only [need_some, hp.c1, bindV_some, cast_slice, Int.ofNat_eq_natCast, hlt, hi, decide_true, cond_true, re, Int.toNat_natCast, Bool.not_not, ew, ev']
      have hg : st.getD i 0 = st[i] := getD_lt _ _ hi
      by_cases h0 : st.getD i 0 = 0
      · have hne : st[i] = 0 := by rw [← hg]; exact h0
        have hc : (st.drop i).count 0 = (st.drop (i + 1)).count 0 + 1 := by rw [hd, List.count_cons]; simp [hne]
        simp only [h0, decide_true, cond_true]
        rw [ih (i + 1) (v + 1) (by omega) (by omega) (by omega), hc]
        rw [show v + 1 + (st.drop (i + 1)).count 0 = v + ((st.drop (i + 1)).count 0 + 1) by omega]
      · have hne : st[i] ≠ 0 := by rw [← hg]; exact h0
        have hc : (st.drop i).count 0 = (st.drop (i + 1)).count 0 := by rw [hd, List.count_cons]; simp [hne]
        simp only [h0, decide_false, cond_false]
        rw [ih (i + 1) v (by omega) (by omega) (by omega), hc]
    · have : i = st.length := by omega
      subst this
      simp only [need_some, hp.c1, bindV_some, cast_slice, Int.ofNat_eq_natCast, hlt, hi, decide_false, cond_false, List.drop_length, List.count_nil, Nat.add_zero]
theorem rLeft_spec {h : Heap} (hN : 1001 ≤ N) (hp : Rp C B h Q s ss ll ev ov st) (hl : st.length ≤ 1000) : f35 N (some (Q, 0)) h = some ((st.count 0 : Int), h) := by
  have e := left35 (N := N) hp hl N 0 0 (by omega) (by omega) (by omega)
  simp only [Int.ofNat_zero, List.drop_zero, Nat.zero_add] at e
  unfold f35
  have e' : f35_l1 N N (some (Q, 0)) 0 0 h = some (.exit 0, (((st.count 0 : Nat) : Int), ()), h) := e
  rw [e']; rfl
end Go.Proofs.Ythpplekbeecdfaa.Gb

open Go Go.Proofs.Ythpplekbeecdfaa.Ai Go.Proofs
namespace Go.Proofs.Ythpplekbeecdfaa.Gb
variable {N : Nat} {s ev ov dv sv : SL} {ss ds : List SL} {ll : List (List Int)} {B C Q P : Nat} {h0 : Heap} {st : List Int} {l : List Int}
/-- what both say of a thing that is done -/
def doneC (ll : List (List Int)) (st : List Int) (i : Int) (ok : Bool) : Int :=
  if 0 ≤ i ∧ i < ll.length then (if nowM ll st i.toNat = 1 ∨ (nowM ll st i.toNat = 2 ∧ ok = false) then 0 else 13) else 2
def doneS (ll : List (List Int)) (st : List Int) (i : Int) (ok : Bool) : List Int := if doneC ll st i ok = 0 then st.set i.toNat (if ok then 1 else 2) else st
theorem doneS_len (i : Int) (ok : Bool) : (doneS ll st i ok).length = st.length := by unfold doneS; split <;> simp
theorem doneS_val (hv : Val st) (i : Int) (ok : Bool) : Val (doneS ll st i ok) := by
  intro k hk
  rw [doneS_len] at hk
  unfold doneS
  split
  · by_cases e : k = i.toNat
    · subst e
      rw [List.getD_eq_getElem?_getD, List.getElem?_set_self hk]
      cases ok <;> simp
    · rw [List.getD_eq_getElem?_getD, List.getElem?_set_ne (fun x => e x.symm), ← List.getD_eq_getElem?_getD]
      exact hv k hk
  · exact hv k hk
theorem Done_spec {h : Heap} (hf : Fine ll) (hN : 1000 ≤ N) (hp : Pl B h P dv sv ds ll st) (hsl : st.length = ll.length) (i : Int) (ok : Bool) :
    ∃ v h', f30 N (some (P, 0)) i ok h = some (v, h') ∧ But sv.blk h h' ∧ Pl B h' P dv sv ds ll (doneS ll st i ok) ∧ ((doneC ll st i ok = 0 ∧ v = .nilIface) ∨ (v = errV h ∧ h' = errH h (doneC ll st i ok) 0)) := by
  have hl : sv.len = st.length := by have := hp.s.len; rw [List.length_map] at this; omega
  have bad : ∀ c : Int, c ≠ 0 → But sv.blk h (errH h c 0) ∧ Pl B (errH h c 0) P dv sv ds ll st := fun c hc => by
    have k := errH_keep h c 0
    refine ⟨⟨fun A hA _ => k.g A hA, k.next⟩, hp.keep (Keep.but k)⟩
  by_cases hin : 0 ≤ i ∧ i < ll.length
  · obtain ⟨h0, h1⟩ := hin
    by_cases hn : nowM ll st i.toNat = 1 ∨ (nowM ll st i.toNat = 2 ∧ ok = false)
    · have hc : doneC ll st i ok = 0 := by unfold doneC; rw [if_pos ⟨h0, h1⟩, if_pos hn]
      have hs : doneS ll st i ok = st.set i.toNat (if ok then 1 else 2) := by unfold doneS; rw [if_pos hc]
      obtain ⟨h', e, b, p⟩ := Done_ok (N := N) hf hN hp hsl h0 (by omega) ok hn
      exact ⟨_, h', e, b, by rw [hs]; exact p, .inl ⟨hc, rfl⟩⟩
    · have hc : doneC ll st i ok = 13 := by unfold doneC; rw [if_pos ⟨h0, h1⟩, if_neg hn]
      have hs : doneS ll st i ok = st := by unfold doneS; rw [if_neg (by omega)]
      obtain ⟨b1, b2⟩ := bad 13 (by omega)
      refine ⟨errV h, errH h 13 0, ?_, b1, by rw [hs]; exact b2, .inr ⟨rfl, by rw [hc]⟩⟩
      have c1 : ltInt i 0 = false := by rw [ltInt_dec]; simp only [decide_eq_false_iff_not]; omega
      have c2 : leInt (sv.len : Int) i = false := by rw [leInt_dec, hl]; simp only [decide_eq_false_iff_not]; omega
      have hnow := now_spec (N := N) hf hN hp hsl (i := i.toNat) (by omega)
      rw [show ((i.toNat : Nat) : Int) = i by omega] at hnow
      have n1 : ¬ nowM ll st i.toNat = 1 := fun e => hn (.inl e)
      unfold f30
      simp only [Option.isNone_some, c1, c2, cond_false, need_some, hp.c1, bindV_some, cast_slice, Int.ofNat_eq_natCast, hnow, bind2_some, eqI, n1, decide_false, Bool.not_false, cond_true, f46_13]
      by_cases n2 : nowM ll st i.toNat = 2
      · have : ok = true := by cases ok with
          | true => rfl
          | false => exact absurd (.inr ⟨n2, rfl⟩) hn
        subst this
        simp only [n2, decide_true, Bool.not_true, cond_false, cond_true, bind2_some]
      · simp only [n2, decide_false, Bool.not_false, cond_true, bind2_some]
  · have hc : doneC ll st i ok = 2 := by unfold doneC; rw [if_neg hin]
    have hs : doneS ll st i ok = st := by unfold doneS; rw [if_neg (by omega)]
    obtain ⟨b1, b2⟩ := bad 2 (by omega)
    refine ⟨errV h, errH h 2 0, ?_, b1, by rw [hs]; exact b2, .inr ⟨rfl, by rw [hc]⟩⟩
    unfold f30
    by_cases h0 : 0 ≤ i
    · have c1 : ltInt i 0 = false := by rw [ltInt_dec]; simp only [decide_eq_false_iff_not]; omega
      have c2 : leInt (sv.len : Int) i = true := by rw [leInt_dec, hl]; simp only [decide_eq_true_eq]; omega
      simp only [Option.isNone_some, c1, c2, cond_false, cond_true, need_some, hp.c1, bindV_some, cast_slice, Int.ofNat_eq_natCast, f46_2, bind2_some]
    · have c1 : ltInt i 0 = true := by rw [ltInt_dec]; simp only [decide_eq_true_eq]; omega
      simp only [Option.isNone_some, c1, cond_false, cond_true, f46_2, bind2_some]
theorem rDone_spec {h : Heap} (hf : Fine ll) (hN : 1001 ≤ N) (hv : Val st) (hsl : st.length = ll.length) (hp : Rp C B h Q s ss ll ev ov st) (i : Int) (ok : Bool) :
    ∃ h1 h2 h', f31 N (some (Q, 0)) i ok h = some (doneC ll st i ok, h') ∧ But none h h1 ∧ But ev.blk h1 h2 ∧ But ov.blk h2 h' ∧ Rp C B h' Q s ss ll ev ov (doneS ll st i ok) := by
  have hlen := hf.len
  have hel : ev.len = st.length := by have := hp.e.len; unfold didL at this; simpa using this
  have hol : ov.len = st.length := by have := hp.o.len; unfold okL at this; simpa using this
  by_cases hin : 0 ≤ i ∧ i < ll.length
  · obtain ⟨h0, h1⟩ := hin
    have c1 : ltInt i 0 = false := by rw [ltInt_dec]; simp only [decide_eq_false_iff_not]; omega
    have c2 : leInt (s.len : Int) i = false := by rw [leInt_dec, hp.r.r.slen]; simp only [decide_eq_false_iff_not]; omega
    obtain ⟨s1, h6, e6, k6, o6⟩ := rReady_spec (N := N) hf (by omega) hv hsl hp
    have p6 := hp.keep (Keep.but k6)
    have e8 := has48_spec (N := N) hN (o6.one : Ints h6 s1 _) (by have := allM_len (ll := ll) (st := st) (w := 1) (n := ll.length); omega) i
    have m1 : (i ∈ allM ll st 1 0 ll.length) ↔ nowM ll st i.toNat = 1 := by rw [mem_allM]; exact ⟨fun h => h.2.2, fun h => ⟨h0, h1, h⟩⟩
    -- how it is written
    have wr : ∀ hx : Heap, Rp C B hx Q s ss ll ev ov st → ∃ h2 h3, hx.store (ev.at i.toNat 1) [.bool true] = some h2 ∧ h2.store (ov.at i.toNat 1) [.bool ok] = some h3 ∧ But ev.blk hx h2 ∧ But ov.blk h2 h3 ∧ Rp C B h3 Q s ss ll ev ov (st.set i.toNat (if ok then 1 else 2)) := by
      intro hx px
      obtain ⟨h2, x2, o2, b2, n2⟩ := store_own1 px.e (i := i.toNat) (by unfold didL; simp; omega) (AV.bool true)
      have oo : Own1 B h2 ov ((okL st).map AV.bool) := px.o.but b2 (fun A hA e => px.n3 A e hA)
      obtain ⟨h3, x3, o3, b3, n3⟩ := store_own1 oo (i := i.toNat) (by unfold okL; simp; omega) (AV.bool ok)
      have g3 : h3.g Q = hx.g Q := by rw [b3.g Q (by have := px.hi; omega) (fun e => px.n2 e), b2.g Q px.hi (fun e => px.n1 e)]
      have hcx : C ≤ hx.next := by have := px.cb; have := px.lo; have := px.hi; omega
      have kk : Keep C hx h3 := (b2.keep hcx (fun A hA => by have := (px.e.ge A hA).1; have := px.cb; omega)).trans (b3.keep (by omega) (fun A hA => by have := (px.o.ge A hA).1; have := px.cb; omega))
      refine ⟨h2, h3, x2, x3, b2, b3, ⟨px.lo, by have := px.hi; omega, by rw [g3]; exact px.g, ?_, ?_, px.r.keep kk, px.cb, px.n1, px.n2, px.n3⟩⟩
      · have hd : (didL (st.set i.toNat (if ok then 1 else 2))).map AV.bool = ((didL st).map AV.bool).set i.toNat (AV.bool true) := by
          unfold didL
          rw [List.map_set, List.map_set]
          cases ok <;> rfl
        rw [hd]; exact o2.but b3 (fun A hA e => px.n3 A hA e)
      · have hd : (okL (st.set i.toNat (if ok then 1 else 2))).map AV.bool = ((okL st).map AV.bool).set i.toNat (AV.bool ok) := by
          unfold okL
          rw [List.map_set, List.map_set]
          cases ok <;> rfl
        rw [hd]; exact o3
    have ixe : ∀ {β : Type} (hx : Heap) (_ : Rp C B hx Q s ss ll ev ov st) (K : Nat × Nat → Option β), ixK ev.a ev.len i 1 K = K (ev.at i.toNat 1) := fun hx px K => px.e.one.ixz h0 (by unfold didL; simp; omega) K
    have ixo : ∀ {β : Type} (hx : Heap) (_ : Rp C B hx Q s ss ll ev ov st) (K : Nat × Nat → Option β), ixK ov.a ov.len i 1 K = K (ov.at i.toNat 1) := fun hx px K => px.o.one.ixz h0 (by unfold okL; simp; omega) K
    unfold f31
    simp only [c1, cond_false, need_some, hp.c0, bindV_some, cast_slice, Int.ofNat_eq_natCast, c2, e6, bind2_some, e8]
    by_cases n1 : nowM ll st i.toNat = 1
    · have hc : doneC ll st i ok = 0 := by unfold doneC; rw [if_pos ⟨h0, h1⟩, if_pos (.inl n1)]
      have hs : doneS ll st i ok = st.set i.toNat (if ok then 1 else 2) := by unfold doneS; rw [if_pos hc]
      obtain ⟨h2, h3, x2, x3, b2, b3, p3⟩ := wr h6 p6
      simp only [m1.2 n1, decide_true, Bool.not_true, cond_false, p6.c1, p6.c2, bindV_some, cast_slice, ixe h6 p6, x2, need_some, ixo h6 p6, x3, hc, hs]
      exact ⟨h6, h2, h3, rfl, Keep.but k6, b2, b3, p3⟩
    · have nm : ¬ (i ∈ allM ll st 1 0 ll.length) := fun e => n1 (m1.1 e)
      simp only [nm, decide_false, Bool.not_false, cond_true]
      cases ok with
      | true =>
        have hc : doneC ll st i true = 13 := by unfold doneC; rw [if_pos ⟨h0, h1⟩, if_neg (by rintro (e | ⟨_, e⟩); exact n1 e; cases e)]
        have hs : doneS ll st i true = st := by unfold doneS; rw [if_neg (by omega)]
        simp only [cond_true, hc, hs]
        exact ⟨h6, h6, h6, rfl, Keep.but k6, But.refl _ _, But.refl _ _, p6⟩
      | false =>
        obtain ⟨s2, h11, e11, k11, o11⟩ := rBlocked_spec (N := N) hf (by omega) hv hsl p6
        have p11 := p6.keep (Keep.but k11)
        have e13 := has48_spec (N := N) hN (o11.one : Ints h11 s2 _) (by have := allM_len (ll := ll) (st := st) (w := 2) (n := ll.length); omega) i
        have m2 : (i ∈ allM ll st 2 0 ll.length) ↔ nowM ll st i.toNat = 2 := by rw [mem_allM]; exact ⟨fun h => h.2.2, fun h => ⟨h0, h1, h⟩⟩
        have k1 : But none h h11 := Keep.but (k6.trans (k11.mono k6.next))
        simp only [cond_false, e11, bind2_some, e13]
        by_cases n2 : nowM ll st i.toNat = 2
        · have hc : doneC ll st i false = 0 := by unfold doneC; rw [if_pos ⟨h0, h1⟩, if_pos (.inr ⟨n2, rfl⟩)]
          have hs : doneS ll st i false = st.set i.toNat (if false = true then 1 else 2) := by unfold doneS; rw [if_pos hc]
          obtain ⟨h2, h3, x2, x3, b2, b3, p3⟩ := wr h11 p11
          simp only [m2.2 n2, decide_true, Bool.not_true, cond_false, p11.c1, p11.c2, bindV_some, cast_slice, ixe h11 p11, x2, need_some, ixo h11 p11, x3, hc]
          rw [hs]
          exact ⟨h11, h2, h3, rfl, k1, b2, b3, p3⟩
        · have nm2 : ¬ (i ∈ allM ll st 2 0 ll.length) := fun e => n2 (m2.1 e)
          have hc : doneC ll st i false = 13 := by unfold doneC; rw [if_pos ⟨h0, h1⟩, if_neg (by rintro (e | ⟨e, _⟩); exact n1 e; exact n2 e)]
          have hs : doneS ll st i false = st := by unfold doneS; rw [if_neg (by omega)]
          simp only [nm2, decide_false, Bool.not_false, cond_true, hc, hs]
          exact ⟨h11, h11, h11, rfl, k1, But.refl _ _, But.refl _ _, p11⟩
  · have hc : doneC ll st i ok = 2 := by unfold doneC; rw [if_neg hin]
    have hs : doneS ll st i ok = st := by unfold doneS; rw [if_neg (by omega)]
    refine ⟨h, h, h, ?_, But.refl _ _, But.refl _ _, But.refl _ _, by rw [hs]; exact hp⟩
    rw [hc]
    unfold f31
    by_cases h0 : 0 ≤ i
    · have c1 : ltInt i 0 = false := by rw [ltInt_dec]; simp only [decide_eq_false_iff_not]; omega
      have c2 : leInt (s.len : Int) i = true := by rw [leInt_dec, hp.r.r.slen]; simp only [decide_eq_true_eq]; omega
      simp only [c1, cond_false, need_some, hp.c0, bindV_some, cast_slice, Int.ofNat_eq_natCast, c2, cond_true]
    · have c1 : ltInt i 0 = true := by rw [ltInt_dec]; simp only [decide_eq_true_eq]; omega
      simp only [c1, cond_true]
end Go.Proofs.Ythpplekbeecdfaa.Gb

open Go Go.Proofs.Ythpplekbeecdfaa.Ai Go.Proofs
namespace Go.Proofs.Ythpplekbeecdfaa.Gb
variable {N : Nat} {s ev ov dv sv : SL} {ss ds : List SL} {ll : List (List Int)} {B C Q P : Nat} {h0 : Heap} {st : List Int} {l : List Int}
theorem State_out {h : Heap} (hp : Pl B h P dv sv ds ll st) {i : Int} (hi : ¬ (0 ≤ i ∧ i < st.length)) : f36 N (some (P, 0)) i h = some ((false, false, ()), h) := by
  have hl : sv.len = st.length := by have := hp.s.len; rw [List.length_map] at this; omega
  unfold f36
  by_cases h0 : 0 ≤ i
  · have c1 : ltInt i 0 = false := by rw [ltInt_dec]; simp only [decide_eq_false_iff_not]; omega
    have c2 : leInt (sv.len : Int) i = true := by rw [leInt_dec, hl]; simp only [decide_eq_true_eq]; omega
    simp only [Option.isNone_some, c1, cond_false, need_some, hp.c1, bindV_some, cast_slice, Int.ofNat_eq_natCast, c2, cond_true]
  · have c1 : ltInt i 0 = true := by rw [ltInt_dec]; simp only [decide_eq_true_eq]; omega
    simp only [Option.isNone_some, cond_false, c1, cond_true]
/-- the program's blocks stand ahead of the document's -/
structure Low (B : Nat) (P : Nat) (dv sv : SL) (ds : List SL) (n : Nat) : Prop where
  p : P < B
  s : ∀ A, sv.blk = some A → A < B
  d : ∀ A, dv.blk = some A → A < B
  r : ∀ i, i < n → ∀ A, (ds.getD i nilS).blk = some A → A < B
theorem Pl.low {h : Heap} (hp : Pl B h P dv sv ds ll st) : Low h.next P dv sv ds ll.length :=
  ⟨hp.hi, fun A hA => (hp.s.ge A hA).2, fun A hA => (hp.d.ge A hA).2, fun i hi A hA => ((hp.r i hi).ge A hA).2⟩
theorem app43z : App1 E 43 4 := .of (by kernel_rfl) (by kernel_rfl) (by kernel_rfl)
theorem New_both {h : Heap} (hN : 1000 ≤ N) (hr : RowsB h.next h s ss ll) :
    (∃ P dv sv ds Q ev ov h1 h2, f26 N s h = some ((some (P, 0), .nilIface, ()), h1) ∧ f27 N s h1 = some ((some (Q, 0), 0, 0, ()), h2) ∧ Pl h.next h2 P dv sv ds ll (List.replicate ll.length 0) ∧ Rp h.next h1.next h2 Q s ss ll ev ov (List.replicate ll.length 0) ∧ Low h1.next P dv sv ds ll.length ∧ Keep h.next h h2 ∧ Fine ll) ∨
    (∃ v c k h1 h2, f26 N s h = some ((none, v, ()), h1) ∧ f27 N s h1 = some ((none, c, k, ()), h2) ∧ Tld h2 v c k) := by
  cases hbad : badOf ll with
  | none =>
    have hf := badOf_none.1 hbad
    have hlen := hf.len
    rcases New_spec (N := N) hf hN hr (Nat.le_refl _) with ⟨h1, P, dv, sv, ds, e1, k1, p1, ha⟩ | ⟨h1', v', j', e1', k1', hj1, hj2⟩
    · left
      have hn1 := k1.next
      have hr1 := (hr.keep k1).mono hn1
      rcases rOrder_specF hf hN hr1 (Nat.le_refl _) with ⟨s2, h2, l2, e2, k2, o2, ha2, hw2, hl2⟩ | ⟨h2, j, e2, k2, hj, hj2, hj3⟩
      · have hn2 := k2.next
        obtain ⟨m1, m2⟩ := make1 app43 (.bool false) (by kernel_rfl) rfl ll.length (by omega) h2
        generalize hh5 : h2.push (.row (List.replicate ll.length (.bool false)) .own) = h5 at m1 m2
        have hn5 : h5.next = h2.next + 1 := by rw [← hh5]; rfl
        have k5 : Keep h2.next h2 h5 := by rw [← hh5]; exact (Keep.refl _ _).push (Nat.le_refl _) _
        obtain ⟨m3, m4⟩ := make1 app43 (.bool false) (by kernel_rfl) rfl ll.length (by omega) h5
        generalize hh7 : h5.push (.row (List.replicate ll.length (.bool false)) .own) = h7 at m3 m4
        have hn7 : h7.next = h5.next + 1 := by rw [← hh7]; rfl
        have k7 : Keep h5.next h5 h7 := by rw [← hh7]; exact (Keep.refl _ _).push (Nat.le_refl _) _
        generalize hh8 : h7.push (.row [.slice s.a s.len s.cap s.sz, .slice (some (h2.next, 0)) ll.length ll.length 1, .slice (some (h5.next, 0)) ll.length ll.length 1] .own) = h8
        have k8 : Keep h7.next h7 h8 := by rw [← hh8]; exact (Keep.refl _ _).push (Nat.le_refl _) _
        have g8 : h8.g h7.next = some (.row [.slice s.a s.len s.cap s.sz, .slice (some (h2.next, 0)) ll.length ll.length 1, .slice (some (h5.next, 0)) ll.length ll.length 1] .own) := by rw [← hh8]; exact g_push_eq _ rfl
        have hn8 : h8.next = h7.next + 1 := by rw [← hh8]; rfl
        have k18 : Keep h1.next h1 h8 := ((k2.trans (k5.mono hn2)).trans (k7.mono (by omega))).trans (k8.mono (by omega))
        have kA : Keep h.next h h8 := k1.trans (k18.mono hn1)
        have dr : ∀ n : Nat, didL (List.replicate n 0) = List.replicate n false := fun n => by simp [didL]
        have or : ∀ n : Nat, okL (List.replicate n 0) = List.replicate n false := fun n => by simp [okL]
        have oe : Own1 h1.next h8 ⟨some (h2.next, 0), ll.length, ll.length, 1⟩ ((didL (List.replicate ll.length 0)).map AV.bool) := by
          rw [dr, List.map_replicate]
          have x : Own1 h2.next h5 ⟨some (h2.next, 0), ll.length, ll.length, 1⟩ (List.replicate ll.length (AV.bool false)) := m2
          exact Own1.lower hn2 ((x.but (Keep.but k7) (fun A _ => by simp)).but (Keep.but k8) (fun A _ => by simp))
        have oo : Own1 h1.next h8 ⟨some (h5.next, 0), ll.length, ll.length, 1⟩ ((okL (List.replicate ll.length 0)).map AV.bool) := by
          rw [or, List.map_replicate]
          have x : Own1 h5.next h7 ⟨some (h5.next, 0), ll.length, ll.length, 1⟩ (List.replicate ll.length (AV.bool false)) := m4
          exact Own1.lower (by omega) (x.but (Keep.but k8) (fun A _ => by simp))
        refine ⟨P, dv, sv, ds, h7.next, ⟨some (h2.next, 0), ll.length, ll.length, 1⟩, ⟨some (h5.next, 0), ll.length, ll.length, 1⟩, h1, h8, e1, ?_, p1.keep (Keep.but k18), ⟨by omega, by omega, g8, oe, oo, hr.keep kA, hn1, ?_, ?_, ?_⟩, p1.low, kA, hf⟩
        · unfold f27
          simp only [e2, bind2_some, show eqInt 0 0 = true from rfl, Bool.not_true, cond_false, hr.r.slen, Int.ofNat_eq_natCast, m1, bindT_some, cast_slice, m3, guardB, cond_true]
          rw [← hh8, hr.r.slen]
        · simp [SL.blk]; omega
        · simp [SL.blk]; omega
        · intro A hA; simp [SL.blk] at hA ⊢; omega
      · exact absurd hj2 (ha _)
    · right
      rcases Order_specF hf hN hr (Nat.le_refl _) with ⟨s1, h1, l, e1, k1, o1, ha, hw, hl⟩ | ⟨h1, v, j, e1, k1, he, hj, hj2, hj3⟩
      · exact absurd (by assumption) (ha _)
      · have hr1 := (hr.keep k1).mono k1.next
        rcases rOrder_specF hf hN hr1 (Nat.le_refl _) with ⟨s2, h2, l2, e2, k2, o2, ha2, hw2, hl2⟩ | ⟨h2, j2, e2, k2, hi, hi2, hi3⟩
        · exact absurd hj2 (ha2 _)
        · have : j2 = j := by
            rcases Nat.lt_trichotomy j j2 with h | h | h
            · exact absurd hj2 (hi3 j h)
            · exact h.symm
            · exact absurd hi2 (hj3 j2 h)
          subst this
          have he' := he
          obtain ⟨A, rfl, _⟩ := he'
          refine ⟨_, 42, (j2 : Int), h1, h2, ?_, ?_, .inr (he.keep k2)⟩
          · unfold f26
            simp only [e1, bind2_some, nn14e, bindV_some, cast_bool, cond_true]
          · unfold f27
            simp only [e2, bind2_some, show eqInt 42 0 = false from rfl, Bool.not_false, cond_true]
  | some p =>
    right
    obtain ⟨c, j⟩ := p
    have k1 := errH_keep h c j
    have hr1 := (hr.keep k1).mono k1.next
    have hne := (badOf_ne hbad).1
    have e0 : eqInt c 0 = false := by rw [eqInt_dec]; simp only [decide_eq_false_iff_not]; exact hne
    refine ⟨_, c, (j : Int), _, _, New_bad hN hr.r hbad, ?_, .inr (isErr_of h c j)⟩
    unfold f27
    simp only [rOrder_bad hN hr1.r hbad hne, bind2_some, e0, Bool.not_false, cond_true]
end Go.Proofs.Ythpplekbeecdfaa.Gb

open Go Go.Proofs.Ythpplekbeecdfaa.Ai Go.Proofs
namespace Go.Proofs.Ythpplekbeecdfaa.Gb
variable {N : Nat} {s ev ov dv sv : SL} {ss ds : List SL} {ll : List (List Int)} {B C Q P : Nat} {h0 : Heap} {st : List Int} {l : List Int}
structure OpP where
  i : Int
  ok : Bool
  raw : Bool
def OpP.cells (o : OpP) : List AV := [.int .i64 o.i, .bool o.ok, .bool o.raw]
def opP0 : OpP := ⟨0, false, false⟩
def ofP (l : List OpP) : List AV := l.flatMap OpP.cells
theorem ofP_get : ∀ (l : List OpP) (i k : Nat), i < l.length → k < 3 → (ofP l)[i * 3 + k]? = (l.getD i opP0).cells[k]?
  | [], i, k, h, _ => by simp at h
  | x :: l, 0, k, h, hk => by
    have : ofP (x :: l) = x.cells ++ ofP l := rfl
    rw [this, Nat.zero_mul, Nat.zero_add, List.getElem?_append_left (by simpa [OpP.cells] using hk)]; rfl
  | x :: l, i + 1, k, h, hk => by
    have : ofP (x :: l) = x.cells ++ ofP l := rfl
    rw [this, show (i + 1) * 3 + k = x.cells.length + (i * 3 + k) by simp [OpP.cells]; omega, List.getElem?_append_right (by omega), Nat.add_sub_cancel_left]
    exact ofP_get l i k (by simpa using h) hk
theorem Sees.cellk {h : Heap} {s : SL} {vs : List AV} (hx : Sees h s vs) {n : Nat} (h1 : s.sz = n) {i k : Nat} (hi : i < s.len) (hk : k < n) : h.cell ((s.at i n).1, (s.at i n).2 + k) = vs[i * n + k]? := by
  obtain ⟨h2, h3, h4⟩ := hx
  subst h1
  cases ha : s.a with
  | none => have := h3 ha; omega
  | some q =>
    obtain ⟨A, off⟩ := q
    obtain ⟨_, cs, h5, h6⟩ := h4 A off ha
    have hle : i * s.sz + s.sz ≤ s.len * s.sz := by
      rw [← Nat.succ_mul]; exact Nat.mul_le_mul_right _ hi
    simp only [SL.at, ha, Option.getD_some, Heap.cell_g, cellB_row, h5, Option.bind_some]
    rw [← h6, List.getElem?_take, List.getElem?_drop, if_pos (by omega), Nat.add_assoc]
def OpsP (h : Heap) (s : SL) (ops : List OpP) : Prop := Sees h s (ofP ops) ∧ ops.length = s.len ∧ (s.sz = 3 ∨ s.len = 0)
theorem OpsP.get {h : Heap} {s : SL} {ops : List OpP} (ho : OpsP h s ops) {i : Nat} (hi : i < s.len) : (h.cell ((s.at i 3).1, (s.at i 3).2 + 0) = some (.int .i64 (ops.getD i opP0).i)) ∧ (h.cell ((s.at i 3).1, (s.at i 3).2 + 1) = some (.bool (ops.getD i opP0).ok)) ∧ (h.cell ((s.at i 3).1, (s.at i 3).2 + 2) = some (.bool (ops.getD i opP0).raw)) := by
  obtain ⟨h1, h2, h3⟩ := ho
  have hz : s.sz = 3 := by rcases h3 with h | h <;> omega
  refine ⟨?_, ?_, ?_⟩
  · rw [Gb.Sees.cellk h1 hz hi (by omega), ofP_get ops i 0 (by omega) (by omega)]; rfl
  · rw [Gb.Sees.cellk h1 hz hi (by omega), ofP_get ops i 1 (by omega) (by omega)]; rfl
  · rw [Gb.Sees.cellk h1 hz hi (by omega), ofP_get ops i 2 (by omega) (by omega)]; rfl
theorem same_bool' (b : Bool) : sameO (some (.bool b)) (.bool b) = true := by cases b <;> kernel_rfl
theorem rem_ex (x : Int) {m : Nat} (hm : 0 < m) (h1 : m < 1000) : ∃ r n : Int, binInt .rem .i64 x (m : Int) = some (.int .i64 r) ∧ wrapA .i64 (r + (m : Int)) = r + m ∧ binInt .rem .i64 (r + m) (m : Int) = some (.int .i64 n) := by
  have e : eqInt (m : Int) 0 = false := by rw [eqInt_dec]; simp only [decide_eq_false_iff_not]; omega
  have hb : -(m : Int) < x.tmod m ∧ x.tmod m < m := by
    have a := Int.tmod_lt_of_pos (-x) (show (0 : Int) < m by omega)
    have b := Int.tmod_lt_of_pos x (show (0 : Int) < m by omega)
    rw [Int.neg_tmod] at a; omega
  exact ⟨x.tmod m, _, by simp only [binInt, e, cond_false], wrapA_small (by omega) (by omega), by simp only [binInt, e, cond_false]; rfl⟩
/-- what holds ahead of each round -/
structure Pst (C B : Nat) (h0 h : Heap) (P Q : Nat) (dv sv s ev ov : SL) (ds ss : List SL) (ll : List (List Int)) (st : List Int) : Prop where
  k : Keep C h0 h
  p : Pl C h P dv sv ds ll st
  r : Rp C B h Q s ss ll ev ov st
  lo : Low B P dv sv ds ll.length
  v : Val st
  l : st.length = ll.length
  b0 : C ≤ h0.next
theorem Pst.but {h h' : Heap} (hx : Pst C B h0 h P Q dv sv s ev ov ds ss ll st) (hb : But none h h') : Pst C B h0 h' P Q dv sv s ev ov ds ss ll st :=
  ⟨hx.k.trans ⟨fun A hA => hb.g A (by have := hx.p.lo; have := hx.p.hi; omega) (by simp), hb.next⟩, hx.p.keep hb, hx.r.keep hb, hx.lo, hx.v, hx.l, hx.b0⟩
theorem plays_loop (hf : Fine ll) (hN : 1001 ≤ N) {v1 : SL} {ops : List OpP} (hops : OpsP h0 v1 ops) (hu : v1.under C) : ∀ (M i : Nat) (h : Heap) (st : List Int), i ≤ 40 → 40 - i < M → Pst C B h0 h P Q dv sv s ev ov ds ss ll st →
    ∃ h', f7_l1 N M s v1 false (some (P, 0)) (some (Q, 0)) (i : Int) h = some (.exit 0, (false, ()), h') := by
  intro M
  induction M with
  | zero => intro i h st h1 h2; omega
  | succ M ih =>
    intro i h st h1 h2 hx
    rw [f7_l1_succ]
    unfold f7_l1_b
    have hlen := hf.len
    by_cases hi : i < v1.len
    · by_cases hi4 : i < 40
      · have ew : wrapA .i64 ((i : Int) + 1) = ((i + 1 : Nat) : Int) := wrapA_small (by omega) (by omega)
        have c1 : ltInt (i : Int) (v1.len : Int) = true := by rw [ltInt_dec]; simp only [decide_eq_true_eq]; omega
        have c2 : ltInt (i : Int) 40 = true := by rw [ltInt_dec]; simp only [decide_eq_true_eq]; omega
        have rd : ∀ hh : Heap, Keep C h0 hh → _ := fun hh hk => OpsP.get (h := hh) (s := v1) (ops := ops) ⟨Sees.keep hk hu hops.1, hops.2.1, hops.2.2⟩ hi
        have hix : ∀ {β : Type} (K : Nat × Nat → Option β), ixK v1.a v1.len (i : Int) 3 K = K (v1.at i 3) := fun K => ixK_at (hops.1.isSome (by omega)) hi K
        obtain ⟨a0, a1, a2⟩ := rd h hx.k
        generalize ops.getD i opP0 = o at *
        -- what stands behind the number
        have back : ∀ n : Int, ∃ h44 h48 v, f30 N (some (P, 0)) n o.ok h = some (v, h44) ∧ h44.cell ((v1.at i 3).1, (v1.at i 3).2 + 1) = some (.bool o.ok) ∧
            f31 N (some (Q, 0)) n o.ok h44 = some (doneC ll st n o.ok, h48) ∧ f19 N v (doneC ll st n o.ok) 0 h48 = some (true, h48) ∧ Pst C B h0 h48 P Q dv sv s ev ov ds ss ll (doneS ll st n o.ok) := by
          intro n
          obtain ⟨v, h44, e1, b1, p1, t1⟩ := Done_spec (N := N) hf (by omega) hx.p hx.l n o.ok
          have hnx := b1.next
          have hCn : C ≤ h.next := by have := hx.p.lo; have := hx.p.hi; omega
          have hsv : ∀ A, sv.blk = some A → C ≤ A ∧ A < B := fun A hA => ⟨(hx.p.s.ge A hA).1, hx.lo.s A hA⟩
          have k1 : Keep C h h44 := b1.keep hCn (fun A hA => (hsv A hA).1)
          have r1 : Rp C B h44 Q s ss ll ev ov st := hx.r.other b1 (fun A hA _ => by
            have h3 := hsv A hA
            have h4 := hx.r.lo
            refine ⟨by omega, fun e => ?_, fun e => ?_⟩
            · have := (hx.r.e.ge A e).1; omega
            · have := (hx.r.o.ge A e).1; omega) k1
          obtain ⟨ha, hb, h48, e2, b2, b3, b4, r2⟩ := rDone_spec (N := N) hf hN hx.v hx.l r1 n o.ok
          have n2 := b2.next
          have n3 := b3.next
          have n4 := b4.next
          have hev : ∀ A, ev.blk = some A → B ≤ A ∧ A < h.next := fun A hA => hx.r.e.ge A hA
          have hov : ∀ A, ov.blk = some A → B ≤ A ∧ A < h.next := fun A hA => hx.r.o.ge A hA
          have apart : ∀ A, B ≤ A → A ≠ P ∧ sv.blk ≠ some A ∧ dv.blk ≠ some A ∧ ∀ i, i < ll.length → (ds.getD i nilS).blk ≠ some A := fun A hA =>
            ⟨by have := hx.lo.p; omega, fun e => by have := hx.lo.s A e; omega, fun e => by have := hx.lo.d A e; omega, fun i hi e => by have := hx.lo.r i hi A e; omega⟩
          have p2 : Pl C h48 P dv sv ds ll (doneS ll st n o.ok) := ((p1.keep b2).other b3 (fun A hA => apart A (hev A hA).1)).other b4 (fun A hA => apart A (hov A hA).1)
          have hcb := hx.r.cb
          have k48 : Keep C h44 h48 := ((b2.keep (by omega) (fun A hA => by cases hA)).trans (b3.keep (by omega) (fun A hA => by have := (hev A hA).1; omega))).trans (b4.keep (by omega) (fun A hA => by have := (hov A hA).1; omega))
          refine ⟨h44, h48, v, e1, (rd h44 (hx.k.trans k1)).2.1, e2, ?_, ⟨(hx.k.trans k1).trans k48, p2, r2, hx.lo, doneS_val hx.v _ _, by rw [doneS_len]; exact hx.l, hx.b0⟩⟩
          refine Tld.is (by omega) ?_
          rcases t1 with ⟨t2, rfl⟩ | ⟨rfl, t3⟩
          · exact .inl ⟨rfl, t2, rfl⟩
          · right
            subst t3
            refine ⟨h.next, rfl, by have : (errH h (doneC ll st n o.ok) 0).next = h.next + 1 := rfl; omega, ?_⟩
            have : (errH h (doneC ll st n o.ok) 0).next = h.next + 1 := rfl
            rw [b4.g _ (by omega) (fun e => by have := (hov _ e).2; omega), b3.g _ (by omega) (fun e => by have := (hev _ e).2; omega), b2.g _ (by omega) (by simp)]
            exact g_push_eq _ rfl
        have hsl : ∀ hh, Rp C B hh Q s ss ll ev ov st → s.len = ll.length := fun hh r => r.r.r.slen
        have hlen0 : ltInt 0 (ll.length : Int) = decide (0 < ll.length) := by rw [ltInt_dec]; simp only [Int.natCast_pos]
        simp only [Int.ofNat_eq_natCast, c1, c2, cond_true, hix, a0, a2, bindV_some, cast_int, cast_bool]
        have three : ∃ n : Int, (o.raw = false ∧ 0 < ll.length ∧ ∃ r, binInt .rem .i64 o.i (ll.length : Int) = some (.int .i64 r) ∧ wrapA .i64 (r + (ll.length : Int)) = r + ll.length ∧ binInt .rem .i64 (r + ll.length) (ll.length : Int) = some (.int .i64 n)) ∨ ((o.raw = true ∨ ll.length = 0) ∧ n = o.i) := by
          cases hraw : o.raw with
          | true => exact ⟨o.i, .inr ⟨.inl rfl, rfl⟩⟩
          | false =>
            rcases Nat.eq_zero_or_pos ll.length with hz | hz
            · exact ⟨o.i, .inr ⟨.inr hz, rfl⟩⟩
            · obtain ⟨r, n, x1, x2, x3⟩ := rem_ex o.i hz (by omega)
              exact ⟨n, .inl ⟨rfl, hz, r, x1, x2, x3⟩⟩
        obtain ⟨n, hn⟩ := three
        obtain ⟨h44, h48, v, e1, ecell, e2, e19, px⟩ := back n
        obtain ⟨sa, h53, e3, b3, o3⟩ := Ready_spec (N := N) hf (by omega) px.p px.l
        have px3 := px.but b3
        obtain ⟨sb, h55, e4, k4, o4⟩ := rReady_spec (N := N) hf (by omega) px3.v px3.l px3.r
        have px4 := px3.but (Keep.but k4)
        have l1 := allM_len (ll := ll) (st := doneS ll st n o.ok) (w := 1) (n := ll.length)
        have l2 := allM_len (ll := ll) (st := doneS ll st n o.ok) (w := 2) (n := ll.length)
        have e18 := same_spec (N := N) (Ints.keepN k4 o3.one.2.2.under (o3.one : Ints h53 sa _)) (o4.one : Ints h55 sb _) (by omega) (by omega)
        obtain ⟨sc, h60, e5, b5, o5⟩ := Blocked_spec (N := N) hf (by omega) px4.p px4.l
        have px5 := px4.but b5
        obtain ⟨sd, h62, e6, k6, o6⟩ := rBlocked_spec (N := N) hf (by omega) px5.v px5.l px5.r
        have px6 := px5.but (Keep.but k6)
        have e18' := same_spec (N := N) (Ints.keepN k6 o5.one.2.2.under (o5.one : Ints h60 sc _)) (o6.one : Ints h62 sd _) (by omega) (by omega)
        have e7 := Left_spec (N := N) hf (by omega) px6.p px6.l
        have e8 := rLeft_spec (N := N) hN px6.r (by rw [px6.l]; omega)
        obtain ⟨h', eg⟩ := ih (i + 1) h62 _ (by omega) (by omega) px6
        simp only [decide_true] at e18 e18'
        refine ⟨h', ?_⟩
        have fin : (bind2 (f36 N (some (P, 0)) n h62) fun (x71 : (Bool × Bool × Unit)) h72 => (bif leInt 0 n then (bif ltInt n (ll.length : Int) then some 1 else some 2) else (some 3 : Option Nat))) = some 1 ∨ True := .inr trivial
        clear fin
        by_cases hin : 0 ≤ n ∧ n < ll.length
        · obtain ⟨g0, g1⟩ := hin
          have e9 := State_spec (N := N) px6.p g0 (by rw [px6.l]; exact g1)
          have d1 : leInt 0 n = true := by rw [leInt_dec]; simp only [decide_eq_true_eq]; omega
          have d2 : ltInt n (ll.length : Int) = true := by rw [ltInt_dec]; simp only [decide_eq_true_eq]; omega
          have d3 : ltInt n 0 = false := by rw [ltInt_dec]; simp only [decide_eq_false_iff_not]; omega
          have d4 : leInt (ll.length : Int) n = false := by rw [leInt_dec]; simp only [decide_eq_false_iff_not]; omega
          have re := fun {β : Type} (K : Bool → Option β) => px6.r.re (x := n) g0 (by rw [px6.l]; exact g1) K
          have ro := fun {β : Type} (K : Bool → Option β) => px6.r.ro (x := n) g0 (by rw [px6.l]; exact g1) K
          have bb : ∀ b : Bool, (bif b then b else !b) = true := fun b => by cases b <;> rfl
          rcases hn with ⟨hraw, hz, r, x1, x2, x3⟩ | ⟨hraw, rfl⟩
          · simp only [hraw, Bool.not_false, cond_true, hlen0, hz, decide_true, bind2_some, hsl h hx.r, x1, bindV_some, cast_int, x2, x3, a1, cast_bool, e1, ecell, e2, e19, Bool.not_true, cond_false, e3, e4, e18, e5, e6, e18', e7, e8, eqI, decide_true, same_bool', guardB, e9, d1, d2, d3, d4, need_some, px6.r.c1, px6.r.c2, cast_slice, re, ro, bb, ew, hix, eg]
          · rcases hraw with hraw | hraw
            · simp only [hraw, Bool.not_true, cond_false, bind2_some, hsl h hx.r, bindV_some, cast_int, a1, cast_bool, e1, ecell, e2, e19, e3, e4, e18, e5, e6, e18', e7, e8, eqI, decide_true, same_bool', guardB, cond_true, e9, d1, d2, d3, d4, need_some, px6.r.c1, px6.r.c2, cast_slice, re, ro, bb, ew, hix, eg]
            · omega
        · have e9 := State_out (N := N) px6.p (i := n) (by rw [px6.l]; exact hin)
          have dd : (leInt 0 n = false ∧ ltInt n 0 = true) ∨ (leInt 0 n = true ∧ ltInt n (ll.length : Int) = false ∧ ltInt n 0 = false ∧ leInt (ll.length : Int) n = true) := by
            simp only [leInt_dec, ltInt_dec, decide_eq_true_eq, decide_eq_false_iff_not]
            omega
          have pre : ∀ b : Bool, o.raw = b → True := fun _ _ => trivial
          rcases hn with ⟨hraw, hz, r, x1, x2, x3⟩ | ⟨hraw, rfl⟩
          · rcases dd with ⟨d1, d2⟩ | ⟨d1, d2, d3, d4⟩
            · simp only [hraw, Bool.not_false, cond_true, hlen0, hz, decide_true, bind2_some, hsl h hx.r, x1, bindV_some, cast_int, x2, x3, a1, cast_bool, e1, ecell, e2, e19, Bool.not_true, cond_false, e3, e4, e18, e5, e6, e18', e7, e8, eqI, same_bool', guardB, e9, d1, d2, ew, hix, eg]
            · simp only [hraw, Bool.not_false, cond_true, hlen0, hz, decide_true, bind2_some, hsl h hx.r, x1, bindV_some, cast_int, x2, x3, a1, cast_bool, e1, ecell, e2, e19, Bool.not_true, cond_false, e3, e4, e18, e5, e6, e18', e7, e8, eqI, same_bool', guardB, e9, d1, d2, d3, d4, ew, hix, eg]
          · have hrl : (bif !o.raw then decide (0 < ll.length) else false) = false := by
              rcases hraw with e | e
              · rw [e]; rfl
              · rw [e]; cases o.raw <;> rfl
            rcases dd with ⟨d1, d2⟩ | ⟨d1, d2, d3, d4⟩
            · cases hr2 : o.raw with
              | true => simp only [Bool.not_true, cond_false, bind2_some, hsl h hx.r, bindV_some, cast_int, a1, cast_bool, e1, ecell, e2, e19, e3, e4, e18, e5, e6, e18', e7, e8, eqI, decide_true, same_bool', guardB, cond_true, e9, d1, d2, ew, hix, eg]
              | false =>
                have hz : ¬ 0 < ll.length := by rcases hraw with e | e
                                                · rw [hr2] at e; cases e
                                                · omega
                simp only [Bool.not_false, hlen0, hz, decide_false, Bool.not_true, cond_false, bind2_some, hsl h hx.r, bindV_some, cast_int, a1, cast_bool, e1, ecell, e2, e19, e3, e4, e18, e5, e6, e18', e7, e8, eqI, decide_true, same_bool', guardB, cond_true, e9, d1, d2, ew, hix, eg]
            · cases hr2 : o.raw with
              | true => simp only [Bool.not_true, cond_false, bind2_some, hsl h hx.r, bindV_some, cast_int, a1, cast_bool, e1, ecell, e2, e19, e3, e4, e18, e5, e6, e18', e7, e8, eqI, decide_true, same_bool', guardB, cond_true, e9, d1, d2, d3, d4, ew, hix, eg]
              | false =>
                have hz : ¬ 0 < ll.length := by rcases hraw with e | e
                                                · rw [hr2] at e; cases e
                                                · omega
                simp only [Bool.not_false, hlen0, hz, decide_false, Bool.not_true, cond_false, bind2_some, hsl h hx.r, bindV_some, cast_int, a1, cast_bool, e1, ecell, e2, e19, e3, e4, e18, e5, e6, e18', e7, e8, eqI, decide_true, same_bool', guardB, cond_true, e9, d1, d2, d3, d4, ew, hix, eg]
      · have c1 : ltInt (i : Int) (v1.len : Int) = true := by rw [ltInt_dec]; simp only [decide_eq_true_eq]; omega
        have c2 : ltInt (i : Int) 40 = false := by rw [ltInt_dec]; simp only [decide_eq_false_iff_not]; omega
        exact ⟨h, by simp only [Int.ofNat_eq_natCast, c1, c2, cond_true, cond_false]⟩
    · have c1 : ltInt (i : Int) (v1.len : Int) = false := by rw [ltInt_dec]; simp only [decide_eq_false_iff_not]; omega
      exact ⟨h, by simp only [Int.ofNat_eq_natCast, c1, cond_false]⟩
end Go.Proofs.Ythpplekbeecdfaa.Gb

open Go Go.Proofs.Ythpplekbeecdfaa.Ai Go.Proofs
namespace Go.Proofs.Ythpplekbeecdfaa.Gb
variable {N : Nat} {s ev ov dv sv : SL} {ss ds : List SL} {ll : List (List Int)} {B C Q P : Nat} {h0 : Heap} {st : List Int} {l : List Int}
theorem f46_1 (a : Int) (h : Heap) : f46 N 1 a h = some (errV h, errH h 1 a) := rfl
theorem rep_val (n : Nat) : Val (List.replicate n 0) := fun i _ => .inl (by rw [List.getD_eq_getElem?_getD, List.getElem?_replicate]; split <;> rfl)
theorem plays_law {h : Heap} (hr : RowsB h.next h s ss ll) {v1 : SL} {ops : List OpP} (hops : OpsP h v1 ops) : ∃ h', f7 2000000 s v1 h = some (true, h') := by
  obtain ⟨b, e24, hb⟩ := few_spec (N := 2000000) (by omega) hr.r
  cases b with
  | false =>
    refine ⟨h, ?_⟩
    unfold f7
    simp only [e24, bind2_some, Bool.not_false, cond_true, f25]
  | true =>
    rcases New_both (N := 2000000) (by omega) hr with ⟨P, dv, sv, ds, Q, ev, ov, h1, h2, e1, e2, p2, r2, lo, k2, hf⟩ | ⟨v, c, k, h1, h2, e1, e2, t2⟩
    · have px : Pst h.next h1.next h h2 P Q dv sv s ev ov ds ss ll (List.replicate ll.length 0) := ⟨k2, p2, r2, lo, rep_val _, by simp, Nat.le_refl _⟩
      obtain ⟨h', e3⟩ := plays_loop (N := 2000000) hf (by omega) hops hops.1.under 2000000 0 h2 _ (by omega) (by omega) px
      simp only [Int.ofNat_zero] at e3
      have e19 : f19 2000000 .nilIface 0 0 h2 = some (true, h2) := Tld.is (by omega) (.inl ⟨rfl, rfl, rfl⟩)
      refine ⟨h', ?_⟩
      unfold f7
      simp only [e24, bind2_some, Bool.not_true, cond_false, e1, e2, e19, Option.isNone_some, Bool.not_false, e3, bind3_some, eqOut_exit, decide_true, cond_true, f25]
    · have e19 : f19 2000000 v c k h2 = some (true, h2) := t2.is (by omega)
      have t3 : f19 2000000 (errV h2) 1 0 (errH h2 1 0) = some (true, errH h2 1 0) := Tld.is (by omega) (.inr (isErr_of h2 1 0))
      have e28 : f28 2000000 none h2 = some (nilS, h2) := rfl
      have e29 : f29 2000000 none h2 = some (0, h2) := rfl
      have e30 : f30 2000000 none 0 true h2 = some (errV h2, errH h2 1 0) := rfl
      refine ⟨errH h2 1 0, ?_⟩
      unfold f7
      simp only [e24, bind2_some, Bool.not_true, cond_false, e1, e2, e19, Option.isNone_none, cond_true, f25, e28, show eqInt (Int.ofNat nilS.len) 0 = true from rfl, e29, show eqInt 0 0 = true from rfl, e30, t3]
theorem undP45 : Try.prog.underlying 45 = some (.slice 56) := by kernel_rfl
theorem undP56 : ∃ fs : Array Field, Try.prog.underlying 56 = some (.struct fs) ∧ fs.toList.map (·.type) = [3, 4, 4] := by
  have : (match Try.prog.underlying 56 with | some (.struct fs) => (fs.toList.map (·.type)) == [3, 4, 4] | _ => false) = true := by kernel_rfl
  split at this
  · rename_i fs hfs
    exact ⟨fs, hfs, by simpa using this⟩
  · cases this
theorem opP_inv {H : Type} {h : Heap} {a : List AV} {d : DataW H} (hx : Rd Try.prog h 56 a d) : ∃ o : OpP, a = o.cells := by
  obtain ⟨fs, hu, hfs⟩ := undP56
  obtain ⟨ass, ds, rfl, _, h1, h2, h3⟩ := Rd.struct_inv hu hx
  have hsz : fs.size = 3 := by
    have := congrArg List.length hfs
    simpa using this
  have ft : ∀ i, i < 3 → ∃ f, fs[i]? = some f ∧ some f.type = ([3, 4, 4] : List Nat)[i]? := fun i hi => by
    refine ⟨fs[i], by rw [Array.getElem?_eq_getElem (by omega)], ?_⟩
    rw [← hfs, List.getElem?_map, List.getElem?_eq_getElem (by simp; omega)]
    simp
  have hal : ass.length = 3 := by omega
  have hdl : ds.length = 3 := by omega
  have ib : ∀ i, i = 1 ∨ i = 2 → ∃ b : Bool, ass[i]? = some [.bool b] := fun i hi => by
    obtain ⟨f, hf1, hf2⟩ := ft i (by omega)
    have h4 := h3 i f (ass[i]'(by omega)) (ds[i]'(by omega)) hf1 (by rw [List.getElem?_eq_getElem]) (by rw [List.getElem?_eq_getElem])
    have h5 : f.type = 4 := by rcases hi with rfl | rfl <;> simpa using hf2
    rw [h5] at h4
    obtain ⟨b, hb, _⟩ := Rd.bool_inv undP4 h4
    exact ⟨b, by rw [List.getElem?_eq_getElem (by omega), hb]⟩
  obtain ⟨f, hf1, hf2⟩ := ft 0 (by omega)
  have h4 := h3 0 f ass[0] ds[0] hf1 (by rw [List.getElem?_eq_getElem]) (by rw [List.getElem?_eq_getElem])
  have h5 : f.type = 3 := by simpa using hf2
  rw [h5] at h4
  obtain ⟨n0, hn0, _⟩ := Rd.int_inv undP3 h4
  have q0 : ass[0]? = some [.int .i64 n0] := by rw [List.getElem?_eq_getElem (by omega), hn0]
  obtain ⟨b1, q1⟩ := ib 1 (.inl rfl)
  obtain ⟨b2, q2⟩ := ib 2 (.inr rfl)
  refine ⟨⟨n0, b1, b2⟩, ?_⟩
  match ass, hal, q0, q1, q2 with
  | [x0, x1, x2], _, q0, q1, q2 =>
    simp only [List.getElem?_cons_zero, List.getElem?_cons_succ, Option.some.injEq] at q0 q1 q2
    rw [q0, q1, q2]; rfl
theorem flat_P : ∀ (ass : List (List AV)), (∀ (i : Nat) (a : List AV), ass[i]? = some a → ∃ o : OpP, a = o.cells) → ∃ xs : List OpP, ass.flatten = ofP xs ∧ xs.length = ass.length
  | [], _ => ⟨[], rfl, rfl⟩
  | a :: r, h => by
    obtain ⟨x, rfl⟩ := h 0 a rfl
    obtain ⟨xs, h1, h2⟩ := flat_P r fun i a ha => h (i + 1) a (by simpa using ha)
    exact ⟨x :: xs, by simp [h1, ofP], by simp [h2]⟩
theorem plays_true {H : Type} (h : Heap) (vs : List AV) (ds : List (DataW H)) (hr : RdArgs Try.prog h [22, 45] vs ds) : ∃ xs : vdens [.one .slice, .one .slice], ∃ h', VTy.tos _ xs = vs ∧ (fun (x : vdens [.one .slice, .one .slice]) h => f7 2000000 x.1 x.2.1 h) xs h = some (true, h') := by
  obtain ⟨c0, d0, _, _, rfl, rfl, r0, hr⟩ := hr.cons_inv
  obtain ⟨c1, d1, _, _, rfl, rfl, r1, hr⟩ := hr.cons_inv
  obtain ⟨rfl, rfl⟩ := hr.nil_inv
  obtain ⟨s, ss, d, rfl, hrow⟩ := rows_of r0
  have hc : Try.prog.cellsOf 56 = 3 := by kernel_rfl
  obtain ⟨s1, ass, rfl, q1, q2, q3, q4, q5⟩ := Rd.sees undP45 (fun a d hd => by obtain ⟨o, rfl⟩ := opP_inv hd; rw [hc]; rfl) r1
  obtain ⟨ops, h6, h7⟩ := flat_P ass fun i a ha => by
    obtain ⟨d, hd⟩ := q5 i a ha
    exact opP_inv hd
  obtain ⟨h', e⟩ := plays_law hrow (v1 := s1) (ops := ops) ⟨h6 ▸ q4, by omega, by rw [← hc]; exact q3⟩
  refine ⟨(s, s1, ()), h', ?_, e⟩
  simp [VTy.tos, VTy.to, CTy.to, argOf, undP22, undP45]
end Go.Proofs.Ythpplekbeecdfaa.Gb
