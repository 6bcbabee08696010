import Derived.Test.YtkcjphhjmlienaaGreatDoorXQp1
import Derived.Test.YtkcjphhjmlienaaGreatDoorAi3
import Derived.Test.YtkcjphhjmlienaaGreatDoorRows
import Derived.Test.YtkcjphhjmlienaaGreatDoorAi4
import Derived.LaidMore
import Derived.LaidHandle
/- Functions of the program as plain functions, and what they come to; part 2. -/
set_option linter.unusedVariables false
set_option linter.unusedSimpArgs false
set_option linter.unusedVariables false
set_option linter.unusedSimpArgs false
open Go Go.Proofs.YtkcjphhjmlienaaGreatDoor.Ai Go.Proofs
namespace Go.Proofs.YtkcjphhjmlienaaGreatDoor.Qp
/-! the document's number -/
theorem digit_val2 {c : UInt8} (h : digitB c = true) {v : Nat} (hv : v ≤ 100000000000) : wrapA .i64 (wrapA .i64 ((v : Int) * 10) + wrapA .i64 (wrapA .u8 ((c.toNat : Int) - 48))) = ((v * 10 + (c.toNat - 48) : Nat) : Int) := by
  simp only [digitB, decide_eq_true_eq] at h
  rw [u8_in (by omega) (by omega), wrapA_small (x := (c.toNat : Int) - 48) (by omega) (by omega), wrapA_small (x := (v : Int) * 10) (by omega) (by omega), wrapA_small (by omega) (by omega)]
  omega
theorem rnum_loop {N : Nat} {t : Bs} (ht : t.length ≤ 10) (h : Heap) : ∀ (M j v : Nat), j ≤ t.length → t.length - j < M → v < 10 ^ j →
    ∃ w : Int, f70_l1 N M t false (v : Int) (j : Int) h = some (bif (t.drop j).all digitB then Out.exit 0 else Out.ret, (false, w, ()), h) ∧ ((t.drop j).all digitB = true → w = (valN (t.drop j) v : Int)) := by
  intro M
  induction M with
  | zero => intro j v _ h; omega
  | succ M ih =>
    intro j v hj hM hv
    rw [f70_l1_succ]
    unfold f70_l1_b
    simp only [lt_nat]
    by_cases q : j < t.length
    · simp only [q, decide_true, cond_true]
      rw [strK_at q, f69_eq, bind2_some, drop_cons q]
      simp only [List.all_cons, valN]
      cases hd : digitB t[j] with
      | false =>
        simp only [Bool.not_false, cond_true, Bool.false_and, cond_false]
        exact ⟨_, rfl, fun h => by cases h⟩
      | true =>
        simp only [Bool.not_true, cond_false, Bool.true_and]
        have hp : (10 : Nat) ^ j ≤ 10 ^ 10 := Nat.pow_le_pow_right (by omega) (by omega)
        rw [strK_at q, digit_val2 hd (by omega), wrap_succ (by omega)]
        have hd' := hd
        simp only [digitB, decide_eq_true_eq] at hd'
        refine ih (j + 1) _ q (by omega) ?_
        rw [Nat.pow_succ]
        omega
    · simp only [q, decide_false, cond_false]
      rw [List.drop_of_length_le (by omega)]
      exact ⟨_, rfl, fun _ => rfl⟩
theorem valN_lb : ∀ (t : Bs) (v : Nat), v * 10 ^ t.length ≤ valN t v
  | [], v => by simp [valN]
  | c :: r, v => by
    have := valN_lb r (v * 10 + (c.toNat - 48))
    simp only [valN, List.length_cons, Nat.pow_succ]
    refine Nat.le_trans ?_ this
    rw [Nat.mul_comm (10 ^ r.length) 10, ← Nat.mul_assoc]
    exact Nat.mul_le_mul_right _ (by omega)
theorem okNum_long {c : UInt8} {r : Bs} (hl : 10 < (c :: r).length) : okNum (c :: r) = false := by
  cases hk : okNum (c :: r) with
  | false => rfl
  | true =>
    exfalso
    simp only [okNum, Bool.and_eq_true, Bool.not_eq_true', List.all_cons, headB, Nat.ble_eq, valN, Nat.zero_mul, Nat.zero_add, List.length_cons, Bool.and_eq_false_imp, decide_eq_true_eq, decide_eq_false_iff_not] at hk
    obtain ⟨⟨⟨h1, _⟩, h2⟩, h3⟩ := hk
    simp only [digitB, decide_eq_true_eq] at h1
    simp only [List.length_cons] at hl
    have h4 := h3 (by omega)
    have := valN_lb r (c.toNat - 48)
    have hp : (10 : Nat) ^ 10 ≤ 10 ^ r.length := Nat.pow_le_pow_right (by omega) (by omega)
    have h5 : 1 * 10 ^ r.length ≤ (c.toNat - 48) * 10 ^ r.length := Nat.mul_le_mul_right _ (by omega)
    have hp2 : (10000000000 : Nat) ≤ 10 ^ r.length := hp
    omega
theorem f70_eq {N : Nat} (hN2 : 20 ≤ N) {t : Bs} (hne : 0 < t.length) (hb : t.length ≤ 3000000) (h : Heap) : f70 N t h = some (okNum t, h) := by
  unfold f70
  have z0 : eqInt (Int.ofNat t.length) 0 = false := by
    rw [eqI, decide_eq_false_iff_not]; show ¬ (t.length : Int) = 0; omega
  have z10 : ltInt 10 (Int.ofNat t.length) = decide (10 < t.length) := lt_nat 10 _
  have z1 : ltInt 1 (Int.ofNat t.length) = decide (1 < t.length) := lt_nat 1 _
  simp only [z0, z10, z1, cond_false]
  by_cases q : 10 < t.length
  · have : okNum t = false := by
      cases t with
      | nil => simp at hne
      | cons c r => exact okNum_long q
    simp only [q, decide_true, cond_true, need_some, jcase_inl, jcase_inr, this]
  simp only [q, decide_false, cond_false]
  obtain ⟨w, e1, e2⟩ := rnum_loop (N := N) (t := t) (by omega) h N 0 0 (Nat.zero_le _) (by omega) (by simp)
  rw [List.drop_zero, show ((0 : Nat) : Int) = 0 from rfl] at e1
  rw [List.drop_zero] at e2
  have hh : headB (fun c => decide (c.toNat = 48)) t = decide ((t[0]).toNat = 48) := by
    cases t with
    | nil => simp at hne
    | cons c r => rfl
  have key : (decide (1 < t.length) && headB (fun c => decide (c.toNat = 48)) t) = false → (bind3 (f70_l1 N N t false 0 0 h) fun o21 (j22 : (Bool × Int × Unit)) h23 =>
      (bif eqOut o21 (.exit 0) then
        some (leInt j22.2.1 2147483647, h23)
       else
        some (j22.1, h23))) = some (okNum t, h) := fun hz => by
    rw [e1]
    unfold okNum
    rw [hz]
    cases ha : t.all digitB with
    | false => rfl
    | true =>
      simp only [cond_true, bind3_some, eqOut_exit, decide_true, Bool.true_and, Bool.not_false, Bool.and_true]
      rw [e2 ha, leI]
      cases hb : Nat.ble (valN t 0) 2147483647 with
      | true => rw [Nat.ble_eq] at hb; simp; omega
      | false =>
        have : ¬ valN t 0 ≤ 2147483647 := fun e => by rw [← Nat.ble_eq, hb] at e; cases e
        simp; omega
  by_cases q1 : 1 < t.length
  · simp only [q1, decide_true, cond_true]
    have e0 : strK t 0 = strK (β := Sum ((List UInt8 × Bool × Unit) × Heap) (Sum ((Bool × Unit) × Heap) Empty)) t ((0 : Nat) : Int) := rfl
    rw [e0, strK_at hne]
    have b48 : eqInt ((t[0]).toNat : Int) 48 = decide ((t[0]).toNat = 48) := byte_eq _ 48
    simp only [b48]
    by_cases q2 : (t[0]).toNat = 48
    · simp only [q2, decide_true, cond_true, need_some, jcase_inl, jcase_inr]
      have : okNum t = false := by unfold okNum; rw [hh]; simp [q1, q2]
      rw [this]
    · simp only [q2, decide_false, cond_false, need_some, jcase_inl, jcase_inr]
      exact key (by rw [hh]; simp [q2])
  · simp only [q1, decide_false, cond_false, need_some, jcase_inl, jcase_inr]
    exact key (by simp [q1])
/-! what the document's lexer asks -/
theorem runN_take : ∀ t : Bs, runN (t.take (runN t)) = runN t
  | [] => rfl
  | c :: r => by
    simp only [runN]
    by_cases q : goesB c = true
    · simp only [q, if_true, List.take_succ_cons, runN, runN_take r]
    · simp [q, runN]
theorem lifeB_take (t : Bs) : lifeB (t.take (runN t)) = (headB letterB t && decide (runN t ≤ 32)) := by
  cases t with
  | nil => rfl
  | cons c r =>
    have hr := runN_le (c :: r)
    have hl : ((c :: r).take (runN (c :: r))).length = runN (c :: r) := by rw [List.length_take]; omega
    unfold lifeB
    rw [hl, runN_take]
    by_cases q : letterB c = true
    · have g : goesB c = true := by simp [goesB, q]
      have h1 : 1 ≤ runN (c :: r) := by simp [runN, g]
      have h2 : headB letterB ((c :: r).take (runN (c :: r))) = true := by
        simp only [runN, g, if_true, List.take_succ_cons, headB]; exact q
      rw [h2]
      simp only [headB, q, h1, decide_true, Bool.true_and, Bool.and_true]
    · have q' : letterB c = false := by simpa using q
      have h2 : headB letterB ((c :: r).take (runN (c :: r))) = false := by
        by_cases g : goesB c = true
        · simp only [runN, g, if_true, List.take_succ_cons, headB]; exact q'
        · simp [runN, g, headB]
      rw [h2]
      simp only [headB, q', Bool.false_and, Bool.and_false]
section
variable {s : Bs} {i : Nat}
theorem next_word (hi : i < s.length) (hl : letterB s[i] = true) (hw : isWord ((s.drop i).take (runN (s.drop i))) = true) : nextTok (s.drop i) = some (2, (s.drop i).take (runN (s.drop i)), runN (s.drop i)) := by
  rw [drop_cons hi] at *
  simp only [nextTok, hl, if_true, wordTok, hw]
theorem next_name (hi : i < s.length) (hl : letterB s[i] = true) (hw : isWord ((s.drop i).take (runN (s.drop i))) = false) : nextTok (s.drop i) = if nameB ((s.drop i).take (runN (s.drop i))) = true then some (1, (s.drop i).take (runN (s.drop i)), runN (s.drop i)) else none := by
  have hn : nameB ((s.drop i).take (runN (s.drop i))) = decide (runN (s.drop i) ≤ 32) := by
    unfold nameB; rw [lifeB_take, hw, drop_cons hi]; simp only [headB, hl, Bool.true_and, Bool.not_false, Bool.and_true]
  rw [hn]
  rw [drop_cons hi] at *
  simp only [nextTok, hl, if_true, wordTok, hw, Bool.false_eq_true, if_false, decide_eq_true_eq]
theorem next_life (hi : i < s.length) (hl : letterB s[i] = false) (h39 : (s[i]).toNat = 39) : nextTok (s.drop i) = if lifeB ((s.drop (i + 1)).take (runN (s.drop (i + 1)))) = true then some (3, (s.drop (i + 1)).take (runN (s.drop (i + 1))), runN (s.drop (i + 1)) + 1) else none := by
  have hd : digitB s[i] = false := by simp only [digitB, decide_eq_false_iff_not]; omega
  rw [lifeB_take, drop_cons hi]
  simp only [nextTok, hl, hd, h39, Bool.false_eq_true, if_false, if_true, lifeTok]
  cases headB letterB (s.drop (i + 1)) <;> simp
theorem next_num (hi : i < s.length) (hl : letterB s[i] = false) (hd : digitB s[i] = true) : nextTok (s.drop i) = if okNum ((s.drop i).take (runN (s.drop i))) = true then some (4, (s.drop i).take (runN (s.drop i)), runN (s.drop i)) else none := by
  rw [drop_cons hi]
  simp only [nextTok, hl, hd, Bool.false_eq_true, if_false, if_true, numTok]
theorem next_sign (hi : i < s.length) (hl : letterB s[i] = false) (h39 : (s[i]).toNat ≠ 39) (hd : digitB s[i] = false) : nextTok (s.drop i) = if signN (s.drop i) = 0 then none else some (5, (s.drop i).take (signN (s.drop i)), signN (s.drop i)) := by
  have : nextTok (s.drop i) = signTok (s.drop i) := by rw [drop_cons hi]; simp only [nextTok, hl, hd, h39, Bool.false_eq_true, if_false]
  rw [this]
  unfold signN
  cases hs : signTok (s.drop i) with
  | none => rfl
  | some p =>
    obtain ⟨k, x, n⟩ := p
    obtain ⟨rfl, rfl, h1, h2⟩ := signTok_some hs
    simp only
    rw [if_neg (by omega)]
end
end Go.Proofs.YtkcjphhjmlienaaGreatDoor.Qp

set_option linter.unusedVariables false
set_option linter.unusedSimpArgs false
open Go Go.Proofs.YtkcjphhjmlienaaGreatDoor.Ai Go.Proofs
namespace Go.Proofs.YtkcjphhjmlienaaGreatDoor.Qp
theorem stT {H : Heap} {A : Nat} {k : Int} {x : Bs} {a : Int} (o : H.own A (tkc k x a)) (y : Bs) : H.store (A, 1) [.str y] = some (H.put A (.row (tkc k y a) .own)) := o.store1 (j := 1) (by show 1 < 3; omega) (.str y)
theorem stK {H : Heap} {A : Nat} {k : Int} {x : Bs} {a : Int} (o : H.own A (tkc k x a)) (c : Int) : H.store (A, 0) [.int .i64 c] = some (H.put A (.row (tkc c x a) .own)) := o.store1 (j := 0) (by show 0 < 3; omega) (.int .i64 c)
theorem rdT {H : Heap} {A : Nat} {k : Int} {x : Bs} {a : Int} (o : H.own A (tkc k x a)) : H.cell (A, 1) = some (.str x) := o.cell 1
section
variable {N : Nat} {s : Bs}
def RLex (N M : Nat) (s : Bs) (h0 : Heap) (xs : List Tok) (i : Nat) (out : Option (Out × (List UInt8 × SL × Int × Int × SL × Unit) × Heap)) : Prop := match lexG M (s.drop i) i with
    | .inl l => ∃ v' H', out = some (.exit 0, (s, ⟨none, 0, 0, 0⟩, 0, 0, v', ()), H') ∧ Chg [] h0 H' ∧ Ow h0.next H' v' 3 ((xs ++ l).map tokD) ∧ (xs ++ l).length ≤ s.length
    | .inr a => ∃ v' H', out = some (.ret, (s, ⟨none, 0, 0, 0⟩, 20, (a : Int), v', ()), H') ∧ Chg [] h0 H'
theorem rlex_bad {M i : Nat} {h0 H' : Heap} {xs : List Tok} {v : SL} (hi : i < s.length) (hn : nextTok (s.drop i) = none) (c : Chg [] h0 H') : RLex N (M + 1) s h0 xs i (some (.ret, (s, ⟨none, 0, 0, 0⟩, 20, (i : Int), v, ()), H')) := by
  unfold RLex
  rw [lexG_succ M s i hi, hn]
  exact ⟨_, _, rfl, c⟩
theorem rlex_step {M i : Nat} {h0 : Heap} (hs : s.length ≤ 1048576) (hN : s.length < N) (hi : i < s.length) {xs : List Tok} (hx : xs.length ≤ i)
    (ih : ∀ (i : Nat) (v : SL) (xs : List Tok) (H : Heap), i ≤ s.length → s.length - i < M → xs.length ≤ i → Chg [] h0 H → Ow h0.next H v 3 (xs.map tokD) → RLex N M s h0 xs i (f28_l1 N M s ⟨none, 0, 0, 0⟩ 0 0 v (i : Int) H)) (hM : s.length - i < M + 1)
    {k : Int} {x : Bs} {n : Nat} (hn : nextTok (s.drop i) = some (k, x, n)) {v : SL} {H5 : Heap} (c : Chg [] h0 H5) (o : Ow h0.next H5 v 3 (xs.map tokD)) {j : Int} (hj : j = ((i + n : Nat) : Int)) :
    RLex N (M + 1) s h0 xs i (bindT (.val (.one .slice)) (appendA E 57 57 (.slice v.a v.len v.cap v.sz) (.slice (some (H5.next, 0)) 1 1 3) (H5.push (.row [(.int .i64 k), (.str x), (.int .i64 (i : Int))] .own))) fun (x21 : SL) h22 =>
      (bind2 (f64 N s j h22) fun (x23 : Int) h24 => f28_l1 N M s ⟨none, 0, 0, 0⟩ 0 0 x21 x23 h24)) := by
  have hn1 := nextTok_some hn
  rw [List.length_drop] at hn1
  obtain ⟨v', H', ea, oa, ca⟩ := append_tok c o (by omega) k x i
  rw [ea, hj, f64_eq (by omega) hN (by omega), bind2_some]
  have hb := blankN_le (s.drop (i + n)) false
  rw [List.length_drop] at hb
  have := ih (i + (n + blankN false (s.drop (i + n)))) v' (xs ++ [(k, x, i)]) H' (by omega) (by omega) (by simp; omega) ca oa
  rw [show i + n + blankN false (s.drop (i + n)) = i + (n + blankN false (s.drop (i + n))) by omega]
  unfold RLex at this ⊢
  rw [lexG_succ M s i hi, hn]
  dsimp only
  cases hl : lexG M (s.drop (i + (n + blankN false (s.drop (i + n))))) (i + (n + blankN false (s.drop (i + n)))) with
  | inl l =>
    rw [hl] at this
    simp only [List.append_assoc, List.singleton_append] at this
    exact this
  | inr a => rw [hl] at this; exact this
theorem rlex_loop (hs : s.length ≤ 1048576) (hN : s.length < N) (hN2 : 20 ≤ N) {h0 : Heap} : ∀ (M i : Nat) (v : SL) (xs : List Tok) (H : Heap), i ≤ s.length → s.length - i < M → xs.length ≤ i → Chg [] h0 H → Ow h0.next H v 3 (xs.map tokD) → RLex N M s h0 xs i (f28_l1 N M s ⟨none, 0, 0, 0⟩ 0 0 v (i : Int) H) := by
  intro M
  induction M with
  | zero => intro i _ _ _ _ h; omega
  | succ M ih =>
    intro i v xs H hi hM hx c o
    rw [f28_l1_succ]
    unfold f28_l1_b
    simp only [lt_nat]
    by_cases q : i < s.length
    · simp only [q, decide_true, cond_true]
      have o1 := own_push H (tkc 0 [] 0)
      have e1 : H.push (.row [(.int .i64 0), (.str []), (.int .i64 0)] .own) = H.push (.row (tkc 0 [] 0) .own) := rfl
      have hst : (H.push (.row (tkc 0 [] 0) .own)).store (H.next, 0) [(.int .i64 0), (.str []), (.int .i64 (i : Int))] = some ((H.push (.row (tkc 0 [] 0) .own)).put H.next (.row (tkc 0 [] (i : Int)) .own)) := o1.store rfl
      rw [e1, hst, need_some]
      have o2 := own_put o1 (tkc 0 [] (i : Int))
      have c2 : Chg [] H ((H.push (.row (tkc 0 [] 0) .own)).put H.next (.row (tkc 0 [] (i : Int)) .own)) := ((Chg.refl [] H).push _).put (.inr (Nat.le_refl _)) _
      generalize (H.push (.row (tkc 0 [] 0) .own)).put H.next (.row (tkc 0 [] (i : Int)) .own) = h2 at *
      simp only [Nat.add_zero, Nat.zero_add]
      have hrun := runN_le (s.drop i)
      rw [List.length_drop] at hrun
      rw [strK_at q, f65_eq, bind2_some]
      -- what a kept token's block may hold
      have st : ∀ {h3 : Heap} {k : Int} {x : Bs} (o3 : h3.own H.next (tkc k x (i : Int))) (c3 : Chg [] H h3) (k' : Int) (x' : Bs), Chg [] H (h3.put H.next (.row (tkc k' x' (i : Int)) .own)) := fun o3 c3 k' x' => c3.put (.inr (Nat.le_refl _)) _
      cases hl : letterB s[i] with
      | true =>
        simp only [cond_true]
        rw [f66_eq (by omega) hN (by omega), bind2_some, slice_to (by omega) (by omega), sub_eq]
        simp only [bindV_some, cast_str]
        generalize hxx : (s.drop i).take (runN (s.drop i)) = xx
        have hxl : xx.length ≤ 3000000 ∧ xx.length < N := by rw [← hxx, List.length_take, List.length_drop]; omega
        rw [stT o2, need_some]
        have o3 := own_put o2 (tkc 0 xx (i : Int))
        have c3 := st o2 c2 0 xx
        rw [stK o3, need_some]
        have o4 := own_put o3 (tkc 1 xx (i : Int))
        have c4 := st o3 c3 1 xx
        generalize ((h2.put H.next (.row (tkc 0 xx (i : Int)) .own)).put H.next (.row (tkc 1 xx (i : Int)) .own)) = h4 at *
        rw [rdT o4]
        simp only [bindV_some, cast_str]
        rw [f67_eq hN2, bind2_some]
        have o5 := o4.chg (chg_push h4 (.row (wordL.map AV.str) .own)) (by simp)
        have c5 := c4.push (.row (wordL.map AV.str) .own)
        generalize h4.push (.row (wordL.map AV.str) .own) = h5 at *
        cases hw : isWord xx with
        | true =>
          simp only [cond_true]
          rw [stK o5, need_some, cells3 (own_put o5 _)]
          have c6 := st o5 c5 2 xx
          exact rlex_step hs hN q hx ih hM (by rw [next_word q hl (by rw [hxx]; exact hw), hxx]) (c.trans c6) (o.chg c6 (by simp)) rfl
        | false =>
          simp only [cond_false]
          rw [rdT o5]
          simp only [bindV_some, cast_str]
          obtain ⟨h6, e6, c6⟩ := f46_eq hxl.1 hxl.2 hN2 h5
          rw [e6, bind2_some]
          have nn := next_name q hl (by rw [hxx]; exact hw)
          rw [hxx] at nn
          have o6 := o5.chg c6 (by simp)
          have c7 := c5.trans c6
          cases hb : nameB xx with
          | true =>
            simp only [Bool.not_true, cond_false]
            rw [cells3 o6]
            exact rlex_step hs hN q hx ih hM (by rw [nn, hb]; rfl) (c.trans c7) (o.chg c7 (by simp)) rfl
          | false =>
            simp only [Bool.not_false, cond_true]
            exact rlex_bad (N := N) q (by rw [nn, hb]; rfl) (c.trans c7)
      | false =>
        simp only [cond_false]
        rw [strK_at q]
        have e39 : eqInt ((s[i]).toNat : Int) 39 = decide ((s[i]).toNat = 39) := byte_eq _ 39
        simp only [e39]
        by_cases q39 : (s[i]).toNat = 39
        · simp only [q39, decide_true, cond_true]
          have hrun1 := runN_le (s.drop (i + 1))
          rw [List.length_drop] at hrun1
          rw [wrap_succ (by omega), f66_eq (by omega) hN (by omega), bind2_some, slice_to (by omega) (by omega), sub_eq]
          simp only [bindV_some, cast_str]
          have nn := next_life q hl q39
          generalize hxx : (s.drop (i + 1)).take (runN (s.drop (i + 1))) = xx at *
          have hxl : xx.length ≤ 3000000 ∧ xx.length < N := by rw [← hxx, List.length_take, List.length_drop]; omega
          rw [stT o2, need_some]
          have o3 := own_put o2 (tkc 0 xx (i : Int))
          have c3 := st o2 c2 0 xx
          rw [stK o3, need_some]
          have o4 := own_put o3 (tkc 3 xx (i : Int))
          have c4 := st o3 c3 3 xx
          generalize ((h2.put H.next (.row (tkc 0 xx (i : Int)) .own)).put H.next (.row (tkc 3 xx (i : Int)) .own)) = h4 at *
          rw [rdT o4]
          simp only [bindV_some, cast_str]
          rw [f68_eq hxl.1 hxl.2, bind2_some]
          cases hb : lifeB xx with
          | true =>
            simp only [Bool.not_true, cond_false]
            rw [cells3 o4]
            exact rlex_step hs hN q hx ih hM (by rw [nn, hb]; rfl) (c.trans c4) (o.chg c4 (by simp)) (by congr 1; omega)
          | false =>
            simp only [Bool.not_false, cond_true]
            exact rlex_bad (N := N) q (by rw [nn, hb]; rfl) (c.trans c4)
        · simp only [q39, decide_false, cond_false]
          rw [strK_at q, f69_eq, bind2_some]
          cases hd : digitB s[i] with
          | true =>
            simp only [cond_true]
            rw [f66_eq (by omega) hN (by omega), bind2_some, slice_to (by omega) (by omega), sub_eq]
            simp only [bindV_some, cast_str]
            have nn := next_num q hl hd
            have hrun0 : 1 ≤ runN (s.drop i) := by
              rw [drop_cons q]
              have : goesB s[i] = true := by simp [goesB, hd]
              simp [runN, this]
            have hx0 : ((s.drop i).take (runN (s.drop i))).length = runN (s.drop i) := by rw [List.length_take, List.length_drop]; omega
            generalize hxx : (s.drop i).take (runN (s.drop i)) = xx at *
            rw [stT o2, need_some]
            have o3 := own_put o2 (tkc 0 xx (i : Int))
            have c3 := st o2 c2 0 xx
            rw [stK o3, need_some]
            have o4 := own_put o3 (tkc 4 xx (i : Int))
            have c4 := st o3 c3 4 xx
            generalize ((h2.put H.next (.row (tkc 0 xx (i : Int)) .own)).put H.next (.row (tkc 4 xx (i : Int)) .own)) = h4 at *
            rw [rdT o4]
            simp only [bindV_some, cast_str]
            rw [f70_eq hN2 (by omega) (by omega), bind2_some]
            cases hb : okNum xx with
            | true =>
              simp only [Bool.not_true, cond_false]
              rw [cells3 o4]
              exact rlex_step hs hN q hx ih hM (by rw [nn, hb]; rfl) (c.trans c4) (o.chg c4 (by simp)) rfl
            | false =>
              simp only [Bool.not_false, cond_true]
              exact rlex_bad (N := N) q (by rw [nn, hb]; rfl) (c.trans c4)
          | false =>
            simp only [cond_false]
            rw [f71_eq (by omega) hN2 q, bind2_some]
            have nn := next_sign q hl q39 hd
            have o3 := o2.chg (chg_push h2 (.row (two.map AV.str) .own)) (by simp)
            have c3 := c2.push (.row (two.map AV.str) .own)
            generalize h2.push (.row (two.map AV.str) .own) = h3 at *
            have z : eqInt ((signN (s.drop i) : Nat) : Int) 0 = decide (signN (s.drop i) = 0) := by
              rw [eqI]; by_cases y : signN (s.drop i) = 0 <;> simp [y]
            simp only [z]
            by_cases y : signN (s.drop i) = 0
            · simp only [y, decide_true, cond_true]
              rw [if_pos y] at nn
              exact rlex_bad (N := N) q nn (c.trans c3)
            · simp only [y, decide_false, cond_false]
              rw [if_neg y] at nn
              have hs1 := nextTok_some nn
              rw [List.length_drop] at hs1
              rw [show (i : Int) + (signN (s.drop i) : Int) = ((i + signN (s.drop i) : Nat) : Int) by simp, wrap_nat (by omega), slice_to (by omega) (by omega), sub_eq]
              simp only [bindV_some, cast_str]
              generalize hxx : (s.drop i).take (signN (s.drop i)) = xx at *
              rw [stT o3, need_some]
              have o4 := own_put o3 (tkc 0 xx (i : Int))
              have c4 := st o3 c3 0 xx
              rw [stK o4, need_some]
              have c5 := st o4 c4 5 xx
              rw [cells3 (own_put o4 _)]
              exact rlex_step hs hN q hx ih hM nn (c.trans c5) (o.chg c5 (by simp)) rfl
    · unfold RLex
      rw [lexG_end M s i (by omega)]
      simp only [q, decide_false, cond_false]
      refine ⟨_, _, rfl, c, by rw [List.append_nil]; exact o, by rw [List.append_nil]; omega⟩
theorem f28_eq (hs : s.length ≤ 1048576) (hN : s.length < N) (hN2 : 20 ≤ N) (h : Heap) : ∃ r h', f28 N s h = some (r, h') ∧ Chg [] h h' ∧ match lexT N s with
    | .inl l => r.2.1 = 0 ∧ Ow h.next h' r.1 3 (l.map tokD) ∧ l.length ≤ s.length + 1
    | .inr a => r.2.1 = 20 ∧ r.2.2.1 = (a : Int) := by
  unfold f28 lexT
  have z : ltInt 1048576 (Int.ofNat s.length) = false := by rw [ltI, decide_eq_false_iff_not]; show ¬ (1048576 : Int) < (s.length : Int); omega
  simp only [z, cond_false]
  have f9 := f64_eq (by omega) hN (Nat.zero_le _) h
  rw [List.drop_zero, Nat.zero_add, show ((0 : Nat) : Int) = 0 from rfl] at f9
  rw [f9, bind2_some]
  have hb := blankN_le s false
  have lp := rlex_loop hs hN hN2 (h0 := h) N (blankN false s) ⟨none, 0, 0, 0⟩ [] h hb (by omega) (by simp) (Chg.refl _ _) (Ow.nil _ _ _ _)
  unfold RLex at lp
  cases hl : lexG N (s.drop (blankN false s)) (blankN false s) with
  | inl l =>
    rw [hl] at lp
    obtain ⟨v', H', e, c, o, hll⟩ := lp
    rw [e]
    simp only [bind3_some, eqOut_exit, decide_true, cond_true]
    obtain ⟨v2, H2, ea, oa, ca⟩ := append_tok c o (by omega) 0 [] s.length
    rw [show Int.ofNat s.length = ((s.length : Nat) : Int) from rfl, ea]
    refine ⟨_, _, rfl, ca, rfl, oa, ?_⟩
    simpa using hll
  | inr a =>
    rw [hl] at lp
    obtain ⟨v', H', e, c⟩ := lp
    rw [e]
    simp only [bind3_some, eqOut_ret, cond_false]
    exact ⟨_, _, rfl, c, rfl, rfl⟩
end
end Go.Proofs.YtkcjphhjmlienaaGreatDoor.Qp

set_option linter.unusedVariables false
set_option linter.unusedSimpArgs false
open Go Go.Proofs.YtkcjphhjmlienaaGreatDoor.Ai Go.Proofs
namespace Go.Proofs.YtkcjphhjmlienaaGreatDoor.Qp
/-! tokens, parser's states: where it stands, what was wrong first -/
def isSign (x : Bs) : Bool := (match x with | [c] => memB c oneL | _ => false) || anyEq x two
structure TokOK (q : Tok) : Prop where
  word : q.1 = 2 → isWord q.2.1 = true
  sign : q.1 = 5 → isSign q.2.1 = true
  len : q.2.1.length ≤ 3000000
structure Toks (T : List Tok) : Prop where
  ok : ∀ q ∈ T, TokOK q
  ends : ∀ (i : Nat) (hi : i < T.length), (T[i]).1 ≠ 0 → i + 1 < T.length
  len : T.length ≤ 2000000
def tk (T : List Tok) (i : Nat) : Tok := T.getD i (0, [], 0)
theorem tk_at {T : List Tok} {i : Nat} (hi : i < T.length) : tk T i = T[i] := by simp [tk, hi]
abbrev Er := Option (Int × Int)
abbrev St := Nat × Er
def failS (T : List Tok) (c : Int) : St → St
  | (i, none) => (i, some (c, ((tk T i).2.2 : Int)))
  | (i, some e) => (i, some e)
def isS (T : List Tok) (w : Bs) (i : Nat) : Bool := decide ((tk T i).1 = 2 ∨ (tk T i).1 = 5) && eqBytes (tk T i).2.1 w
def optS (T : List Tok) (w : Bs) : St → Bool × St
  | (i, none) => if isS T w i = true then (true, (i + 1, none)) else (false, (i, none))
  | (i, some e) => (false, (i, some e))
def textS (T : List Tok) (k : Int) : St → Bs × St
  | (i, none) => if (tk T i).1 = k then ((tk T i).2.1, (i + 1, none)) else ([], failS T 21 (i, none))
  | (i, some e) => ([], (i, some e))
def wantS (T : List Tok) (w : Bs) (σ : St) : St := if (optS T w σ).1 = true then (optS T w σ).2 else failS T 21 (optS T w σ).2
def nameS (T : List Tok) (σ : St) : Bs × St :=
  let a := textS T 1 σ
  let b := optS T [58, 58] a.2
  if b.1 = true then let c := textS T 1 b.2; (a.1 ++ [58, 58] ++ c.1, c.2) else (a.1, b.2)
/-! the program's parser -/
def ErrV (h : Heap) (P : Nat) (X : List Nat) (v : AV) : Er → Prop
  | none => v = AV.nilIface
  | some (c, a) => ∃ A, v = AV.iface 127 (.ptr (some (A, 0))) ∧ (A ≠ P ∧ A ∉ X) ∧ h.own A [.int .i64 c, .int .i64 a, AV.iface 78 (.int .i64 c)]
/-- the parser's record at P; a fault lies in none of the blocks X -/
structure PA (T : List Tok) (P : Nat) (X : List Nat) (h : Heap) (σ : St) (st : Int) : Prop where
  ex : ∃ s v, h.own P [SL.av s, .int .i64 (σ.1 : Int), .int .i64 st, v] ∧ Sl h (fun C => C < P) s (T.map tokD) ∧ (s.sz = 3) ∧ ErrV h P X v σ.2
  lt : σ.1 < T.length
  xl : ∀ A ∈ X, P < A ∧ A < h.next
theorem ErrV.chg {h h' : Heap} {P : Nat} {X : List Nat} {v : AV} {e : Er} {M : List Nat} (x : ErrV h P X v e) (c : Chg M h h') (hM : ∀ A ∈ M, A = P ∨ A ∈ X) : ErrV h' P X v e := by
  cases e with
  | none => exact x
  | some q =>
    obtain ⟨A, h1, h2, h3⟩ := x
    exact ⟨A, h1, h2, h3.chg c fun hm => by rcases hM A hm with q | q; exact h2.1 q; exact h2.2 q⟩
section
variable {T : List Tok} {P : Nat} {X : List Nat} {h h' : Heap} {σ : St} {st : Int}
theorem PA.P_lt (x : PA T P X h σ st) : P < h.next := by
  obtain ⟨⟨s, v, h1, h2, h3, h4⟩, h5, h6⟩ := x
  exact h1.2
theorem PA.chgM {M : List Nat} (x : PA T P X h σ st) (c : Chg M h h') (hM : ∀ A ∈ M, A ∈ X) : PA T P X h' σ st := by
  obtain ⟨⟨s, v, h1, h2, h3, h4⟩, h5, h6⟩ := x
  refine ⟨⟨s, v, h1.chg c (fun hm => by have := h6 P (hM P hm); omega), h2.chg c (fun A hA hm => by have := h6 A (hM A hm); have hA : A < P := hA; omega), h3, h4.chg c fun A hA => .inr (hM A hA)⟩, h5, fun A hA => ?_⟩
  have := h6 A hA
  exact ⟨this.1, Nat.lt_of_lt_of_le this.2 c.next⟩
theorem PA.chg (x : PA T P X h σ st) (c : Chg [] h h') : PA T P X h' σ st := x.chgM c (by simp)
theorem PA.chg1 {A : Nat} (x : PA T P X h σ st) (c : Chg [A] h h') (hA : A ∈ X) : PA T P X h' σ st := x.chgM c (by simpa using hA)
theorem PA.free {i : Nat} (x : PA T P X h (i, none) st) {X' : List Nat} (hX : ∀ A ∈ X', P < A ∧ A < h.next) : PA T P X' h (i, none) st := by
  obtain ⟨⟨s, v, h1, h2, h3, h4⟩, h5, h6⟩ := x
  exact ⟨⟨s, v, h1, h2, h3, h4⟩, h5, hX⟩
theorem PA.sub (x : PA T P X h σ st) {X' : List Nat} (hX : ∀ A ∈ X', A ∈ X) : PA T P X' h σ st := by
  obtain ⟨⟨s, v, h1, h2, h3, h4⟩, h5, h6⟩ := x
  refine ⟨⟨s, v, h1, h2, h3, ?_⟩, h5, fun A hA => h6 A (hX A hA)⟩
  obtain ⟨i, e⟩ := σ
  cases e with
  | none => exact h4
  | some q => obtain ⟨A, g1, g2, g3⟩ := h4; exact ⟨A, g1, ⟨g2.1, fun hm => g2.2 (hX A hm)⟩, g3⟩
/-- a new block is none of a fault -/
theorem PA.add (x : PA T P X h σ st) (c : Chg [] h h') {A : Nat} (h1 : h.next ≤ A) (h2 : A < h'.next) : PA T P (A :: X) h' σ st := by
  have hP := x.P_lt
  obtain ⟨⟨s, v, g1, g2, g3, g4⟩, g5, g6⟩ := x.chg c
  obtain ⟨⟨s', v', f1, f2, f3, f4⟩, f5, f6⟩ := x
  refine ⟨⟨s', v', f1.chg c (by simp), f2.chg c (by simp), f3, ?_⟩, g5, fun C hC => ?_⟩
  · obtain ⟨i, e⟩ := σ
    cases e with
    | none => exact f4
    | some q =>
      obtain ⟨C, k1, k2, k3⟩ := f4
      refine ⟨C, k1, ⟨k2.1, fun hm => ?_⟩, k3.chg c (by simp)⟩
      rcases List.mem_cons.1 hm with rfl | hm
      · have := k3.2; omega
      · exact k2.2 hm
  · rcases List.mem_cons.1 hC with rfl | hC
    · omega
    · exact g6 C hC
end
theorem f37_at (N : Nat) {c : Int} (hc : c ≠ 0) (a : Int) (h : Heap) : ∃ h', f37 N c a h = some (AV.iface 127 (.ptr (some (h.next, 0))), h') ∧ Chg [] h h' ∧ h'.own h.next [.int .i64 c, .int .i64 a, AV.iface 78 (.int .i64 c)] := by
  unfold f37
  have : eqInt c 0 = false := by rw [eqI]; simpa using hc
  simp only [this, cond_false]
  exact ⟨_, rfl, chg_push _ _, own_push h _⟩
theorem eq_nil (k : Nat) : binA E .eql 29 (.tmp k) (.const .nilIface) AV.nilIface AV.nilIface = some (.bool true) := by kernel_rfl
theorem eq_fault (k : Nat) (v : AV) : binA E .eql 29 (.tmp k) (.const .nilIface) (AV.iface 127 v) AV.nilIface = some (.bool false) := by kernel_rfl
theorem ne_nil (k : Nat) : binA E .neq 29 (.tmp k) (.const .nilIface) AV.nilIface AV.nilIface = some (.bool false) := by kernel_rfl
theorem ne_fault (k : Nat) (v : AV) : binA E .neq 29 (.tmp k) (.const .nilIface) (AV.iface 127 v) AV.nilIface = some (.bool true) := by kernel_rfl
theorem ErrV.eq {h : Heap} {P : Nat} {X : List Nat} {v : AV} {e : Er} (x : ErrV h P X v e) (k : Nat) : binA E .eql 29 (.tmp k) (.const .nilIface) v AV.nilIface = some (.bool e.isNone) := by
  cases e with
  | none => rw [show v = AV.nilIface from x]; exact eq_nil k
  | some q => obtain ⟨A, h1, _⟩ := x; rw [h1]; exact eq_fault k _
theorem ErrV.ne {h : Heap} {P : Nat} {X : List Nat} {v : AV} {e : Er} (x : ErrV h P X v e) (k : Nat) : binA E .neq 29 (.tmp k) (.const .nilIface) v AV.nilIface = some (.bool e.isSome) := by
  cases e with
  | none => rw [show v = AV.nilIface from x]; exact ne_nil k
  | some q => obtain ⟨A, h1, _⟩ := x; rw [h1]; exact ne_fault k _
theorem dt_tokAt {h : Heap} {V : Nat → Prop} {s : SL} {T : List Tok} (hs : Sl h V s (T.map tokD)) (h3 : s.sz = 3) {i : Nat} (hi : i < T.length) : h.cells (s.at i 3) 3 = some (.agg (tkc (tk T i).1 (tk T i).2.1 ((tk T i).2.2 : Int))) ∧ s.a.isSome = true ∧ i < s.len := by
  obtain ⟨cs, e⟩ := hs.elt (i := i) (by rw [List.length_map]; exact hi)
  rw [h3] at e
  have hd := e.dt
  rw [List.getElem_map] at hd
  rw [tk_at hi, e.whole, dt_tok' hd]
  exact ⟨rfl, hs.isSome (by rw [List.length_map]; omega), by rw [hs.len, List.length_map]; exact hi⟩
theorem agg3 {β : Type} (k : Int) (x : Bs) (a : Int) (K : (Int × List UInt8 × Int × Unit) → Option β) : bindV (.val (.agg [(.int .i64), .str, (.int .i64)])) (some (.agg (tkc k x a))) K = K (k, x, a, ()) := by
  simp [tkc]
abbrev TT := Int × List UInt8 × Int × Unit
def ttOf (q : Tok) : TT := (q.1, q.2.1, (q.2.2 : Int), ())
section
variable {N : Nat} {T : List Tok} {P : Nat} {X : List Nat} {h : Heap} {σ : St} {st : Int}
theorem f56_eq (x : PA T P X h σ st) : ∃ h', f56 N (some (P, 0)) h = some (ttOf (tk T σ.1), h') ∧ Chg [] h h' := by
  obtain ⟨⟨s, v, h1, h2, h3, h4⟩, h5, h6⟩ := x
  unfold f56
  have o1 := own_push h (tkc 0 [] 0)
  have c1 := chg_push h (.row (tkc 0 [] 0) .own)
  have e1 : h.push (.row [(.int .i64 0), (.str []), (.int .i64 0)] .own) = h.push (.row (tkc 0 [] 0) .own) := rfl
  rw [e1]
  generalize h.push (.row (tkc 0 [] 0) .own) = hh at *
  dsimp only
  have g1 := h1.chg c1 (by simp)
  have k0 : hh.cell (P, 0) = some (SL.av s) := g1.cell 0
  have k1 : hh.cell (P, 1) = some (.int .i64 (σ.1 : Int)) := g1.cell 1
  obtain ⟨d1, d2, d3⟩ := dt_tokAt (h2.chg c1 (by simp)) h3 h5
  simp only [need_some, Nat.add_zero, Nat.zero_add, k0, k1, bindV_some, SL.av, cast_slice, cast_int]
  rw [ixK_at d2 d3, d1, agg3]
  rw [fin3 o1 rfl]
  exact ⟨_, rfl, c1.put (.inr (Nat.le_refl _)) _⟩
/-- storing into the parser's record -/
theorem PA.setErr {i : Nat} {c a : Int} (x : PA T P X h (i, none) st) {A : Nat} (hA : A ≠ P ∧ A ∉ X) (ho : h.own A [.int .i64 c, .int .i64 a, AV.iface 78 (.int .i64 c)]) : ∃ h', h.store (P, 3) [AV.iface 127 (.ptr (some (A, 0)))] = some h' ∧ Chg [P] h h' ∧ PA T P X h' (i, some (c, a)) st := by
  obtain ⟨⟨s, v0, h1, h2, h3, h4⟩, h5, h6⟩ := x
  exact ⟨_, h1.store1 (j := 3) (by show 3 < 4; omega) _, h1.put _, ⟨s, _, own_put h1 _, h2.chg (h1.put _) (by intro C hC hm; rw [List.mem_singleton] at hm; have hC : C < P := hC; omega), h3, A, rfl, hA, ho.chg (h1.put _) (by rw [List.mem_singleton]; exact hA.1)⟩, h5, h6⟩
theorem PA.setI {i : Nat} (x : PA T P X h (i, none) st) {j : Nat} (hj : j < T.length) : ∃ h', h.store (P, 1) [.int .i64 (j : Int)] = some h' ∧ Chg [P] h h' ∧ PA T P X h' (j, none) st := by
  obtain ⟨⟨s, v0, h1, h2, h3, h4⟩, h5, h6⟩ := x
  exact ⟨_, h1.store1 (j := 1) (by show 1 < 4; omega) (.int .i64 (j : Int)), h1.put _, ⟨s, v0, own_put h1 _, h2.chg (h1.put _) (by intro C hC hm; rw [List.mem_singleton] at hm; have hC : C < P := hC; omega), h3, h4⟩, hj, h6⟩
theorem PA.readI (x : PA T P X h σ st) : h.cell (P, 1) = some (.int .i64 (σ.1 : Int)) := by
  obtain ⟨⟨s, v0, h1, h2, h3, h4⟩, h5, h6⟩ := x
  exact h1.cell 1
theorem PA.readE (x : PA T P X h σ st) : ∃ v, h.cell (P, 3) = some v ∧ ErrV h P X v σ.2 := by
  obtain ⟨⟨s, v0, h1, h2, h3, h4⟩, h5, h6⟩ := x
  exact ⟨v0, h1.cell 3, h4⟩
theorem f57_eq (x : PA T P X h σ st) {c : Int} (hc : c ≠ 0) : ∃ h', f57 N (some (P, 0)) c h = some ((), h') ∧ Chg [P] h h' ∧ PA T P X h' (failS T c σ) st := by
  unfold f57
  obtain ⟨v, k3, hv⟩ := x.readE
  simp only [need_some, Nat.zero_add, k3, bindV_some, cast_any, hv.eq 7, cast_bool]
  obtain ⟨i, e⟩ := σ
  cases e with
  | some q => exact ⟨_, rfl, Chg.refl _ _, x⟩
  | none =>
    simp only [Option.isNone_none, cond_true]
    obtain ⟨h2, e2, c2⟩ := f56_eq (N := N) x
    rw [e2, bind2_some]
    obtain ⟨h3, e3, c3, o3⟩ := f37_at N hc ((tk T i).2.2 : Int) h2
    simp only [ttOf]
    rw [e3, bind2_some]
    have x3 := (x.chg c2).chg c3
    obtain ⟨h4, e4, c4, x4⟩ := PA.setErr x3 ⟨by have := (x.chg c2).P_lt; omega, fun hm => by have := (x.chg c2).xl _ hm; omega⟩ o3
    rw [show AV.single (AV.iface 127 (.ptr (some (h2.next, 0)))) = true from rfl, guardB_true, e4, need_some]
    exact ⟨_, rfl, ((c2.trans c3).mono (by simp)).trans c4, x4⟩
end
end Go.Proofs.YtkcjphhjmlienaaGreatDoor.Qp

set_option linter.unusedVariables false
set_option linter.unusedSimpArgs false
open Go Go.Proofs.YtkcjphhjmlienaaGreatDoor.Ai Go.Proofs
namespace Go.Proofs.YtkcjphhjmlienaaGreatDoor.Qp
theorem tkOK {T : List Tok} (hT : Toks T) {i : Nat} (hi : i < T.length) : TokOK (tk T i) := by rw [tk_at hi]; exact hT.ok _ (List.getElem_mem hi)
theorem tkNext {T : List Tok} (hT : Toks T) {i : Nat} (hi : i < T.length) (h0 : (tk T i).1 ≠ 0) : i + 1 < T.length := hT.ends i hi (by rw [← tk_at hi]; exact h0)
theorem eqB {a b : Bs} : eqBytes a b = true ↔ a = b := by rw [eqBytes_eq, beq_iff_eq]
theorem isS_word {T : List Tok} {w : Bs} {i : Nat} (ok : TokOK (tk T i)) (hw : isSign w = false) : isS T w i = (decide ((tk T i).1 = 2) && eqBytes (tk T i).2.1 w) := by
  unfold isS
  by_cases q2 : (tk T i).1 = 2
  · simp [q2]
  · by_cases q5 : (tk T i).1 = 5
    · have : eqBytes (tk T i).2.1 w = false := by
        cases e : eqBytes (tk T i).2.1 w with
        | false => rfl
        | true =>
          have := ok.sign q5
          rw [eqB.1 e, hw] at this; cases this
      simp [q2, q5, this]
    · simp [q2, q5]
theorem isS_sign {T : List Tok} {w : Bs} {i : Nat} (ok : TokOK (tk T i)) (hw : isWord w = false) : isS T w i = (decide ((tk T i).1 = 5) && eqBytes (tk T i).2.1 w) := by
  unfold isS
  by_cases q5 : (tk T i).1 = 5
  · simp [q5]
  · by_cases q2 : (tk T i).1 = 2
    · have : eqBytes (tk T i).2.1 w = false := by
        cases e : eqBytes (tk T i).2.1 w with
        | false => rfl
        | true =>
          have := ok.word q2
          rw [eqB.1 e, hw] at this; cases this
      simp [q2, q5, this]
    · simp [q2, q5]
section
variable {N : Nat} {T : List Tok} {P : Nat} {X : List Nat} {h : Heap} {σ : St} {st : Int}
theorem tokRow (h : Heap) (q : Tok) : ∃ h', (h.push (.row [(.int .i64 0), (.str []), (.int .i64 0)] .own)).store (h.next, 0) [(.int .i64 (ttOf q).1), (.str (ttOf q).2.1), (.int .i64 (ttOf q).2.2.1)] = some h' ∧ Chg [] h h' ∧ h'.own h.next (tkc q.1 q.2.1 (q.2.2 : Int)) := by
  have o1 := own_push h (tkc 0 [] 0)
  exact ⟨_, o1.store rfl, (chg_push h _).put (.inr (Nat.le_refl _)) _, own_put o1 _⟩
theorem f146_eq (x : PA T P X h σ st) (k : Int) (w : Bs) : ∃ h', f146 N (some (P, 0)) k w h = some (σ.2.isNone && (decide ((tk T σ.1).1 = k) && eqBytes (tk T σ.1).2.1 w), h') ∧ Chg [] h h' := by
  unfold f146
  obtain ⟨h2, e2, c2⟩ := f56_eq (N := N) x
  rw [e2, bind2_some]
  obtain ⟨h4, e4, c4, o4⟩ := tokRow h2 (tk T σ.1)
  dsimp only
  rw [e4, need_some]
  have c5 := c2.trans c4
  obtain ⟨v, k3, hv⟩ := (x.chg c5).readE
  simp only [need_some, Nat.zero_add, k3, bindV_some, cast_any, hv.eq 13, cast_bool]
  cases σ.2.isNone with
  | false => exact ⟨_, rfl, c5⟩
  | true =>
    simp only [cond_true, Bool.true_and, Nat.add_zero]
    have r0 : h4.cell (h2.next, 0) = some (.int .i64 (tk T σ.1).1) := o4.cell 0
    have r1 : h4.cell (h2.next, 1) = some (.str (tk T σ.1).2.1) := o4.cell 1
    simp only [r0, r1, bindV_some, cast_int, cast_str, eqI]
    by_cases q : (tk T σ.1).1 = k
    · simp only [q, decide_true, cond_true, Bool.true_and]; exact ⟨_, rfl, c5⟩
    · simp only [q, decide_false, cond_false, Bool.false_and]; exact ⟨_, rfl, c5⟩
theorem wrapI {i : Nat} (hT : Toks T) (hi : i < T.length) : wrapA .i64 ((i : Int) + 1) = ((i + 1 : Nat) : Int) := wrap_succ (by have := hT.len; omega)
/-- a word, a sign, if it is there -/
theorem opt_step (hT : Toks T) (x : PA T P X h σ st) {w : Bs} {b : Bool} {h2 : Heap} (c2 : Chg [] h h2) (hb : b = (σ.2.isNone && isS T w σ.1)) :
    ∃ h', (let x3 : Bool := !b
      (bif x3 then
        some (false, h2)
       else
        (need (some (P, 0)) fun q4 =>
        (bindV (.val (.one (.int .i64))) (h2.cell (q4.1, q4.2 + 1)) fun (x5 : Int) =>
        let x6 : Int := wrapA .i64 (x5 + 1)
        (need (some (P, 0)) fun q7 =>
        (need (h2.store (q7.1, q7.2 + 1) [(.int .i64 x6)]) fun h8 =>
        some (true, h8))))))) = some ((optS T w σ).1, h') ∧ Chg [P] h h' ∧ PA T P X h' (optS T w σ).2 st := by
  have x2 := x.chg c2
  obtain ⟨i, e⟩ := σ
  subst hb
  cases e with
  | some q => exact ⟨_, rfl, c2.mono (by simp), x2⟩
  | none =>
    simp only [Option.isNone_none, Bool.true_and, optS]
    cases hs : isS T w i with
    | false => simp only [Bool.not_false, cond_true, Bool.false_eq_true, if_false]; exact ⟨_, rfl, c2.mono (by simp), x2⟩
    | true =>
      simp only [Bool.not_true, cond_false, if_true, need_some, Nat.zero_add, x2.readI, bindV_some, cast_int]
      have h0 : (tk T i).1 ≠ 0 := by
        intro e0
        simp [isS, e0] at hs
      have hn := tkNext hT x.lt h0
      rw [wrapI hT x.lt]
      obtain ⟨h8, e8, c8, x8⟩ := PA.setI x2 hn
      rw [e8, need_some]
      exact ⟨_, rfl, (c2.mono (by simp)).trans c8, x8⟩
theorem f92_eq (hT : Toks T) (x : PA T P X h σ st) {w : Bs} (hw : isSign w = false) : ∃ h', f92 N (some (P, 0)) w h = some ((optS T w σ).1, h') ∧ Chg [P] h h' ∧ PA T P X h' (optS T w σ).2 st := by
  unfold f92
  obtain ⟨h2, e2, c2⟩ := f146_eq (N := N) x 2 w
  rw [e2, bind2_some]
  exact opt_step hT x c2 (by rw [isS_word (tkOK hT x.lt) hw])
theorem f93_eq (hT : Toks T) (x : PA T P X h σ st) {w : Bs} (hw : isWord w = false) : ∃ h', f93 N (some (P, 0)) w h = some ((optS T w σ).1, h') ∧ Chg [P] h h' ∧ PA T P X h' (optS T w σ).2 st := by
  unfold f93
  obtain ⟨h2, e2, c2⟩ := f146_eq (N := N) x 5 w
  rw [e2, bind2_some]
  exact opt_step hT x c2 (by rw [isS_sign (tkOK hT x.lt) hw])
theorem f94_eq (hT : Toks T) (x : PA T P X h σ st) {k : Int} (hk : k ≠ 0) : ∃ h', f94 N (some (P, 0)) k h = some ((textS T k σ).1, h') ∧ Chg [P] h h' ∧ PA T P X h' (textS T k σ).2 st := by
  unfold f94
  obtain ⟨h2, e2, c2⟩ := f56_eq (N := N) x
  rw [e2, bind2_some]
  obtain ⟨h4, e4, c4, o4⟩ := tokRow h2 (tk T σ.1)
  dsimp only
  rw [e4, need_some]
  have c5 := c2.trans c4
  have x5 := x.chg c5
  obtain ⟨v, k3, hv⟩ := x5.readE
  simp only [need_some, Nat.zero_add, k3, bindV_some, cast_any, hv.ne 11, cast_bool]
  obtain ⟨i, e⟩ := σ
  cases e with
  | some q =>
    simp only [Option.isSome_some, cond_true, textS]
    obtain ⟨h9, e9, c9, x9⟩ := f57_eq (N := N) x5 (c := 21) (by decide)
    rw [e9, bind2_some]
    exact ⟨_, rfl, (c5.mono (by simp)).trans c9, x9⟩
  | none =>
    simp only [Option.isSome_none, cond_false, Nat.add_zero]
    have r0 : h4.cell (h2.next, 0) = some (.int .i64 (tk T i).1) := o4.cell 0
    simp only [r0, bindV_some, cast_int, eqI, textS]
    by_cases q : (tk T i).1 = k
    · simp only [q, decide_true, Bool.not_true, cond_false, if_true, x5.readI, bindV_some, cast_int, need_some]
      have hn := tkNext hT x.lt (by rw [q]; exact hk)
      rw [wrapI hT x.lt]
      obtain ⟨h8, e8, c8, x8⟩ := PA.setI x5 hn
      rw [e8, need_some]
      have hP : h2.next ≠ P := by have := (x.chg c2).P_lt; omega
      have r1 : h8.cell (h2.next, 1) = some (.str (tk T i).2.1) := (o4.chg c8 (by simpa using hP)).cell 1
      simp only [r1, bindV_some, cast_str]
      exact ⟨_, rfl, (c5.mono (by simp)).trans c8, x8⟩
    · simp only [q, decide_false, Bool.not_false, cond_true, if_false]
      obtain ⟨h9, e9, c9, x9⟩ := f57_eq (N := N) x5 (c := 21) (by decide)
      rw [e9, bind2_some]
      exact ⟨_, rfl, (c5.mono (by simp)).trans c9, x9⟩
theorem textS_len (hT : Toks T) (k : Int) (hi : σ.1 < T.length) : (textS T k σ).1.length ≤ 3000000 := by
  obtain ⟨i, e⟩ := σ
  cases e with
  | some q => simp [textS]
  | none =>
    simp only [textS]
    split
    · exact (tkOK hT hi).len
    · simp
theorem binAdd {a b : Bs} (h : a.length + b.length ≤ 1099511627776) : binStr .add a b = some (.str (a ++ b)) := by
  have : Nat.ble (a.length + b.length) 1099511627776 = true := by rw [Nat.ble_eq]; exact h
  simp only [binStr, this, cond_true]
theorem f95_eq (hT : Toks T) (x : PA T P X h σ st) : ∃ h', f95 N (some (P, 0)) h = some ((nameS T σ).1, h') ∧ Chg [P] h h' ∧ PA T P X h' (nameS T σ).2 st := by
  unfold f95
  obtain ⟨h2, e2, c2, x2⟩ := f94_eq (N := N) hT x (k := 1) (by decide)
  have l2 := textS_len hT 1 x.lt
  rw [e2, bind2_some]
  obtain ⟨h4, e4, c4, x4⟩ := f93_eq (N := N) hT x2 (w := [58, 58]) (by decide)
  rw [e4, bind2_some]
  have c5 := c2.trans c4
  simp only [nameS]
  cases hb : (optS T [58, 58] (textS T 1 σ).2).1 with
  | false => simp only [cond_false, Bool.false_eq_true, if_false]; exact ⟨_, rfl, c5, x4⟩
  | true =>
    simp only [cond_true, if_true]
    obtain ⟨h7, e7, c7, x7⟩ := f94_eq (N := N) hT x4 (k := 1) (by decide)
    have l7 := textS_len hT 1 x4.lt
    rw [binAdd (by simp only [List.length_cons, List.length_nil]; omega)]
    simp only [bindV_some, cast_str]
    rw [e7, bind2_some, binAdd (by simp only [List.length_append, List.length_cons, List.length_nil]; omega)]
    simp only [bindV_some, cast_str]
    exact ⟨_, rfl, c5.trans c7, x7⟩
theorem f188_eq (x : PA T P X h σ st) (n : Nat) : ∃ h', f188 N (some (P, 0)) (n : Int) h = some (((if 64 ≤ n then failS T 5 σ else σ).2).isNone, h') ∧ Chg [P] h h' ∧ PA T P X h' (if 64 ≤ n then failS T 5 σ else σ) st := by
  unfold f188
  have z : leInt 64 (n : Int) = decide (64 ≤ n) := le_nat 64 n
  simp only [z]
  by_cases q : 64 ≤ n
  · simp only [q, decide_true, cond_true, if_true]
    obtain ⟨h2, e2, c2, x2⟩ := f57_eq (N := N) x (c := 5) (by decide)
    rw [e2, bind2_some]
    obtain ⟨v, k3, hv⟩ := x2.readE
    simp only [need_some, Nat.zero_add, k3, bindV_some, cast_any, hv.eq 12, cast_bool]
    exact ⟨_, rfl, c2, x2⟩
  · simp only [q, decide_false, cond_false, if_false]
    obtain ⟨v, k3, hv⟩ := x.readE
    simp only [need_some, Nat.zero_add, k3, bindV_some, cast_any, hv.eq 12, cast_bool]
    exact ⟨_, rfl, Chg.refl _ _, x⟩
theorem f149_eq (hT : Toks T) (x : PA T P X h σ st) {w : Bs} (hw : isWord w = false) : ∃ h', f149 N (some (P, 0)) w h = some ((), h') ∧ Chg [P] h h' ∧ PA T P X h' (wantS T w σ) st := by
  unfold f149 wantS
  obtain ⟨h2, e2, c2, x2⟩ := f93_eq (N := N) hT x hw
  rw [e2, bind2_some]
  cases hb : (optS T w σ).1 with
  | true => simp only [Bool.not_true, cond_false, if_true]; exact ⟨_, rfl, c2, x2⟩
  | false =>
    simp only [Bool.not_false, cond_true, Bool.false_eq_true, if_false]
    obtain ⟨h3, e3, c3, x3⟩ := f57_eq (N := N) x2 (c := 21) (by decide)
    rw [e3, bind2_some]
    exact ⟨_, rfl, c2.trans c3, x3⟩
end
end Go.Proofs.YtkcjphhjmlienaaGreatDoor.Qp

set_option linter.unusedVariables false
set_option linter.unusedSimpArgs false
open Go Go.Proofs.YtkcjphhjmlienaaGreatDoor.Ai Go.Proofs
namespace Go.Proofs.YtkcjphhjmlienaaGreatDoor.Qp
/-! lists of lifetimes -/
def livesS (T : List Tok) : Nat → St → List Bs × St
  | 0, σ => ([], failS T 5 σ)
  | g + 1, σ => let a := textS T 3 σ; let b := optS T [44] a.2; if b.1 = true then ((a.1 :: (livesS T g b.2).1), (livesS T g b.2).2) else ([a.1], b.2)
def lifesS (T : List Tok) (σ : St) : List Bs × St :=
  let b := optS T [60] σ
  if b.1 = true then ((livesS T 64 b.2).1, wantS T [62] (livesS T 64 b.2).2) else ([], b.2)
theorem optS_none {T : List Tok} {w : Bs} {σ : St} (h : (optS T w σ).1 = true) : (optS T w σ).2 = (σ.1 + 1, none) ∧ σ.2 = none := by
  obtain ⟨i, e⟩ := σ
  cases e with
  | some q => simp [optS] at h
  | none =>
    simp only [optS] at h ⊢
    split at h
    · rename_i q; rw [if_pos q]; simp
    · cases h
theorem app38 : AppN E 38 9 1 100 := AppN.of (by kernel_rfl)
theorem dt_str (h : Heap) (V : Nat → Prop) (x : Bs) : Dt h V (.s x) [.str x] := by simp only [Dt]
section
variable {N : Nat} {T : List Tok} {P : Nat} {X : List Nat} {st : Int}
theorem append_str {h0 H : Heap} {M : List Nat} {v : SL} {xs : List Bs} (c : Chg M h0 H) (x : Ow h0.next H v 1 (xs.map D.s)) (hl : xs.length ≤ 2000000) (t : Bs) :
    ∃ v' H', (∀ {β : Type} (K : SL → Heap → Option β), bindT (.val (.one .slice)) (appendA E 38 38 (.slice v.a v.len v.cap v.sz) (.slice (some (H.next, 0)) 1 1 1) (H.push (.row [(.str t)] .own))) K = K v' H') ∧ Ow h0.next H' v' 1 ((xs ++ [t]).map D.s) ∧ Chg v.blk.toList H H' := by
  obtain ⟨s', h', e, o, c', _⟩ := append_ow (cs := [AV.str t]) app38 (by decide) x (dt_str H _ t) rfl c.next (by rw [List.length_map]; omega)
  refine ⟨s', h', fun K => ?_, ?_, c'⟩
  · have e' : appendA E 38 38 (.slice v.a v.len v.cap v.sz) (.slice (some (H.next, 0)) 1 1 1) (H.push (.row [(.str t)] .own)) = some (.slice s'.a s'.len s'.cap s'.sz, h') := e
    rw [e']; simp only [bindT_some, cast_slice]
  · rw [List.map_append]; exact o
/-- one lifetime more: 'out' lies at O, the parser's pointer at Q -/
theorem f148_eq (hT : Toks T) {h0 h : Heap} {O Q i : Nat} (x : PA T P X h (i, none) st) (hX : O ∈ X) (c : Chg [P, O] h0 h) (hO : P < O ∧ O < h0.next) (hQ : Q ≠ P ∧ Q ≠ O ∧ Q < h0.next) {v : SL} {xs : List Bs} (oO : h.own O [SL.av v]) (oQ : h.own Q [.ptr (some (P, 0))]) (ow : Ow h0.next h v 1 (xs.map D.s)) (hl : xs.length ≤ 2000000) :
    ∃ v' h', f148 N (some (O, 0)) (some (Q, 0)) h = some ((), h') ∧ PA T P X h' (textS T 3 (i, none)).2 st ∧ Chg [P, O] h0 h' ∧ h'.own O [SL.av v'] ∧ h'.own Q [.ptr (some (P, 0))] ∧ Ow h0.next h' v' 1 ((xs ++ [(textS T 3 (i, none)).1]).map D.s) := by
  unfold f148
  have rO : h.cell (O, 0) = some (SL.av v) := oO.cell 0
  have rQ : h.cell (Q, 0) = some (.ptr (some (P, 0))) := oQ.cell 0
  have hn := c.next
  have hge : ∀ A ∈ v.blk.toList, h0.next ≤ A ∧ A < h.next := fun A hA => ow.ge A (by simpa using hA)
  have xr := x.free (X' := v.blk.toList ++ X) (fun A hA => by
    rcases List.mem_append.1 hA with hA | hA
    · have := hge A hA; omega
    · exact x.xl A hA)
  obtain ⟨h6, e6, c6, x6⟩ := f94_eq (N := N) hT xr (k := 3) (by decide)
  simp only [need_some, rO, rQ, SL.av, bindV_some, cast_slice, cast_ptr]
  rw [e6, bind2_some]
  have oO6 : h6.own O [SL.av v] := oO.chg c6 (by simp; omega)
  have oQ6 : h6.own Q [.ptr (some (P, 0))] := oQ.chg c6 (by simp; omega)
  have c06 : Chg [P, O] h0 h6 := c.trans (c6.mono (by simp))
  have ow6 : Ow h0.next h6 v 1 (xs.map D.s) := ow.chg c6 (by intro A hA; rw [List.mem_singleton] at hA; omega)
  obtain ⟨v', h9, e9, o9, c9⟩ := append_str c06 ow6 hl (textS T 3 (i, none)).1
  rw [e9]
  have oO9 : h9.own O [SL.av v] := oO6.chg c9 (by intro hm; have := hge O hm; omega)
  have oQ9 : h9.own Q [.ptr (some (P, 0))] := oQ6.chg c9 (by intro hm; have := hge Q hm; omega)
  have hst : h9.store (O, 0) [SL.av v'] = some (h9.put O (.row [SL.av v'] .own)) := oO9.store rfl
  simp only [SL.av] at hst
  rw [hst, need_some]
  have r7 : (h6.push (.row [(.str (textS T 3 (i, none)).1)] .own)).cell (O, 0) = some (SL.av v) := (oO6.chg (chg_push h6 _) (by simp)).cell 0
  have r6 : h6.cell (O, 0) = some (SL.av v) := oO6.cell 0
  simp only [needB, rQ, r7, r6, rO, SL.av, sameO_some, cond_true, guardB_true]
  have x9 : PA T P (v.blk.toList ++ X) h9 (textS T 3 (i, none)).2 st := x6.chgM c9 (fun A hA => List.mem_append_left _ hA)
  have x10 := x9.chg1 (oO9.put [SL.av v']) (List.mem_append_right _ hX)
  have c09 : Chg [P, O] h0 h9 := c06.step c9 (fun A hA hlt => by have := hge A hA; omega)
  refine ⟨v', _, rfl, x10.sub (fun A hA => List.mem_append_right _ hA), c09.put (.inl (by simp)) _, own_put oO9 _, oQ9.chg (oO9.put [SL.av v']) (by simp; omega), o9.chg (oO9.put [SL.av v']) (by intro A hA; rw [List.mem_singleton] at hA; omega)⟩
theorem list_loop (hT : Toks T) {h0 : Heap} {O Q : Nat} (hX : O ∈ X) (hO : P < O ∧ O < h0.next) (hQ : Q ≠ P ∧ Q ≠ O ∧ Q < h0.next) : ∀ (g M : Nat) (i : Nat) (h : Heap) (v : SL) (xs : List Bs), g < M → g ≤ 64 → xs.length ≤ 64 - g → PA T P X h (i, none) st → Chg [P, O] h0 h → h.own O [SL.av v] → h.own Q [.ptr (some (P, 0))] → Ow h0.next h v 1 (xs.map D.s) →
    ∃ o v' h', f147c148_l1 N M (some (P, 0)) [44] ((some (O, 0)), (some (Q, 0)), ()) ((64 - g : Nat) : Int) h = some (o, (), h') ∧ PA T P X h' (livesS T g (i, none)).2 st ∧ Chg [P, O] h0 h' ∧ h'.own O [SL.av v'] ∧ h'.own Q [.ptr (some (P, 0))] ∧ Ow h0.next h' v' 1 ((xs ++ (livesS T g (i, none)).1).map D.s) := by
  intro g
  induction g with
  | zero =>
    intro M i h v xs hM hg hx x c oO oQ ow
    obtain ⟨M, rfl⟩ : ∃ m, M = m + 1 := ⟨M - 1, by omega⟩
    rw [f147c148_l1_succ]
    unfold f147c148_l1_b
    obtain ⟨h2, e2, c2, x2⟩ := f188_eq (N := N) x (64 - 0)
    rw [e2, bind2_some]
    simp only [show 64 ≤ 64 - 0 by omega, if_true, failS, Option.isNone_some, cond_false] at x2 ⊢
    refine ⟨_, v, h2, rfl, x2, c.trans (c2.mono (by simp)), oO.chg c2 (by simp; omega), oQ.chg c2 (by simp; omega), ?_⟩
    simp only [livesS, List.append_nil]
    exact ow.chg c2 (by intro A hA; rw [List.mem_singleton] at hA; omega)
  | succ g ih =>
    intro M i h v xs hM hg hx x c oO oQ ow
    obtain ⟨M, rfl⟩ : ∃ m, M = m + 1 := ⟨M - 1, by omega⟩
    rw [f147c148_l1_succ]
    unfold f147c148_l1_b
    obtain ⟨h2, e2, c2, x2⟩ := f188_eq (N := N) x (64 - (g + 1))
    rw [e2, bind2_some]
    have z : ¬ 64 ≤ 64 - (g + 1) := by omega
    simp only [z, if_false, Option.isNone_none, cond_true] at x2 ⊢
    have c02 := c.trans (c2.mono (N := [P, O]) (by simp))
    obtain ⟨v', h4, e4, x4, c4, o4, q4, w4⟩ := f148_eq (N := N) hT x2 hX c02 hO hQ (oO.chg c2 (by simp; omega)) (oQ.chg c2 (by simp; omega)) (ow.chg c2 (by intro A hA; rw [List.mem_singleton] at hA; omega)) (by omega)
    rw [e4, bind2_some]
    obtain ⟨h6, e6, c6, x6⟩ := f93_eq (N := N) hT x4 (w := [44]) (by decide)
    rw [e6, bind2_some]
    have c06 := c4.trans (c6.mono (N := [P, O]) (by simp))
    have o6 := o4.chg c6 (by simp; omega)
    have q6 := q4.chg c6 (by simp; omega)
    have w6 := w4.chg c6 (by intro A hA; rw [List.mem_singleton] at hA; omega)
    simp only [livesS]
    cases hb : (optS T [44] (textS T 3 (i, none)).2).1 with
    | false =>
      simp only [Bool.not_false, cond_true, Bool.false_eq_true, if_false]
      exact ⟨_, v', h6, rfl, x6, c06, o6, q6, w6⟩
    | true =>
      simp only [Bool.not_true, cond_false, if_true]
      have hs := (optS_none hb).1
      rw [hs] at x6 ⊢
      rw [wrap_succ (by omega), show 64 - (g + 1) + 1 = 64 - g by omega]
      have := ih M _ h6 v' (xs ++ [(textS T 3 (i, none)).1]) (by omega) (by omega) (by simp; omega) x6 c06 o6 q6 w6
      simpa only [List.append_assoc, List.singleton_append] using this
theorem f96_eq (hT : Toks T) (hN : 100 ≤ N) {h : Heap} {σ : St} (x : PA T P X h σ st) : ∃ v h', f96 N (some (P, 0)) h = some (v, h') ∧ PA T P X h' (lifesS T σ).2 st ∧ Chg [P] h h' ∧ Sl h' (fun C => h.next ≤ C) v ((lifesS T σ).1.map D.s) := by
  unfold f96
  have oQ := own_push h [AV.ptr (some (P, 0))]
  have cQ := chg_push h (.row [AV.ptr (some (P, 0))] .own)
  have nQ : (h.push (.row [AV.ptr (some (P, 0))] .own)).next = h.next + 1 := rfl
  dsimp only
  generalize h.push (.row [AV.ptr (some (P, 0))] .own) = h1 at *
  have oO : (h1.push (.row [(.slice none 0 0 0)] .own)).own h1.next [SL.av ⟨none, 0, 0, 0⟩] := own_push h1 _
  have cO := chg_push h1 (.row [(.slice none 0 0 0)] .own)
  have nO : (h1.push (.row [(.slice none 0 0 0)] .own)).next = h1.next + 1 := rfl
  generalize h1.push (.row [(.slice none 0 0 0)] .own) = h2 at *
  have oQ2 := oQ.chg cO (by simp)
  have x2 := (x.chg cQ).add cO (A := h1.next) (Nat.le_refl _) (by omega)
  have c02 := cQ.trans cO
  have r2 : h2.cell (h.next, 0) = some (.ptr (some (P, 0))) := oQ2.cell 0
  have hP := x.P_lt
  simp only [r2, bindV_some, cast_ptr]
  obtain ⟨h5, e5, c5, x5⟩ := f93_eq (N := N) hT x2 (w := [60]) (by decide)
  rw [e5, bind2_some]
  have oO5 := oO.chg c5 (by simp; omega)
  have oQ5 := oQ2.chg c5 (by simp; omega)
  simp only [lifesS]
  cases hb : (optS T [60] σ).1 with
  | false =>
    simp only [cond_false, Bool.false_eq_true, if_false]
    have r5 : h5.cell (h1.next, 0) = some (SL.av ⟨none, 0, 0, 0⟩) := oO5.cell 0
    simp only [r5, SL.av, bindV_some, cast_slice]
    exact ⟨_, _, rfl, x5.sub (by simp +contextual), (c02.mono (by simp)).trans c5, Sl.nil _ _ _⟩
  | true =>
    simp only [cond_true, if_true]
    have hs := (optS_none hb).1
    rw [hs] at x5 ⊢
    have r5 : h5.cell (h.next, 0) = some (.ptr (some (P, 0))) := oQ5.cell 0
    simp only [r5, bindV_some, cast_ptr]
    unfold f147c148
    obtain ⟨o, v', h8, e8, x8, c8, o8, q8, w8⟩ := list_loop (N := N) hT (h0 := h2) (X := h1.next :: X) (O := h1.next) (Q := h.next) (by simp) (by omega) (by omega) 64 N _ h5 ⟨none, 0, 0, 0⟩ [] (by omega) (Nat.le_refl _) (by simp) x5 (c5.mono (by simp)) oO5 oQ5 (Ow.nil _ _ _ _)
    rw [show ((64 - 64 : Nat) : Int) = 0 from rfl] at e8
    rw [e8]
    have hc : Chg [P] h h8 := (c02.mono (by simp)).step c8 (fun A hA hlt => by
      simp only [List.mem_cons, List.not_mem_nil, or_false] at hA ⊢
      omega)
    have r8 : h8.cell (h.next, 0) = some (.ptr (some (P, 0))) := q8.cell 0
    have fin : ∀ (K : Option (SL × Heap)), (bindV (.val (.one .ptr)) (h8.cell (h.next, 0)) fun (x9 : Option (Nat × Nat)) =>
   (bind2 (f149 N x9 [62] h8) fun (x10 : (Unit)) h11 =>
   (bindV (.val (.one .slice)) (h11.cell (h1.next, 0)) fun (x12 : SL) =>
   some (x12, h11)))) = K → (bind3 (some (o, ((), h8))) fun o9 (j10 : Unit) h11 => (bif eqOut o9 (.exit 0) then some ((), h11) else some ((), h11))) = some ((), h8) := fun K _ => by
      simp only [bind3_some]; cases eqOut o (.exit 0) <;> rfl
    have e81 : (bind3 (some (o, ((), h8))) fun o9 (j10 : Unit) h11 => (bif eqOut o9 (.exit 0) then some ((), h11) else some ((), h11))) = some ((), h8) := fin _ rfl
    rw [e81, bind2_some]
    simp only [r8, bindV_some, cast_ptr]
    obtain ⟨h11, e11, c11, x11⟩ := f149_eq (N := N) hT x8 (w := [62]) (by decide)
    rw [e11, bind2_some]
    have r11 : h11.cell (h1.next, 0) = some (SL.av v') := (o8.chg c11 (by simp; omega)).cell 0
    simp only [r11, SL.av, bindV_some, cast_slice]
    refine ⟨_, _, rfl, x11.sub (by simp +contextual), hc.trans c11, ?_⟩
    have w11 := w8.chg c11 (by intro A hA; rw [List.mem_singleton] at hA; omega)
    rw [List.nil_append] at w11
    exact w11.sl.weak (fun C hC _ => by omega)
end
end Go.Proofs.YtkcjphhjmlienaaGreatDoor.Qp

set_option linter.unusedVariables false
set_option linter.unusedSimpArgs false
open Go Go.Proofs.YtkcjphhjmlienaaGreatDoor.Ai Go.Proofs
namespace Go.Proofs.YtkcjphhjmlienaaGreatDoor.Qp
/-! types -/
abbrev TyV := Int × List UInt8 × SL × SL × Unit
abbrev sl0 : SL := ⟨none, 0, 0, 0⟩
def tyc (r : TyV) : List AV := [.int .i64 r.1, .str r.2.1, SL.av r.2.2.1, SL.av r.2.2.2.1]
def tyD (k : Int) (x : Bs) (lv : List Bs) (el : List D) : D := .t [.i k, .s x, .l (lv.map D.s), .l el]
theorem dt_ty {h : Heap} {V : Nat → Prop} {k : Int} {x : Bs} {lv : List Bs} {el : List D} {cs : List AV} : Dt h V (tyD k x lv el) cs ↔ ∃ s1 s2, cs = tyc (k, x, s1, s2, ()) ∧ Sl h V s1 (lv.map D.s) ∧ Sl h V s2 el := by
  simp only [tyD, Dt, Dp]
  constructor
  · rintro ⟨a, b, rfl, rfl, a2, b2, rfl, rfl, a3, b3, rfl, ⟨s1, v1, rfl, p1, p2, p3, p4, p5⟩, a4, b4, rfl, ⟨s2, v2, rfl, q1, q2, q3, q4, q5⟩, rfl⟩
    exact ⟨s1, s2, rfl, ⟨p1, p2, p3, v1, p4, p5⟩, ⟨q1, q2, q3, v2, q4, q5⟩⟩
  · rintro ⟨s1, s2, rfl, ⟨p1, p2, p3, v1, p4, p5⟩, ⟨q1, q2, q3, v2, q4, q5⟩⟩
    exact ⟨[_], _, rfl, rfl, [_], _, rfl, rfl, [_], _, rfl, ⟨s1, v1, rfl, p1, p2, p3, p4, p5⟩, [_], [], rfl, ⟨s2, v2, rfl, q1, q2, q3, q4, q5⟩, rfl⟩
theorem dt_ty0 (h : Heap) (V : Nat → Prop) (k : Int) (x : Bs) : Dt h V (tyD k x [] []) (tyc (k, x, sl0, sl0, ())) := dt_ty.2 ⟨sl0, sl0, rfl, Sl.nil _ _ _, Sl.nil _ _ _⟩
theorem sl_one {h : Heap} {V : Nat → Prop} {A n : Nat} {cs : List AV} {d : D} (o : h.own A cs) (hl : cs.length = n) (hA : V A) (hd : Dt h V d cs) : Sl h V ⟨some (A, 0), 1, 1, n⟩ [d] := by
  refine ⟨rfl, Nat.le_refl _, fun C hC => ?_, cs, ⟨by simp [hl], fun ha => (by cases ha), fun A' off ha => ?_⟩, ?_⟩
  · simp [SL.blk] at hC; subst hC; exact hA
  · simp only [Option.some.injEq, Prod.mk.injEq] at ha
    obtain ⟨rfl, rfl⟩ := ha
    refine ⟨o.2, cs, by rw [o.1]; rfl, by rw [List.drop_zero]; exact List.take_of_length_le (Nat.le_refl _)⟩
  · simp only [De]
    exact ⟨cs, [], by simp, hl, hd, rfl⟩
theorem agg4 {β : Type} (r : TyV) (K : TyV → Option β) : bindV (.val (.agg [(.int .i64), .str, .slice, .slice])) (some (.agg (tyc r))) K = K r := by
  obtain ⟨k, x, s1, s2, _⟩ := r
  simp [tyc, SL.av]
theorem cells4 {H : Heap} {A : Nat} {r : TyV} (o : H.own A (tyc r)) {β : Type} (K : TyV → Option β) : bindV (.val (.agg [(.int .i64), .str, .slice, .slice])) (H.cells (A, 0) 4) K = K r := by
  have : H.cells (A, 0) 4 = some (.agg (tyc r)) := o.cells (j := 0) (m := 4) (Nat.le_refl _)
  rw [this, agg4]
theorem store4 {H : Heap} {A : Nat} {r0 : TyV} (o : H.own A (tyc r0)) (r : TyV) : H.store (A, 0) [.int .i64 r.1, .str r.2.1, .slice r.2.2.1.a r.2.2.1.len r.2.2.1.cap r.2.2.1.sz, .slice r.2.2.2.1.a r.2.2.2.1.len r.2.2.2.1.cap r.2.2.2.1.sz] = some (H.put A (.row (tyc r) .own)) := o.store rfl
theorem fin4 {H : Heap} {A : Nat} {r0 : TyV} (o : H.own A (tyc r0)) (r : TyV) {β : Type} (K : TyV → Heap → Option β) :
    (need (H.store (A, 0) [.int .i64 r.1, .str r.2.1, .slice r.2.2.1.a r.2.2.1.len r.2.2.1.cap r.2.2.1.sz, .slice r.2.2.2.1.a r.2.2.2.1.len r.2.2.2.1.cap r.2.2.2.1.sz]) fun h7 => bindV (.val (.agg [(.int .i64), .str, .slice, .slice])) (h7.cells (A, 0) 4) fun x8 => K x8 h7) = K r (H.put A (.row (tyc r) .own)) := by
  rw [store4 o, need_some, cells4 (own_put o _)]
def lifeS (T : List Tok) (σ : St) : List Bs × St := if (tk T σ.1).1 = 3 then ([(textS T 3 σ).1], (textS T 3 σ).2) else ([], σ)
def typS (T : List Tok) : Nat → St → D × St
  | 0, σ => (tyD 0 [] [] [], failS T 6 σ)
  | _ + 1, (i, some e) => (tyD 0 [] [] [], (i, some e))
  | g + 1, (i, none) =>
    let a := optS T [105, 110, 116] (i, none)
    if a.1 = true then (tyD 1 [] [] [], a.2) else
    let b := optS T [98, 111, 111, 108] a.2
    if b.1 = true then (tyD 2 [] [] [], b.2) else
    let c := optS T [38] b.2
    if c.1 = true then
      let d := lifeS T c.2
      let m := optS T [109, 117, 116] d.2
      (tyD (if m.1 = true then 5 else 4) [] d.1 [(typS T g m.2).1], (typS T g m.2).2)
    else
      let n := nameS T c.2
      let l := lifesS T n.2
      (tyD 3 n.1 l.1 [], l.2)
section
variable {N : Nat} {T : List Tok} {P : Nat} {X : List Nat} {st : Int} {h : Heap} {σ : St}
theorem life_part (hT : Toks T) (x : PA T P X h σ st) {A : Nat} {deep : Int} {R : Option (Nat × Nat)} (oA : h.own A (tyc (4, [], sl0, sl0, ()))) (hX : A ∈ X) :
    ∃ s1 h38, (bind2 (f56 N (some (P, 0)) h) fun (x30 : (Int × List UInt8 × Int × Unit)) h31 =>
       let x32 : Bool := eqInt x30.1 3
       (bif x32 then
        (bind2 (f94 N (some (P, 0)) 3 h31) fun (x33 : List UInt8) h34 =>
        let h35 : Heap := h34.push (.row [(.str x33)] .own)
        (need (h35.store ((A, 0).1, (A, 0).2 + 2) [(.slice (some (h34.next, 0)) 1 1 1)]) fun h36 =>
        some ((some (P, 0), deep, R, (some (A, 0)), ()), h36)))
       else
        some ((some (P, 0), deep, R, (some (A, 0)), ()), h31))) = some ((some (P, 0), deep, R, (some (A, 0)), ()), h38) ∧ PA T P X h38 (lifeS T σ).2 st ∧ Chg [P, A] h h38 ∧ h38.own A (tyc (4, [], s1, sl0, ())) ∧ Sl h38 (fun C => h.next ≤ C) s1 ((lifeS T σ).1.map D.s) := by
  obtain ⟨h31, e31, c31⟩ := f56_eq (N := N) x
  rw [e31, bind2_some]
  have x31 := x.chg c31
  have o31 := oA.chg c31 (by simp)
  simp only [ttOf, eqI, lifeS]
  by_cases q : (tk T σ.1).1 = 3
  · simp only [q, decide_true, cond_true, if_true]
    obtain ⟨h34, e34, c34, x34⟩ := f94_eq (N := N) hT x31 (k := 3) (by decide)
    rw [e34, bind2_some]
    have o34 := o31.chg c34 (by have := (x.xl A hX).1; simp; omega)
    have oB := own_push h34 [AV.str (textS T 3 σ).1]
    have cB := chg_push h34 (.row [AV.str (textS T 3 σ).1] .own)
    generalize h34.push (.row [AV.str (textS T 3 σ).1] .own) = h35 at *
    have o35 := o34.chg cB (by simp)
    have hst : h35.store (A, 2) [SL.av ⟨some (h34.next, 0), 1, 1, 1⟩] = some (h35.put A (.row (tyc (4, [], ⟨some (h34.next, 0), 1, 1, 1⟩, sl0, ())) .own)) := o35.store1 (j := 2) (by show 2 < 4; omega) _
    simp only [SL.av] at hst
    simp only [Nat.zero_add]
    rw [hst, need_some]
    have cp := o35.put (tyc (4, [], ⟨some (h34.next, 0), 1, 1, 1⟩, sl0, ()))
    have hAl : A < h34.next := o34.2
    refine ⟨_, _, rfl, (x34.chg cB).chg1 cp hX, ((c31.mono (by simp)).trans (c34.mono (by simp))).trans ((cB.mono (by simp)).trans (cp.mono (by simp))), own_put o35 _, ?_⟩
    have := sl_one (V := fun C => h.next ≤ C) (oB.chg cp (by rw [List.mem_singleton]; omega)) rfl (Nat.le_trans c31.next c34.next) (dt_str _ _ _)
    exact this
  · simp only [q, decide_false, cond_false, if_false]
    exact ⟨sl0, _, rfl, x31, c31.mono (by simp), o31, Sl.nil _ _ _⟩
theorem mut_part (hT : Toks T) (x : PA T P X h σ st) {A : Nat} {deep : Int} {R : Option (Nat × Nat)} {s1 : SL} (oA : h.own A (tyc (4, [], s1, sl0, ()))) (hX : A ∈ X) :
    ∃ h44, (bind2 (f92 N (some (P, 0)) [109, 117, 116] h) fun (x39 : Bool) h40 =>
       (bif x39 then
        (need (some (A, 0)) fun q41 =>
        (need (h40.store (q41.1, q41.2 + 0) [(.int .i64 5)]) fun h42 =>
        some ((some (P, 0), deep, R, (some (A, 0)), ()), h42)))
       else
        some ((some (P, 0), deep, R, (some (A, 0)), ()), h40))) = some ((some (P, 0), deep, R, (some (A, 0)), ()), h44) ∧ PA T P X h44 (optS T [109, 117, 116] σ).2 st ∧ Chg [P, A] h h44 ∧ h44.own A (tyc ((if (optS T [109, 117, 116] σ).1 = true then 5 else 4), [], s1, sl0, ())) := by
  obtain ⟨h40, e40, c40, x40⟩ := f92_eq (N := N) hT x (w := [109, 117, 116]) (by decide)
  rw [e40, bind2_some]
  have o40 := oA.chg c40 (by have := (x.xl A hX).1; simp; omega)
  cases hb : (optS T [109, 117, 116] σ).1 with
  | false =>
    simp only [cond_false, Bool.false_eq_true, if_false]
    exact ⟨_, rfl, x40, c40.mono (by simp), o40⟩
  | true =>
    simp only [cond_true, if_true, need_some, Nat.zero_add, Nat.add_zero]
    have hst : h40.store (A, 0) [.int .i64 5] = some (h40.put A (.row (tyc (5, [], s1, sl0, ())) .own)) := o40.store1 (j := 0) (by show 0 < 4; omega) _
    rw [hst, need_some]
    have cp := o40.put (tyc (5, [], s1, sl0, ()))
    exact ⟨_, rfl, x40.chg1 cp hX, (c40.mono (by simp)).trans (cp.mono (by simp)), own_put o40 _⟩
end
end Go.Proofs.YtkcjphhjmlienaaGreatDoor.Qp

set_option linter.unusedVariables false
set_option linter.unusedSimpArgs false
open Go Go.Proofs.YtkcjphhjmlienaaGreatDoor.Ai Go.Proofs
namespace Go.Proofs.YtkcjphhjmlienaaGreatDoor.Qp
theorem optS_false {T : List Tok} {w : Bs} {σ : St} (h : (optS T w σ).1 = false) : (optS T w σ).2 = σ := by
  obtain ⟨i, e⟩ := σ
  cases e with
  | some q => rfl
  | none =>
    simp only [optS] at h ⊢
    split at h
    · cases h
    · rename_i q; rw [if_neg q]
abbrev zt : List AV := tyc (0, [], sl0, sl0, ())
section
variable {N : Nat} {T : List Tok} {P : Nat} {st : Int}
theorem f55_eq (hT : Toks T) (hN : 100 ≤ N) : ∀ (g M : Nat) (h : Heap) (σ : St) (X : List Nat), g < M → g ≤ 64 → PA T P X h σ st →
    ∃ r h', f55 N M (some (P, 0)) ((65 - g : Nat) : Int) h = some (r, h') ∧ PA T P X h' (typS T g σ).2 st ∧ Chg [P] h h' ∧ Dt h' (fun C => h.next ≤ C) (typS T g σ).1 (tyc r) := by
  intro g
  induction g with
  | zero =>
    intro M h σ X hM hg x
    obtain ⟨M, rfl⟩ : ∃ m, M = m + 1 := ⟨M - 1, by omega⟩
    rw [f55_succ]
    unfold f55_r
    have o1 := own_push h zt
    have c1 := chg_push h (.row zt .own)
    have x1 := x.add c1 (A := h.next) (Nat.le_refl _) (Nat.lt_succ_self _)
    have e1 : h.push (.row [(.int .i64 0), (.str []), (.slice none 0 0 0), (.slice none 0 0 0)] .own) = h.push (.row zt .own) := rfl
    rw [e1]
    generalize h.push (.row zt .own) = h1 at *
    have z : ltInt 64 ((65 - 0 : Nat) : Int) = true := rfl
    have hP := x.P_lt
    dsimp only
    rw [z]
    simp only [cond_true]
    obtain ⟨h4, e4, c4, x4⟩ := f57_eq (N := N) x1 (c := 6) (by decide)
    rw [e4]
    simp only [bind2_some, need_some, Nat.zero_add]
    obtain ⟨v, k3, hv⟩ := x4.readE
    simp only [k3, bindV_some, cast_any, hv.ne 15, cast_bool]
    have hs : (failS T 6 σ).2.isSome = true := by obtain ⟨i, e⟩ := σ; cases e <;> rfl
    rw [hs]
    simp only [cond_true]
    have o4 := o1.chg c4 (by simp; omega)
    have cp := o4.put zt
    refine ⟨(0, [], sl0, sl0, ()), _, fin4 o4 (0, [], sl0, sl0, ()) (fun x h => some (x, h)), (x4.chg1 cp (by simp)).sub (by simp +contextual), ?_, dt_ty0 _ _ _ _⟩
    exact ((c1.mono (by simp)).trans c4).step cp (fun A hA hl => by rw [List.mem_singleton] at hA; omega)
  | succ g ih =>
    intro M h σ X hM hg x
    obtain ⟨M, rfl⟩ : ∃ m, M = m + 1 := ⟨M - 1, by omega⟩
    rw [f55_succ]
    unfold f55_r
    have o1 := own_push h zt
    have c1 := chg_push h (.row zt .own)
    have x1 := x.add c1 (A := h.next) (Nat.le_refl _) (Nat.lt_succ_self _)
    have e1 : h.push (.row [(.int .i64 0), (.str []), (.slice none 0 0 0), (.slice none 0 0 0)] .own) = h.push (.row zt .own) := rfl
    rw [e1]
    have n1 : (h.push (.row zt .own)).next = h.next + 1 := rfl
    generalize h.push (.row zt .own) = h1 at *
    have z : ltInt 64 ((65 - (g + 1) : Nat) : Int) = false := by
      rw [show (64 : Int) = ((64 : Nat) : Int) from rfl, lt_nat', decide_eq_false_iff_not]; omega
    have hP := x.P_lt
    dsimp only
    rw [z]
    simp only [cond_false, bind2_some, need_some, Nat.zero_add]
    obtain ⟨v, k3, hv⟩ := x1.readE
    simp only [k3, bindV_some, cast_any, hv.ne 15, cast_bool]
    have fin : ∀ {h' : Heap} (c : Chg [P] h1 h') (r : TyV), Chg [P] h (h'.put h.next (.row (tyc r) .own)) := fun c r =>
      ((c1.mono (by simp)).trans c).put (.inr (Nat.le_refl _)) _
    obtain ⟨i, e⟩ := σ
    cases e with
    | some q =>
      simp only [Option.isSome_some, cond_true, typS]
      have cp := o1.put zt
      exact ⟨(0, [], sl0, sl0, ()), _, fin4 o1 (0, [], sl0, sl0, ()) (fun x h => some (x, h)), (x1.chg1 cp (by simp)).sub (by simp +contextual), fin (Chg.refl _ _) (0, [], sl0, sl0, ()), dt_ty0 _ _ _ _⟩
    | none =>
      simp only [Option.isSome_none, cond_false, typS]
      obtain ⟨h15, e15, c15, x15⟩ := f92_eq (N := N) hT x1 (w := [105, 110, 116]) (by decide)
      rw [e15, bind2_some]
      have o15 := o1.chg c15 (by simp; omega)
      cases hb1 : (optS T [105, 110, 116] (i, none)).1 with
      | true =>
        simp only [cond_true, if_true]
        have cp := o15.put (tyc (1, [], sl0, sl0, ()))
        exact ⟨(1, [], sl0, sl0, ()), _, fin4 o15 (1, [], sl0, sl0, ()) (fun x h => some (x, h)), (x15.chg1 cp (by simp)).sub (by simp +contextual), fin c15 (1, [], sl0, sl0, ()), dt_ty0 _ _ _ _⟩
      | false =>
      rw [optS_false hb1] at x15 ⊢
      simp only [cond_false, Bool.false_eq_true, if_false]
      obtain ⟨h21, e21, c21, x21⟩ := f92_eq (N := N) hT x15 (w := [98, 111, 111, 108]) (by decide)
      rw [e21, bind2_some]
      have o21 := o15.chg c21 (by simp; omega)
      have c121 := c15.trans c21
      cases hb2 : (optS T [98, 111, 111, 108] (i, none)).1 with
      | true =>
        simp only [cond_true, if_true]
        have cp := o21.put (tyc (2, [], sl0, sl0, ()))
        exact ⟨(2, [], sl0, sl0, ()), _, fin4 o21 (2, [], sl0, sl0, ()) (fun x h => some (x, h)), (x21.chg1 cp (by simp)).sub (by simp +contextual), fin c121 (2, [], sl0, sl0, ()), dt_ty0 _ _ _ _⟩
      | false =>
      rw [optS_false hb2] at x21 ⊢
      simp only [cond_false, Bool.false_eq_true, if_false]
      obtain ⟨h27, e27, c27, x27⟩ := f93_eq (N := N) hT x21 (w := [38]) (by decide)
      rw [e27, bind2_some]
      have o27 := o21.chg c27 (by simp; omega)
      have c127 := c121.trans c27
      have hge : h.next + 1 ≤ h27.next := by have := c127.next; omega
      cases hb3 : (optS T [38] (i, none)).1 with
      | true =>
        simp only [cond_true, if_true]
        have oA0 := own_push h27 zt
        have cA0 := chg_push h27 (.row zt .own)
        have eA : h27.push (.row [(.int .i64 0), (.str []), (.slice none 0 0 0), (.slice none 0 0 0)] .own) = h27.push (.row zt .own) := rfl
        have hstA := store4 oA0 (4, [], sl0, sl0, ())
        have nA : (h27.push (.row zt .own)).next = h27.next + 1 := rfl
        rw [eA, show (h27.push (.row zt .own)).store (h27.next, 0) [(.int .i64 4), (.str []), (.slice none 0 0 0), (.slice none 0 0 0)] = _ from hstA, need_some]
        have oA := own_put oA0 (tyc (4, [], sl0, sl0, ()))
        have cA : Chg [] h27 ((h27.push (.row zt .own)).put h27.next (.row (tyc (4, [], sl0, sl0, ())) .own)) := cA0.put (.inr (Nat.le_refl _)) _
        have x29 := x27.add cA (A := h27.next) (Nat.le_refl _) (Nat.lt_succ_self _)
        have n29 : ((h27.push (.row zt .own)).put h27.next (.row (tyc (4, [], sl0, sl0, ())) .own)).next = h27.next + 1 := rfl
        have oR := o27.chg cA (by simp)
        generalize (h27.push (.row zt .own)).put h27.next (.row (tyc (4, [], sl0, sl0, ())) .own) = h29 at *
        obtain ⟨s1, h38, e38, x38, c38, oA38, sl38⟩ := life_part (N := N) hT x29 (deep := ((65 - (g + 1) : Nat) : Int)) (R := some (h.next, 0)) oA (by simp)
        simp only [Nat.zero_add] at e38
        rw [e38, bind2_some]
        obtain ⟨h44, e44, x44, c44, oA44⟩ := mut_part (N := N) hT x38 (deep := ((65 - (g + 1) : Nat) : Int)) (R := some (h.next, 0)) oA38 (by simp)
        simp only [need_some, Nat.zero_add, Nat.add_zero] at e44
        dsimp only
        simp only [need_some, Nat.zero_add, Nat.add_zero]
        rw [e44, bind2_some]
        dsimp only
        rw [wrap_succ (by omega), show 65 - (g + 1) + 1 = 65 - g by omega]
        obtain ⟨r, h47, e47, x47, c47, d47⟩ := ih M h44 _ _ (by omega) (by omega) x44
        rw [e47, bind2_some]
        have c2947 : Chg [P, h27.next] h29 h47 := (c38.trans c44).trans (c47.mono (by simp))
        have oA47 := oA44.chg c47 (by simp; omega)
        have oR47 := oR.chg c2947 (by simp; omega)
        have hg47 := c2947.next
        have h44n : h29.next ≤ h44.next := (c38.trans c44).next
        have oC := own_push h47 (tyc r)
        have cC := chg_push h47 (.row (tyc r) .own)
        have eC : h47.push (.row [(.int .i64 r.1), (.str r.2.1), (.slice r.2.2.1.a r.2.2.1.len r.2.2.1.cap r.2.2.1.sz), (.slice r.2.2.2.1.a r.2.2.2.1.len r.2.2.2.1.cap r.2.2.2.1.sz)] .own) = h47.push (.row (tyc r) .own) := rfl
        rw [eC]
        have oA48 := oA47.chg cC (by simp)
        have oR48 := oR47.chg cC (by simp)
        have x48 := x47.chg cC
        have d48 := d47.chg cC (by simp)
        have nC : (h47.push (.row (tyc r) .own)).next = h47.next + 1 := rfl
        generalize h47.push (.row (tyc r) .own) = h48 at *
        generalize hk : (if (optS T [109, 117, 116] (lifeS T (optS T [38] (i, none)).2).2).1 = true then (5 : Int) else 4) = k at *
        have hst : h48.store (h27.next, 3) [SL.av ⟨some (h47.next, 0), 1, 1, 4⟩] = some (h48.put h27.next (.row (tyc (k, [], s1, ⟨some (h47.next, 0), 1, 1, 4⟩, ())) .own)) := oA48.store1 (j := 3) (by show 3 < 4; omega) _
        simp only [SL.av] at hst
        simp only [need_some, Nat.zero_add]
        rw [hst, need_some]
        have cA5 := oA48.put (tyc (k, [], s1, ⟨some (h47.next, 0), 1, 1, 4⟩, ()))
        have oA5 := own_put oA48 (tyc (k, [], s1, ⟨some (h47.next, 0), 1, 1, 4⟩, ()))
        have oR5 := oR48.chg cA5 (by simp; omega)
        have oC5 := oC.chg cA5 (by simp; omega)
        have x5 := x48.chg1 cA5 (by simp)
        have d5 := d48.chg cA5 (fun C hC => by simp; omega)
        generalize h48.put h27.next (.row (tyc (k, [], s1, ⟨some (h47.next, 0), 1, 1, 4⟩, ())) .own) = h50 at *
        rw [cells4 oA5]
        have cR := oR5.put (tyc (k, [], s1, ⟨some (h47.next, 0), 1, 1, 4⟩, ()))
        have cAll : Chg [P] h h50 := by
          have a1 : Chg [P] h h27 := (c1.mono (by simp)).trans c127
          have a2 : Chg [P] h h29 := a1.trans (cA.mono (by simp))
          have a3 : Chg [P] h h47 := a2.step c2947 (fun A hA hl => by
            simp only [List.mem_cons, List.not_mem_nil, or_false] at hA ⊢; omega)
          have a4 : Chg [P] h h48 := a3.trans (cC.mono (by simp))
          exact a4.step cA5 (fun A hA hl => by rw [List.mem_singleton] at hA; omega)
        refine ⟨(k, [], s1, ⟨some (h47.next, 0), 1, 1, 4⟩, ()), _, fin4 oR5 (k, [], s1, ⟨some (h47.next, 0), 1, 1, 4⟩, ()) (fun x h => some (x, h)), (x5.chg1 cR (by simp)).sub (by simp +contextual), cAll.put (.inr (Nat.le_refl _)) _, ?_⟩
        refine dt_ty.2 ⟨_, _, rfl, ?_, ?_⟩
        · have hs := sl38.chg c44 (fun C hC => by simp; omega)
          have hs2 := hs.chg c47 (fun C hC => by simp; omega)
          have hs3 := ((hs2.chg cC (by simp)).chg cA5 (fun C hC => by simp; omega)).chg cR (fun C hC => by simp; omega)
          exact hs3.weak (fun C hC _ => by omega)
        · refine sl_one (V := fun C => h.next ≤ C) (oC5.chg cR (by simp; omega)) rfl (by omega) ?_
          exact (d5.chg cR (fun C hC => by simp; omega)).weak (fun C hC _ => by omega)
      | false =>
        rw [optS_false hb3] at x27 ⊢
        simp only [cond_false, Bool.false_eq_true, if_false]
        obtain ⟨h58, e58, c58, x58⟩ := f95_eq (N := N) hT x27
        rw [e58, bind2_some]
        have o58 := o27.chg c58 (by simp; omega)
        have c158 := c127.trans c58
        generalize hnm : (nameS T (i, none)).1 = nm at *
        have hge2 : h.next + 1 ≤ h58.next := by have := c158.next; omega
        have oA0 := own_push h58 zt
        have cA0 := chg_push h58 (.row zt .own)
        have eA : h58.push (.row [(.int .i64 0), (.str []), (.slice none 0 0 0), (.slice none 0 0 0)] .own) = h58.push (.row zt .own) := rfl
        have hstA := store4 oA0 (3, nm, sl0, sl0, ())
        rw [eA, show (h58.push (.row zt .own)).store (h58.next, 0) [(.int .i64 3), (.str nm), (.slice none 0 0 0), (.slice none 0 0 0)] = _ from hstA, need_some]
        have oA := own_put oA0 (tyc (3, nm, sl0, sl0, ()))
        have cA : Chg [] h58 ((h58.push (.row zt .own)).put h58.next (.row (tyc (3, nm, sl0, sl0, ())) .own)) := cA0.put (.inr (Nat.le_refl _)) _
        have x60 := x58.add cA (A := h58.next) (Nat.le_refl _) (Nat.lt_succ_self _)
        have n60 : ((h58.push (.row zt .own)).put h58.next (.row (tyc (3, nm, sl0, sl0, ())) .own)).next = h58.next + 1 := rfl
        have oR := o58.chg cA (by simp)
        generalize (h58.push (.row zt .own)).put h58.next (.row (tyc (3, nm, sl0, sl0, ())) .own) = h60 at *
        obtain ⟨s1, h62, e62, x62, c62, sl62⟩ := f96_eq (N := N) hT hN x60
        rw [e62, bind2_some]
        have oA62 := oA.chg c62 (by simp; omega)
        have oR62 := oR.chg c62 (by simp; omega)
        have hst : h62.store (h58.next, 2) [SL.av s1] = some (h62.put h58.next (.row (tyc (3, nm, s1, sl0, ())) .own)) := oA62.store1 (j := 2) (by show 2 < 4; omega) _
        simp only [SL.av] at hst
        rw [hst, need_some]
        have cA5 := oA62.put (tyc (3, nm, s1, sl0, ()))
        have oA5 := own_put oA62 (tyc (3, nm, s1, sl0, ()))
        have oR5 := oR62.chg cA5 (by simp; omega)
        have x5 := x62.chg1 cA5 (by simp)
        have sl5 := sl62.chg cA5 (fun C hC => by simp; omega)
        have hg62 := c62.next
        generalize h62.put h58.next (.row (tyc (3, nm, s1, sl0, ())) .own) = h63 at *
        rw [cells4 oA5]
        have cR := oR5.put (tyc (3, nm, s1, sl0, ()))
        have cAll : Chg [P] h h63 := by
          have a1 : Chg [P] h h58 := (c1.mono (by simp)).trans c158
          have a3 : Chg [P] h h62 := (a1.trans (cA.mono (by simp))).trans c62
          exact a3.step cA5 (fun A hA hl => by rw [List.mem_singleton] at hA; omega)
        refine ⟨(3, nm, s1, sl0, ()), _, fin4 oR5 (3, nm, s1, sl0, ()) (fun x h => some (x, h)), (x5.chg1 cR (by simp)).sub (by simp +contextual), cAll.put (.inr (Nat.le_refl _)) _, ?_⟩
        refine dt_ty.2 ⟨_, _, rfl, ?_, Sl.nil _ _ _⟩
        exact (sl5.chg cR (fun C hC => by simp; omega)).weak (fun C hC _ => by omega)
end
end Go.Proofs.YtkcjphhjmlienaaGreatDoor.Qp

set_option linter.unusedVariables false
set_option linter.unusedSimpArgs false
open Go Go.Proofs.YtkcjphhjmlienaaGreatDoor.Ai Go.Proofs
namespace Go.Proofs.YtkcjphhjmlienaaGreatDoor.Qp
/-! the document's parser -/
structure PB (T : List Tok) (P : Nat) (h : Heap) (σ : St) (it st : Int) : Prop where
  ex : ∃ s c a, h.own P [SL.av s, .int .i64 (σ.1 : Int), .int .i64 c, .int .i64 a, .int .i64 it, .int .i64 st] ∧ Sl h (fun C => C < P) s (T.map tokD) ∧ (s.sz = 3) ∧ (match σ.2 with
    | none => c = 0
    | some (c', a') => c = c' ∧ a = a' ∧ c' ≠ 0)
  lt : σ.1 < T.length
section
variable {N : Nat} {T : List Tok} {P : Nat} {h h' : Heap} {σ : St} {it st : Int}
theorem PB.P_lt (x : PB T P h σ it st) : P < h.next := by
  obtain ⟨⟨s, c, a, h1, h2, h3, h4⟩, h5⟩ := x
  exact h1.2
theorem PB.chgM {M : List Nat} (x : PB T P h σ it st) (c : Chg M h h') (hM : ∀ A ∈ M, P < A) : PB T P h' σ it st := by
  obtain ⟨⟨s, cc, a, h1, h2, h3, h4⟩, h5⟩ := x
  exact ⟨⟨s, cc, a, h1.chg c (fun hm => by have := hM P hm; omega), h2.chg c (fun A hA hm => by have := hM A hm; have hA : A < P := hA; omega), h3, h4⟩, h5⟩
theorem PB.chg (x : PB T P h σ it st) (c : Chg [] h h') : PB T P h' σ it st := x.chgM c (by simp)
theorem PB.chg1 {A : Nat} (x : PB T P h σ it st) (c : Chg [A] h h') (hA : P < A) : PB T P h' σ it st := x.chgM c (by simpa using hA)
theorem PB.readI (x : PB T P h σ it st) : h.cell (P, 1) = some (.int .i64 (σ.1 : Int)) := by
  obtain ⟨⟨s, c, a, h1, h2, h3, h4⟩, h5⟩ := x
  exact h1.cell 1
theorem PB.readC (x : PB T P h σ it st) : ∃ c, h.cell (P, 2) = some (.int .i64 c) ∧ eqInt c 0 = σ.2.isNone := by
  obtain ⟨⟨s, c, a, h1, h2, h3, h4⟩, h5⟩ := x
  refine ⟨c, h1.cell 2, ?_⟩
  obtain ⟨i, e⟩ := σ
  rw [eqI]
  cases e with
  | none => simpa using h4
  | some q => simp only [Option.isNone_some, decide_eq_false_iff_not]; rw [h4.1]; exact h4.2.2
theorem PB.readT (x : PB T P h σ it st) : ∃ s : SL, h.cell (P, 0) = some (.slice s.a s.len s.cap s.sz) ∧ h.cells (s.at σ.1 3) 3 = some (.agg (tkc (tk T σ.1).1 (tk T σ.1).2.1 ((tk T σ.1).2.2 : Int))) ∧ s.a.isSome = true ∧ σ.1 < s.len ∧ Sl h (fun C => C < P) s (T.map tokD) ∧ s.sz = 3 := by
  obtain ⟨⟨s, c, a, h1, h2, h3, h4⟩, h5⟩ := x
  obtain ⟨d1, d2, d3⟩ := dt_tokAt h2 h3 h5
  exact ⟨s, h1.cell 0, d1, d2, d3, h2, h3⟩
theorem sl_cell {s : SL} (hs : Sl h (fun C => C < P) s (T.map tokD)) (h3 : s.sz = 3) {i : Nat} (hi : i < T.length) {j : Nat} (hj : j < 3) : h.cell ((s.at i 3).1, (s.at i 3).2 + j) = (tkc (tk T i).1 (tk T i).2.1 ((tk T i).2.2 : Int))[j]? := by
  obtain ⟨cs, e⟩ := hs.elt (i := i) (by rw [List.length_map]; exact hi)
  rw [h3] at e
  have hd := e.dt
  rw [List.getElem_map] at hd
  rw [e.cell j hj, dt_tok' hd, tk_at hi]
theorem f61_eq (x : PB T P h σ it st) (k : Int) : f61 N (some (P, 0)) k h = some (decide ((tk T σ.1).1 = k), h) := by
  unfold f61
  obtain ⟨s, r0, r1, r2, r3, r4, r5⟩ := x.readT
  simp only [need_some, Nat.zero_add, Nat.add_zero, r0, x.readI, bindV_some, cast_slice, cast_int]
  rw [ixK_at r2 r3]
  have := sl_cell r4 r5 x.lt (j := 0) (by omega)
  simp only [Nat.add_zero] at this
  simp only [this, tkc, List.getElem?_cons_zero, bindV_some, cast_int, eqI]
theorem PB.setI {i : Nat} (x : PB T P h (i, none) it st) {j : Nat} (hj : j < T.length) : ∃ h', h.store (P, 1) [.int .i64 (j : Int)] = some h' ∧ Chg [P] h h' ∧ PB T P h' (j, none) it st := by
  obtain ⟨⟨s, c, a, h1, h2, h3, h4⟩, h5⟩ := x
  exact ⟨_, h1.store1 (j := 1) (by show 1 < 6; omega) (.int .i64 (j : Int)), h1.put _, ⟨s, c, a, own_put h1 _, h2.chg (h1.put _) (by intro C hC hm; rw [List.mem_singleton] at hm; have hC : C < P := hC; omega), h3, h4⟩, hj⟩
theorem f62_eq (x : PB T P h σ it st) {c : Int} (hc : c ≠ 0) : ∃ h', f62 N (some (P, 0)) c h = some ((), h') ∧ Chg [P] h h' ∧ PB T P h' (failS T c σ) it st := by
  unfold f62
  obtain ⟨cc, k2, hk⟩ := x.readC
  simp only [need_some, Nat.zero_add, k2, bindV_some, cast_int, hk]
  obtain ⟨i, e⟩ := σ
  cases e with
  | some q => exact ⟨_, rfl, Chg.refl _ _, x⟩
  | none =>
    simp only [Option.isNone_none, cond_true]
    obtain ⟨s, r0, r1, r2, r3, r4, r5⟩ := x.readT
    simp only [need_some, Nat.zero_add, Nat.add_zero, r0, x.readI, bindV_some, cast_slice, cast_int]
    rw [ixK_at r2 r3]
    have h2' := sl_cell r4 r5 x.lt (j := 2) (by omega)
    simp only [h2', tkc, List.getElem?_cons_succ, List.getElem?_cons_zero, bindV_some, cast_int]
    obtain ⟨⟨s', c', a, h1, h2, h3, h4⟩, h5⟩ := x
    have e1 := h1.store1 (j := 2) (by show 2 < 6; omega) (.int .i64 c)
    have o1 := own_put h1 ([SL.av s', .int .i64 (i : Int), .int .i64 c', .int .i64 a, .int .i64 it, .int .i64 st].set 2 (.int .i64 c))
    have c1 := h1.put ([SL.av s', .int .i64 (i : Int), .int .i64 c', .int .i64 a, .int .i64 it, .int .i64 st].set 2 (.int .i64 c))
    rw [e1, need_some]
    generalize h.put P (.row ([SL.av s', .int .i64 (i : Int), .int .i64 c', .int .i64 a, .int .i64 it, .int .i64 st].set 2 (.int .i64 c)) .own) = h11 at *
    have e2 := o1.store1 (j := 3) (by show 3 < 6; omega) (.int .i64 ((tk T i).2.2 : Int))
    rw [e2, need_some]
    have c2 := c1.trans (o1.put (([SL.av s', .int .i64 (i : Int), .int .i64 c', .int .i64 a, .int .i64 it, .int .i64 st].set 2 (.int .i64 c)).set 3 (.int .i64 ((tk T i).2.2 : Int))))
    exact ⟨_, rfl, c2, ⟨s', c, _, own_put o1 _, h2.chg c2 (by intro C hC hm; rw [List.mem_singleton] at hm; have hC : C < P := hC; omega), h3, rfl, rfl, hc⟩, h5⟩
theorem f97_eq (x : PB T P h σ it st) (n : Nat) : ∃ h', f97 N (some (P, 0)) (n : Int) h = some ((), h') ∧ Chg [P] h h' ∧ PB T P h' (if 64 < n then failS T 6 σ else σ) it st := by
  unfold f97
  obtain ⟨cc, k2, hk⟩ := x.readC
  simp only [need_some, Nat.zero_add, k2, bindV_some, cast_int, hk]
  have z : ltInt 64 (n : Int) = decide (64 < n) := lt_nat' 64 n
  simp only [z]
  cases hn : σ.2.isNone with
  | false =>
    simp only [cond_false]
    refine ⟨_, rfl, Chg.refl _ _, ?_⟩
    obtain ⟨i, e⟩ := σ
    cases e with
    | none => cases hn
    | some q => simpa [failS] using x
  | true =>
    simp only [cond_true]
    by_cases q : 64 < n
    · simp only [q, decide_true, cond_true, if_true]
      obtain ⟨h6, e6, c6, x6⟩ := f62_eq (N := N) x (c := 6) (by decide)
      rw [e6, bind2_some]
      exact ⟨_, rfl, c6, x6⟩
    · simp only [q, decide_false, cond_false, if_false]
      exact ⟨_, rfl, Chg.refl _ _, x⟩
theorem f151_eq (x : PB T P h σ it st) (n : Nat) : ∃ h', f151 N (some (P, 0)) (Int.ofNat n) h = some ((), h') ∧ Chg [P] h h' ∧ PB T P h' (if 64 ≤ n then failS T 5 σ else σ) it st := by
  unfold f151
  obtain ⟨cc, k2, hk⟩ := x.readC
  simp only [need_some, Nat.zero_add, k2, bindV_some, cast_int, hk]
  have z : leInt 64 (Int.ofNat n) = decide (64 ≤ n) := le_nat 64 n
  simp only [z]
  cases hn : σ.2.isNone with
  | false =>
    simp only [cond_false]
    refine ⟨_, rfl, Chg.refl _ _, ?_⟩
    obtain ⟨i, e⟩ := σ
    cases e with
    | none => cases hn
    | some q => simpa [failS] using x
  | true =>
    simp only [cond_true]
    by_cases q : 64 ≤ n
    · simp only [q, decide_true, cond_true, if_true]
      obtain ⟨h6, e6, c6, x6⟩ := f62_eq (N := N) x (c := 5) (by decide)
      rw [e6, bind2_some]
      exact ⟨_, rfl, c6, x6⟩
    · simp only [q, decide_false, cond_false, if_false]
      exact ⟨_, rfl, Chg.refl _ _, x⟩
theorem f150_eq (x : PB T P h σ it st) (w : Bs) : ∃ h', f150 N (some (P, 0)) w h = some (isS T w σ.1, h') ∧ Chg [] h h' := by
  unfold f150
  obtain ⟨s, r0, r1, r2, r3, r4, r5⟩ := x.readT
  simp only [need_some, Nat.zero_add, Nat.add_zero, r0, x.readI, bindV_some, cast_slice, cast_int]
  rw [ixK_at r2 r3]
  rw [r1, agg3]
  obtain ⟨h8, e8, c8, o8⟩ := tokRow h (tk T σ.1)
  have c7 := chg_push h (.row [(.int .i64 0), (.str []), (.int .i64 0)] .own)
  have x7 := x.chg c7
  have hP := x.P_lt
  obtain ⟨⟨s', c', a', g1, g2, g3, g4⟩, g5⟩ := x
  have hs : s' = s := by
    have := g1.cell 0
    rw [r0] at this
    simp only [List.getElem?_cons_zero, SL.av, Option.some.injEq, AV.slice.injEq] at this
    obtain ⟨e1, e2, e3, e4⟩ := this
    cases s; cases s'; simp_all
  subst hs
  have g1' := g1.chg c7 (by simp)
  have t0 : (h.push (.row [(.int .i64 0), (.str []), (.int .i64 0)] .own)).cell (P, 0) = some (.slice s'.a s'.len s'.cap s'.sz) := g1'.cell 0
  have t1 : (h.push (.row [(.int .i64 0), (.str []), (.int .i64 0)] .own)).cell (P, 1) = some (.int .i64 (σ.1 : Int)) := g1'.cell 1
  have t2 := (dt_tokAt (g2.chg c7 (by simp)) g3 g5).1
  have i1 : h.cell (P, 1) = some (.int .i64 (σ.1 : Int)) := g1.cell 1
  simp only [ttOf] at e8
  rw [e8]
  simp only [need_some, tkc] at t2 r1 ⊢
  simp only [t0, t1, t2, r0, r1, i1, sameO_some, cond_true, guardB_true]
  have q0 : h8.cell (h.next, 0) = some (.int .i64 (tk T σ.1).1) := o8.cell 0
  have q1 : h8.cell (h.next, 1) = some (.str (tk T σ.1).2.1) := o8.cell 1
  simp only [q0, q1, bindV_some, cast_int, cast_str, eqI, isS]
  by_cases z2 : (tk T σ.1).1 = 2
  · simp only [z2, decide_true, cond_true, true_or, Bool.true_and]; exact ⟨_, rfl, c8⟩
  · by_cases z5 : (tk T σ.1).1 = 5
    · simp only [z5, decide_true, cond_true, or_true, Bool.true_and, show ¬ (5 : Int) = 2 by decide, decide_false, cond_false]; exact ⟨_, rfl, c8⟩
    · simp only [z2, z5, decide_false, cond_false, or_self, Bool.false_and]; exact ⟨_, rfl, c8⟩
theorem f98_eq (hT : Toks T) (x : PB T P h σ it st) (w : Bs) : ∃ h', f98 N (some (P, 0)) w h = some ((optS T w σ).1, h') ∧ Chg [P] h h' ∧ PB T P h' (optS T w σ).2 it st := by
  unfold f98
  obtain ⟨cc, k2, hk⟩ := x.readC
  simp only [need_some, Nat.zero_add, k2, bindV_some, cast_int, hk]
  obtain ⟨i, e⟩ := σ
  cases e with
  | some q => exact ⟨_, rfl, Chg.refl _ _, x⟩
  | none =>
    simp only [Option.isNone_none, cond_true, optS]
    obtain ⟨h5, e5, c5⟩ := f150_eq (N := N) x w
    rw [e5, bind2_some]
    have x5 := x.chg c5
    cases hs : isS T w i with
    | false => simp only [cond_false, Bool.false_eq_true, if_false]; exact ⟨_, rfl, c5.mono (by simp), x5⟩
    | true =>
      simp only [cond_true, if_true, x5.readI, bindV_some, cast_int]
      have h0 : (tk T i).1 ≠ 0 := by
        intro e0
        simp [isS, e0] at hs
      have hn := tkNext hT x.lt h0
      rw [wrapI hT x.lt]
      obtain ⟨h8, e8, c8, x8⟩ := PB.setI x5 hn
      rw [e8, need_some]
      exact ⟨_, rfl, (c5.mono (by simp)).trans c8, x8⟩
end
end Go.Proofs.YtkcjphhjmlienaaGreatDoor.Qp

set_option linter.unusedVariables false
set_option linter.unusedSimpArgs false
open Go Go.Proofs.YtkcjphhjmlienaaGreatDoor.Ai Go.Proofs
namespace Go.Proofs.YtkcjphhjmlienaaGreatDoor.Qp
section
variable {N : Nat} {T : List Tok} {P : Nat} {h h' : Heap} {σ : St} {it st : Int}
theorem f99_eq (hT : Toks T) (x : PB T P h σ it st) {k : Int} (hk0 : k ≠ 0) : ∃ h', f99 N (some (P, 0)) k h = some ((textS T k σ).1, h') ∧ Chg [P] h h' ∧ PB T P h' (textS T k σ).2 it st := by
  unfold f99
  obtain ⟨cc, k2, hk⟩ := x.readC
  simp only [need_some, Nat.zero_add, k2, bindV_some, cast_int, hk, f61_eq x]
  obtain ⟨i, e⟩ := σ
  cases e with
  | some q =>
    simp only [Option.isNone_some, cond_false, bind2_some, need_some, k2, bindV_some, cast_int, hk, Bool.not_false, cond_true, textS]
    exact ⟨_, rfl, Chg.refl _ _, x⟩
  | none =>
    simp only [Option.isNone_none, cond_true, bind2_some, need_some, textS]
    by_cases q : (tk T i).1 = k
    · simp only [q, decide_true, Bool.not_true, cond_false, need_some, bind2_some, Nat.zero_add, k2, bindV_some, cast_int, hk, Option.isNone_none, if_true, x.readI]
      have hn := tkNext hT x.lt (by rw [q]; exact hk0)
      rw [wrapI hT x.lt]
      obtain ⟨h8, e8, c8, x8⟩ := PB.setI x hn
      rw [e8, need_some]
      obtain ⟨s, r0, r1, r2, r3, r4, r5⟩ := x8.readT
      simp only [r0, x8.readI, bindV_some, cast_slice, cast_int]
      have w : wrapA .i64 (((i + 1 : Nat) : Int) - 1) = (i : Int) := by
        rw [show ((i + 1 : Nat) : Int) - 1 = (i : Int) by omega, wrap_nat (by have := hT.len; have := x.lt; omega)]
      have hi : i < s.len := by have := r3; simp only at this; omega
      rw [w, ixK_at r2 hi]
      have := sl_cell r4 r5 x.lt (j := 1) (by omega)
      simp only [this, tkc, List.getElem?_cons_succ, List.getElem?_cons_zero, bindV_some, cast_str]
      exact ⟨_, rfl, c8, x8⟩
    · simp only [q, decide_false, Bool.not_false, cond_true, if_false]
      obtain ⟨h9, e9, c9, x9⟩ := f62_eq (N := N) x (c := 21) (by decide)
      rw [e9]
      simp only [bind2_some]
      obtain ⟨c2, k9, hk9⟩ := x9.readC
      simp only [need_some, Nat.zero_add, k9, bindV_some, cast_int, hk9, failS, Option.isNone_some, Bool.not_false, cond_true]
      exact ⟨_, rfl, c9, x9⟩
theorem f100_eq (hT : Toks T) (x : PB T P h σ it st) : ∃ h', f100 N (some (P, 0)) h = some ((nameS T σ).1, h') ∧ Chg [P] h h' ∧ PB T P h' (nameS T σ).2 it st := by
  unfold f100
  obtain ⟨h2, e2, c2, x2⟩ := f99_eq (N := N) hT x (k := 1) (by decide)
  have l2 := textS_len hT 1 x.lt
  rw [e2, bind2_some]
  obtain ⟨h4, e4, c4, x4⟩ := f98_eq (N := N) hT x2 [58, 58]
  rw [e4, bind2_some]
  have c5 := c2.trans c4
  simp only [nameS]
  cases hb : (optS T [58, 58] (textS T 1 σ).2).1 with
  | false => simp only [cond_false, Bool.false_eq_true, if_false]; exact ⟨_, rfl, c5, x4⟩
  | true =>
    simp only [cond_true, if_true]
    obtain ⟨h7, e7, c7, x7⟩ := f99_eq (N := N) hT x4 (k := 1) (by decide)
    have l7 := textS_len hT 1 x4.lt
    rw [binAdd (by simp only [List.length_cons, List.length_nil]; omega)]
    simp only [bindV_some, cast_str]
    rw [e7, bind2_some, binAdd (by simp only [List.length_append, List.length_cons, List.length_nil]; omega)]
    simp only [bindV_some, cast_str]
    exact ⟨_, rfl, c5.trans c7, x7⟩
theorem f152_eq (hT : Toks T) (x : PB T P h σ it st) (w : Bs) : ∃ h', f152 N (some (P, 0)) w h = some ((), h') ∧ Chg [P] h h' ∧ PB T P h' (wantS T w σ) it st := by
  unfold f152
  obtain ⟨cc, k2, hk⟩ := x.readC
  simp only [need_some, Nat.zero_add, k2, bindV_some, cast_int, hk]
  obtain ⟨i, e⟩ := σ
  cases e with
  | some q => exact ⟨_, rfl, Chg.refl _ _, x⟩
  | none =>
    simp only [Option.isNone_none, cond_true, wantS, optS]
    obtain ⟨h5, e5, c5⟩ := f150_eq (N := N) x w
    rw [e5, bind2_some]
    have x5 := x.chg c5
    obtain ⟨c5', k5, hk5⟩ := x5.readC
    rcases Bool.eq_false_or_eq_true (isS T w i) with hs | hs
    case inr =>
      simp only [hs, Bool.not_false, cond_true, Bool.false_eq_true, if_false]
      obtain ⟨h9, e9, c9, x9⟩ := f62_eq (N := N) x5 (c := 21) (by decide)
      rw [e9, bind2_some]
      obtain ⟨c2, k9, hk9⟩ := x9.readC
      simp only [need_some, Nat.zero_add, k9, bindV_some, cast_int, hk9, failS, Option.isNone_some, cond_false]
      exact ⟨_, rfl, (c5.mono (by simp)).trans c9, x9⟩
    case inl =>
      simp only [hs, Bool.not_true, cond_false, if_true, need_some, Nat.zero_add, k5, bindV_some, cast_int, hk5, Option.isNone_none, cond_true, x5.readI]
      have h0 : (tk T i).1 ≠ 0 := by
        intro e0
        simp [isS, e0] at hs
      have hn := tkNext hT x.lt h0
      rw [wrapI hT x.lt]
      obtain ⟨h8, e8, c8, x8⟩ := PB.setI x5 hn
      rw [e8, need_some]
      exact ⟨_, rfl, (c5.mono (by simp)).trans c8, x8⟩
theorem fail_text (T : List Tok) (c : Int) (σ : St) (k : Int) : textS T k (failS T c σ) = ([], failS T c σ) := by
  obtain ⟨i, e⟩ := σ
  cases e <;> rfl
theorem fail_opt (T : List Tok) (c : Int) (σ : St) (w : Bs) : optS T w (failS T c σ) = (false, failS T c σ) := by
  obtain ⟨i, e⟩ := σ
  cases e <;> rfl
theorem fail_some (T : List Tok) (c : Int) (σ : St) : (failS T c σ).2 ≠ none := by
  obtain ⟨i, e⟩ := σ
  cases e <;> simp [failS]
theorem rlist_loop (hT : Toks T) {h0 : Heap} (hP : P < h0.next) : ∀ (g M : Nat) (i : Nat) (h : Heap) (v : SL) (xs : List Bs), g < M → g ≤ 64 → xs.length = 64 - g → PB T P h (i, none) it st → Chg [P] h0 h → Ow h0.next h v 1 (xs.map D.s) →
    ∃ v' h', f101_l1 N M (some (P, 0)) v h = some (.exit 0, (some (P, 0), v', ()), h') ∧ PB T P h' (livesS T g (i, none)).2 it st ∧ Chg [P] h0 h' ∧ ((livesS T g (i, none)).2.2 = none → Ow h0.next h' v' 1 ((xs ++ (livesS T g (i, none)).1).map D.s)) := by
  intro g
  induction g with
  | zero =>
    intro M i h v xs hM hg hx x c ow
    obtain ⟨M, rfl⟩ : ∃ m, M = m + 1 := ⟨M - 1, by omega⟩
    rw [f101_l1_succ]
    unfold f101_l1_b
    obtain ⟨cc, k2, hk⟩ := x.readC
    simp only [need_some, Nat.zero_add, k2, bindV_some, cast_int, hk, Option.isNone_none, cond_true]
    have hv : v.len = 64 := by rw [ow.len, List.length_map, hx]
    obtain ⟨h8, e8, c8, x8⟩ := f151_eq (N := N) x v.len
    rw [e8, bind2_some]
    rw [hv] at x8
    simp only [Nat.le_refl, if_true] at x8
    obtain ⟨h10, e10, c10, x10⟩ := f99_eq (N := N) hT x8 (k := 3) (by decide)
    rw [e10, bind2_some]
    rw [fail_text] at x10 ⊢
    have c0 : Chg [P] h0 h10 := (c.trans c8).trans c10
    have ow2 := (ow.chg c8 (by intro A hA; rw [List.mem_singleton] at hA; omega)).chg c10 (by intro A hA; rw [List.mem_singleton] at hA; omega)
    obtain ⟨v', h13, e13, o13, c13⟩ := append_str c0 ow2 (by omega) ([] : Bs)
    dsimp only at x10 ⊢
    rw [e13]
    have hge : ∀ A ∈ v.blk.toList, h0.next ≤ A := fun A hA => (ow2.ge A (by simpa using hA)).1
    have x13 := x10.chgM c13 (fun A hA => by have := hge A hA; omega)
    obtain ⟨h15, e15, c15, x15⟩ := f98_eq (N := N) hT x13 [44]
    rw [fail_opt] at e15 x15
    rw [e15, bind2_some]
    simp only [Bool.not_false, cond_true, livesS]
    refine ⟨_, _, rfl, x15, (c0.step c13 (fun A hA hl => by have := hge A hA; omega)).trans c15, fun hn => absurd hn (fail_some _ _ _)⟩
  | succ g ih =>
    intro M i h v xs hM hg hx x c ow
    obtain ⟨M, rfl⟩ : ∃ m, M = m + 1 := ⟨M - 1, by omega⟩
    rw [f101_l1_succ]
    unfold f101_l1_b
    obtain ⟨cc, k2, hk⟩ := x.readC
    simp only [need_some, Nat.zero_add, k2, bindV_some, cast_int, hk, Option.isNone_none, cond_true]
    have hv : v.len = 64 - (g + 1) := by rw [ow.len, List.length_map, hx]
    obtain ⟨h8, e8, c8, x8⟩ := f151_eq (N := N) x v.len
    rw [e8, bind2_some]
    rw [hv] at x8
    rw [if_neg (by omega)] at x8
    obtain ⟨h10, e10, c10, x10⟩ := f99_eq (N := N) hT x8 (k := 3) (by decide)
    rw [e10, bind2_some]
    have c0 : Chg [P] h0 h10 := (c.trans c8).trans c10
    have ow2 := (ow.chg c8 (by intro A hA; rw [List.mem_singleton] at hA; omega)).chg c10 (by intro A hA; rw [List.mem_singleton] at hA; omega)
    obtain ⟨v', h13, e13, o13, c13⟩ := append_str c0 ow2 (by omega) (textS T 3 (i, none)).1
    rw [e13]
    have hge : ∀ A ∈ v.blk.toList, h0.next ≤ A := fun A hA => (ow2.ge A (by simpa using hA)).1
    have x13 := x10.chgM c13 (fun A hA => by have := hge A hA; omega)
    obtain ⟨h15, e15, c15, x15⟩ := f98_eq (N := N) hT x13 [44]
    rw [e15, bind2_some]
    have c015 := (c0.step c13 (fun A hA hl => by have := hge A hA; omega)).trans c15
    have o15 := o13.chg c15 (by intro A hA; rw [List.mem_singleton] at hA; omega)
    simp only [livesS]
    cases hb : (optS T [44] (textS T 3 (i, none)).2).1 with
    | false =>
      simp only [Bool.not_false, cond_true, Bool.false_eq_true, if_false]
      exact ⟨_, _, rfl, x15, c015, fun _ => o15⟩
    | true =>
      simp only [Bool.not_true, cond_false, if_true]
      have hs := (optS_none hb).1
      rw [hs] at x15 ⊢
      have := ih M _ h15 v' (xs ++ [(textS T 3 (i, none)).1]) (by omega) (by omega) (by simp; omega) x15 c015 o15
      simpa only [List.append_assoc, List.singleton_append] using this
theorem f101_eq (hT : Toks T) (hN : 100 ≤ N) (x : PB T P h σ it st) : ∃ v h', f101 N (some (P, 0)) h = some (v, h') ∧ PB T P h' (lifesS T σ).2 it st ∧ Chg [P] h h' ∧ ((lifesS T σ).2.2 = none → Sl h' (fun C => h.next ≤ C) v ((lifesS T σ).1.map D.s)) := by
  unfold f101
  have hP := x.P_lt
  obtain ⟨h2, e2, c2, x2⟩ := f98_eq (N := N) hT x [60]
  rw [e2, bind2_some]
  simp only [lifesS]
  cases hb : (optS T [60] σ).1 with
  | false =>
    simp only [Bool.not_false, cond_true, Bool.false_eq_true, if_false]
    exact ⟨_, _, rfl, x2, c2, fun _ => Sl.nil _ _ _⟩
  | true =>
    simp only [Bool.not_true, cond_false, if_true]
    have hs := (optS_none hb).1
    rw [hs] at x2 ⊢
    obtain ⟨v', h19, e19, x19, c19, w19⟩ := rlist_loop (N := N) hT (h0 := h2) (by have := c2.next; omega) 64 N _ h2 ⟨none, 0, 0, 0⟩ [] (by omega) (Nat.le_refl _) rfl x2 (Chg.refl _ _) (Ow.nil _ _ _ _)
    rw [e19]
    simp only [bind3_some]
    obtain ⟨h21, e21, c21, x21⟩ := f152_eq (N := N) hT x19 [62]
    rw [e21, bind2_some]
    refine ⟨_, _, rfl, x21, (c2.trans c19).trans c21, fun hn => ?_⟩
    have hn2 : (livesS T 64 (σ.1 + 1, none)).2.2 = none := by
      cases hq : (livesS T 64 (σ.1 + 1, none)).2 with
      | mk i e =>
        cases e with
        | none => rfl
        | some q => rw [hq] at hn; simp [wantS, optS, failS] at hn
    have w21 := (w19 hn2).chg c21 (by intro A hA; rw [List.mem_singleton] at hA; have := c2.next; omega)
    rw [List.nil_append] at w21
    exact w21.sl.weak (fun C hC _ => by have := c2.next; omega)
end
end Go.Proofs.YtkcjphhjmlienaaGreatDoor.Qp

set_option linter.unusedVariables false
set_option linter.unusedSimpArgs false
open Go Go.Proofs.YtkcjphhjmlienaaGreatDoor.Ai Go.Proofs
namespace Go.Proofs.YtkcjphhjmlienaaGreatDoor.Qp
theorem textS_ok {T : List Tok} {k : Int} {σ : St} (h : (textS T k σ).2.2 = none) : σ.2 = none := by
  obtain ⟨i, e⟩ := σ
  cases e with
  | none => rfl
  | some q => simp [textS] at h
section
variable {N : Nat} {T : List Tok} {P : Nat} {it st : Int} {h : Heap} {σ : St}
theorem rlife_part (hT : Toks T) (x : PB T P h σ it st) {A : Nat} {deep : Int} {R : Option (Nat × Nat)} (oA : h.own A (tyc (4, [], sl0, sl0, ()))) (hA : P < A) :
    ∃ s1 h38, (bind2 (f61 N (some (P, 0)) 3 h) fun (x21 : Bool) h22 =>
       (bif x21 then
        (bind2 (f99 N (some (P, 0)) 3 h22) fun (x23 : List UInt8) h24 =>
        let h25 : Heap := h24.push (.row [(.str x23)] .own)
        (need (h25.store ((A, 0).1, (A, 0).2 + 2) [(.slice (some (h24.next, 0)) 1 1 1)]) fun h26 =>
        some ((some (P, 0), deep, R, (some (A, 0)), ()), h26)))
       else
        some ((some (P, 0), deep, R, (some (A, 0)), ()), h22))) = some ((some (P, 0), deep, R, (some (A, 0)), ()), h38) ∧ PB T P h38 (lifeS T σ).2 it st ∧ Chg [P, A] h h38 ∧ h38.own A (tyc (4, [], s1, sl0, ())) ∧ Sl h38 (fun C => h.next ≤ C) s1 ((lifeS T σ).1.map D.s) := by
  rw [f61_eq x, bind2_some]
  simp only [lifeS]
  by_cases q : (tk T σ.1).1 = 3
  · simp only [q, decide_true, cond_true, if_true]
    obtain ⟨h34, e34, c34, x34⟩ := f99_eq (N := N) hT x (k := 3) (by decide)
    rw [e34, bind2_some]
    have o34 := oA.chg c34 (by simp; omega)
    have oB := own_push h34 [AV.str (textS T 3 σ).1]
    have cB := chg_push h34 (.row [AV.str (textS T 3 σ).1] .own)
    generalize h34.push (.row [AV.str (textS T 3 σ).1] .own) = h35 at *
    have o35 := o34.chg cB (by simp)
    have hst : h35.store (A, 2) [SL.av ⟨some (h34.next, 0), 1, 1, 1⟩] = some (h35.put A (.row (tyc (4, [], ⟨some (h34.next, 0), 1, 1, 1⟩, sl0, ())) .own)) := o35.store1 (j := 2) (by show 2 < 4; omega) _
    simp only [SL.av] at hst
    simp only [Nat.zero_add]
    rw [hst, need_some]
    have cp := o35.put (tyc (4, [], ⟨some (h34.next, 0), 1, 1, 1⟩, sl0, ()))
    have hAl : A < h34.next := o34.2
    refine ⟨_, _, rfl, (x34.chg cB).chg1 cp hA, (c34.mono (by simp)).trans ((cB.mono (by simp)).trans (cp.mono (by simp))), own_put o35 _, ?_⟩
    exact sl_one (V := fun C => h.next ≤ C) (oB.chg cp (by rw [List.mem_singleton]; omega)) rfl c34.next (dt_str _ _ _)
  · simp only [q, decide_false, cond_false, if_false]
    exact ⟨sl0, _, rfl, x, Chg.refl _ _, oA, Sl.nil _ _ _⟩
theorem rmut_part (hT : Toks T) (x : PB T P h σ it st) {A : Nat} {deep : Int} {R : Option (Nat × Nat)} {s1 : SL} (oA : h.own A (tyc (4, [], s1, sl0, ()))) (hA : P < A) :
    ∃ h44, (bind2 (f98 N (some (P, 0)) [109, 117, 116] h) fun (x39 : Bool) h40 =>
       (bif x39 then
        (need (some (A, 0)) fun q41 =>
        (need (h40.store (q41.1, q41.2 + 0) [(.int .i64 5)]) fun h42 =>
        some ((some (P, 0), deep, R, (some (A, 0)), ()), h42)))
       else
        some ((some (P, 0), deep, R, (some (A, 0)), ()), h40))) = some ((some (P, 0), deep, R, (some (A, 0)), ()), h44) ∧ PB T P h44 (optS T [109, 117, 116] σ).2 it st ∧ Chg [P, A] h h44 ∧ h44.own A (tyc ((if (optS T [109, 117, 116] σ).1 = true then 5 else 4), [], s1, sl0, ())) := by
  obtain ⟨h40, e40, c40, x40⟩ := f98_eq (N := N) hT x [109, 117, 116]
  rw [e40, bind2_some]
  have o40 := oA.chg c40 (by simp; omega)
  cases hb : (optS T [109, 117, 116] σ).1 with
  | false =>
    simp only [cond_false, Bool.false_eq_true, if_false]
    exact ⟨_, rfl, x40, c40.mono (by simp), o40⟩
  | true =>
    simp only [cond_true, if_true, need_some, Nat.zero_add, Nat.add_zero]
    have hst : h40.store (A, 0) [.int .i64 5] = some (h40.put A (.row (tyc (5, [], s1, sl0, ())) .own)) := o40.store1 (j := 0) (by show 0 < 4; omega) _
    rw [hst, need_some]
    have cp := o40.put (tyc (5, [], s1, sl0, ()))
    exact ⟨_, rfl, x40.chg1 cp hA, (c40.mono (by simp)).trans (cp.mono (by simp)), own_put o40 _⟩
theorem f60_eq (hT : Toks T) (hN : 100 ≤ N) : ∀ (g M : Nat) (h : Heap) (σ : St), g < M → g ≤ 64 → PB T P h σ it st →
    ∃ r h', f60 N M (some (P, 0)) ((65 - g : Nat) : Int) h = some (r, h') ∧ PB T P h' (typS T g σ).2 it st ∧ Chg [P] h h' ∧ ((typS T g σ).2.2 = none → Dt h' (fun C => h.next ≤ C) (typS T g σ).1 (tyc r)) := by
  intro g
  induction g with
  | zero =>
    intro M h σ hM hg x
    obtain ⟨M, rfl⟩ : ∃ m, M = m + 1 := ⟨M - 1, by omega⟩
    rw [f60_succ]
    unfold f60_r
    have o1 := own_push h zt
    have c1 := chg_push h (.row zt .own)
    have x1 := x.chg c1
    have e1 : h.push (.row [(.int .i64 0), (.str []), (.slice none 0 0 0), (.slice none 0 0 0)] .own) = h.push (.row zt .own) := rfl
    rw [e1]
    generalize h.push (.row zt .own) = h1 at *
    dsimp only
    have hP := x.P_lt
    obtain ⟨h4, e4, c4, x4⟩ := f97_eq (N := N) x1 (65 - 0)
    rw [if_pos (by omega)] at x4
    rw [e4]
    simp only [bind2_some, need_some, Nat.zero_add]
    obtain ⟨v, k3, hv⟩ := x4.readC
    simp only [k3, bindV_some, cast_int, hv]
    have hs : (failS T 6 σ).2.isNone = false := by obtain ⟨i, e⟩ := σ; cases e <;> rfl
    rw [hs]
    simp only [Bool.not_false, cond_true]
    have o4 := o1.chg c4 (by simp; omega)
    have cp := o4.put zt
    refine ⟨(0, [], sl0, sl0, ()), _, fin4 o4 (0, [], sl0, sl0, ()) (fun x h => some (x, h)), (x4.chg1 cp (by omega)), ?_, fun _ => dt_ty0 _ _ _ _⟩
    exact ((c1.mono (by simp)).trans c4).step cp (fun A hA hl => by rw [List.mem_singleton] at hA; omega)
  | succ g ih =>
    intro M h σ hM hg x
    obtain ⟨M, rfl⟩ : ∃ m, M = m + 1 := ⟨M - 1, by omega⟩
    rw [f60_succ]
    unfold f60_r
    have o1 := own_push h zt
    have c1 := chg_push h (.row zt .own)
    have x1 := x.chg c1
    have e1 : h.push (.row [(.int .i64 0), (.str []), (.slice none 0 0 0), (.slice none 0 0 0)] .own) = h.push (.row zt .own) := rfl
    rw [e1]
    have n1 : (h.push (.row zt .own)).next = h.next + 1 := rfl
    generalize h.push (.row zt .own) = h1 at *
    dsimp only
    have hP := x.P_lt
    obtain ⟨h3, e3, c3, x3⟩ := f97_eq (N := N) x1 (65 - (g + 1))
    rw [if_neg (by omega)] at x3
    rw [e3]
    simp only [bind2_some, need_some, Nat.zero_add]
    obtain ⟨v, k3, hv⟩ := x3.readC
    simp only [k3, bindV_some, cast_int, hv]
    have o3 := o1.chg c3 (by simp; omega)
    have fin : ∀ {h' : Heap} (c : Chg [P] h1 h') (r : TyV), Chg [P] h (h'.put h.next (.row (tyc r) .own)) := fun c r =>
      ((c1.mono (by simp)).trans c).put (.inr (Nat.le_refl _)) _
    obtain ⟨i, e⟩ := σ
    cases e with
    | some q =>
      simp only [Option.isNone_some, Bool.not_false, cond_true, typS]
      have cp := o3.put zt
      exact ⟨(0, [], sl0, sl0, ()), _, fin4 o3 (0, [], sl0, sl0, ()) (fun x h => some (x, h)), (x3.chg1 cp (by omega)), fin c3 (0, [], sl0, sl0, ()), fun _ => dt_ty0 _ _ _ _⟩
    | none =>
      simp only [Option.isNone_none, Bool.not_true, cond_false, typS]
      obtain ⟨h15, e15, c15, x15⟩ := f98_eq (N := N) hT x3 [105, 110, 116]
      rw [e15, bind2_some]
      have o15 := o3.chg c15 (by simp; omega)
      cases hb1 : (optS T [105, 110, 116] (i, none)).1 with
      | true =>
        simp only [cond_true, if_true]
        have cp := o15.put (tyc (1, [], sl0, sl0, ()))
        exact ⟨(1, [], sl0, sl0, ()), _, fin4 o15 (1, [], sl0, sl0, ()) (fun x h => some (x, h)), (x15.chg1 cp (by omega)), fin (c3.trans c15) (1, [], sl0, sl0, ()), fun _ => dt_ty0 _ _ _ _⟩
      | false =>
      rw [optS_false hb1] at x15 ⊢
      simp only [cond_false, Bool.false_eq_true, if_false]
      obtain ⟨h21, e21, c21, x21⟩ := f98_eq (N := N) hT x15 [98, 111, 111, 108]
      rw [e21, bind2_some]
      have o21 := o15.chg c21 (by simp; omega)
      have c121 := (c3.trans c15).trans c21
      cases hb2 : (optS T [98, 111, 111, 108] (i, none)).1 with
      | true =>
        simp only [cond_true, if_true]
        have cp := o21.put (tyc (2, [], sl0, sl0, ()))
        exact ⟨(2, [], sl0, sl0, ()), _, fin4 o21 (2, [], sl0, sl0, ()) (fun x h => some (x, h)), (x21.chg1 cp (by omega)), fin c121 (2, [], sl0, sl0, ()), fun _ => dt_ty0 _ _ _ _⟩
      | false =>
      rw [optS_false hb2] at x21 ⊢
      simp only [cond_false, Bool.false_eq_true, if_false]
      obtain ⟨h27, e27, c27, x27⟩ := f98_eq (N := N) hT x21 [38]
      rw [e27, bind2_some]
      have o27 := o21.chg c27 (by simp; omega)
      have c127 := c121.trans c27
      have hge : h.next + 1 ≤ h27.next := by have := c127.next; omega
      cases hb3 : (optS T [38] (i, none)).1 with
      | true =>
        simp only [cond_true, if_true]
        have oA0 := own_push h27 zt
        have cA0 := chg_push h27 (.row zt .own)
        have eA : h27.push (.row [(.int .i64 0), (.str []), (.slice none 0 0 0), (.slice none 0 0 0)] .own) = h27.push (.row zt .own) := rfl
        have hstA := store4 oA0 (4, [], sl0, sl0, ())
        have nA : (h27.push (.row zt .own)).next = h27.next + 1 := rfl
        rw [eA, show (h27.push (.row zt .own)).store (h27.next, 0) [(.int .i64 4), (.str []), (.slice none 0 0 0), (.slice none 0 0 0)] = _ from hstA, need_some]
        have oA := own_put oA0 (tyc (4, [], sl0, sl0, ()))
        have cA : Chg [] h27 ((h27.push (.row zt .own)).put h27.next (.row (tyc (4, [], sl0, sl0, ())) .own)) := cA0.put (.inr (Nat.le_refl _)) _
        have x29 := x27.chg cA
        have n29 : ((h27.push (.row zt .own)).put h27.next (.row (tyc (4, [], sl0, sl0, ())) .own)).next = h27.next + 1 := rfl
        have oR := o27.chg cA (by simp)
        generalize (h27.push (.row zt .own)).put h27.next (.row (tyc (4, [], sl0, sl0, ())) .own) = h29 at *
        obtain ⟨s1, h38, e38, x38, c38, oA38, sl38⟩ := rlife_part (N := N) hT x29 (deep := ((65 - (g + 1) : Nat) : Int)) (R := some (h.next, 0)) oA (by omega)
        simp only [Nat.zero_add] at e38
        rw [e38, bind2_some]
        obtain ⟨h44, e44, x44, c44, oA44⟩ := rmut_part (N := N) hT x38 (deep := ((65 - (g + 1) : Nat) : Int)) (R := some (h.next, 0)) oA38 (by omega)
        simp only [need_some, Nat.zero_add, Nat.add_zero] at e44
        dsimp only
        simp only [need_some, Nat.zero_add, Nat.add_zero]
        rw [e44, bind2_some]
        dsimp only
        rw [wrap_succ (by omega), show 65 - (g + 1) + 1 = 65 - g by omega]
        obtain ⟨r, h47, e47, x47, c47, d47⟩ := ih M h44 _ (by omega) (by omega) x44
        rw [e47, bind2_some]
        have c2947 : Chg [P, h27.next] h29 h47 := (c38.trans c44).trans (c47.mono (by simp))
        have oA47 := oA44.chg c47 (by simp; omega)
        have oR47 := oR.chg c2947 (by simp; omega)
        have hg47 := c2947.next
        have h44n : h29.next ≤ h44.next := (c38.trans c44).next
        have oC := own_push h47 (tyc r)
        have cC := chg_push h47 (.row (tyc r) .own)
        have eC : h47.push (.row [(.int .i64 r.1), (.str r.2.1), (.slice r.2.2.1.a r.2.2.1.len r.2.2.1.cap r.2.2.1.sz), (.slice r.2.2.2.1.a r.2.2.2.1.len r.2.2.2.1.cap r.2.2.2.1.sz)] .own) = h47.push (.row (tyc r) .own) := rfl
        rw [eC]
        have oA48 := oA47.chg cC (by simp)
        have oR48 := oR47.chg cC (by simp)
        have x48 := x47.chg cC
        have nC : (h47.push (.row (tyc r) .own)).next = h47.next + 1 := rfl
        generalize h47.push (.row (tyc r) .own) = h48 at *
        generalize hk : (if (optS T [109, 117, 116] (lifeS T (optS T [38] (i, none)).2).2).1 = true then (5 : Int) else 4) = k at *
        have hst : h48.store (h27.next, 3) [SL.av ⟨some (h47.next, 0), 1, 1, 4⟩] = some (h48.put h27.next (.row (tyc (k, [], s1, ⟨some (h47.next, 0), 1, 1, 4⟩, ())) .own)) := oA48.store1 (j := 3) (by show 3 < 4; omega) _
        simp only [SL.av] at hst
        simp only [need_some, Nat.zero_add]
        rw [hst, need_some]
        have cA5 := oA48.put (tyc (k, [], s1, ⟨some (h47.next, 0), 1, 1, 4⟩, ()))
        have oA5 := own_put oA48 (tyc (k, [], s1, ⟨some (h47.next, 0), 1, 1, 4⟩, ()))
        have oR5 := oR48.chg cA5 (by simp; omega)
        have oC5 := oC.chg cA5 (by simp; omega)
        have x5 := x48.chg1 cA5 (by omega)
        generalize h48.put h27.next (.row (tyc (k, [], s1, ⟨some (h47.next, 0), 1, 1, 4⟩, ())) .own) = h50 at *
        rw [cells4 oA5]
        have cR := oR5.put (tyc (k, [], s1, ⟨some (h47.next, 0), 1, 1, 4⟩, ()))
        have cAll : Chg [P] h h50 := by
          have a1 : Chg [P] h h27 := (c1.mono (by simp)).trans c127
          have a2 : Chg [P] h h29 := a1.trans (cA.mono (by simp))
          have a3 : Chg [P] h h47 := a2.step c2947 (fun A hA hl => by
            simp only [List.mem_cons, List.not_mem_nil, or_false] at hA ⊢; omega)
          have a4 : Chg [P] h h48 := a3.trans (cC.mono (by simp))
          exact a4.step cA5 (fun A hA hl => by rw [List.mem_singleton] at hA; omega)
        refine ⟨(k, [], s1, ⟨some (h47.next, 0), 1, 1, 4⟩, ()), _, fin4 oR5 (k, [], s1, ⟨some (h47.next, 0), 1, 1, 4⟩, ()) (fun x h => some (x, h)), (x5.chg1 cR (by omega)), cAll.put (.inr (Nat.le_refl _)) _, fun hn => ?_⟩
        have d5 := ((d47 hn).chg cC (by simp)).chg cA5 (fun C hC => by simp; omega)
        refine dt_ty.2 ⟨_, _, rfl, ?_, ?_⟩
        · have hs := sl38.chg c44 (fun C hC => by simp; omega)
          have hs2 := hs.chg c47 (fun C hC => by simp; omega)
          have hs3 := ((hs2.chg cC (by simp)).chg cA5 (fun C hC => by simp; omega)).chg cR (fun C hC => by simp; omega)
          exact hs3.weak (fun C hC _ => by omega)
        · refine sl_one (V := fun C => h.next ≤ C) (oC5.chg cR (by simp; omega)) rfl (by omega) ?_
          exact (d5.chg cR (fun C hC => by simp; omega)).weak (fun C hC _ => by omega)
      | false =>
        rw [optS_false hb3] at x27 ⊢
        simp only [cond_false, Bool.false_eq_true, if_false]
        obtain ⟨h58, e58, c58, x58⟩ := f100_eq (N := N) hT x27
        rw [e58, bind2_some]
        have o58 := o27.chg c58 (by simp; omega)
        have c158 := c127.trans c58
        generalize hnm : (nameS T (i, none)).1 = nm at *
        have hge2 : h.next + 1 ≤ h58.next := by have := c158.next; omega
        have oA0 := own_push h58 zt
        have cA0 := chg_push h58 (.row zt .own)
        have eA : h58.push (.row [(.int .i64 0), (.str []), (.slice none 0 0 0), (.slice none 0 0 0)] .own) = h58.push (.row zt .own) := rfl
        have hstA := store4 oA0 (3, nm, sl0, sl0, ())
        rw [eA, show (h58.push (.row zt .own)).store (h58.next, 0) [(.int .i64 3), (.str nm), (.slice none 0 0 0), (.slice none 0 0 0)] = _ from hstA, need_some]
        have oA := own_put oA0 (tyc (3, nm, sl0, sl0, ()))
        have cA : Chg [] h58 ((h58.push (.row zt .own)).put h58.next (.row (tyc (3, nm, sl0, sl0, ())) .own)) := cA0.put (.inr (Nat.le_refl _)) _
        have x60 := x58.chg cA
        have n60 : ((h58.push (.row zt .own)).put h58.next (.row (tyc (3, nm, sl0, sl0, ())) .own)).next = h58.next + 1 := rfl
        have oR := o58.chg cA (by simp)
        generalize (h58.push (.row zt .own)).put h58.next (.row (tyc (3, nm, sl0, sl0, ())) .own) = h60 at *
        obtain ⟨cc, k60, hk60⟩ := x60.readC
        simp only [k60, bindV_some, cast_int, hk60]
        have part : ∃ s1 h63, (bif (nameS T (i, none)).2.2.isNone then (bind2 (f101 N (some (P, 0)) h60) fun (x54 : SL) h55 =>
            (need (h55.store (h58.next, 2) [(.slice x54.a x54.len x54.cap x54.sz)]) fun h56 =>
            some (((some (h.next, 0)), (some (h58.next, 0)), ()), h56)))
           else
            some (((some (h.next, 0)), (some (h58.next, 0)), ()), h60)) = some (((some (h.next, 0)), (some (h58.next, 0)), ()), h63) ∧ PB T P h63 (lifesS T (nameS T (i, none)).2).2 it st ∧ Chg [P, h58.next] h60 h63 ∧ h63.own h58.next (tyc (3, nm, s1, sl0, ())) ∧ ((lifesS T (nameS T (i, none)).2).2.2 = none → Sl h63 (fun C => h60.next ≤ C) s1 ((lifesS T (nameS T (i, none)).2).1.map D.s)) := by
          cases hn : (nameS T (i, none)).2.2.isNone with
          | false =>
            simp only [cond_false]
            have hfl : lifesS T (nameS T (i, none)).2 = ([], (nameS T (i, none)).2) := by
              cases hq : (nameS T (i, none)).2 with
              | mk j e =>
                cases e with
                | none => rw [hq] at hn; cases hn
                | some q => rfl
            rw [hfl]
            exact ⟨sl0, _, rfl, x60, Chg.refl _ _, oA, fun _ => Sl.nil _ _ _⟩
          | true =>
            simp only [cond_true]
            obtain ⟨s1, h62, e62, x62, c62, sl62⟩ := f101_eq (N := N) hT hN x60
            rw [e62, bind2_some]
            have oA62 := oA.chg c62 (by simp; omega)
            have hst : h62.store (h58.next, 2) [SL.av s1] = some (h62.put h58.next (.row (tyc (3, nm, s1, sl0, ())) .own)) := oA62.store1 (j := 2) (by show 2 < 4; omega) _
            simp only [SL.av] at hst
            rw [hst, need_some]
            have cA5 := oA62.put (tyc (3, nm, s1, sl0, ()))
            refine ⟨s1, _, rfl, x62.chg1 cA5 (by omega), (c62.mono (by simp)).trans (cA5.mono (by simp)), own_put oA62 _, fun hz => ?_⟩
            exact (sl62 hz).chg cA5 (fun C hC => by simp; omega)
        obtain ⟨s1, h63, e63, x5, c63, oA5, sl5⟩ := part
        rw [e63]
        simp only [bind2_some, need_some]
        have oR5 := oR.chg c63 (by simp; omega)
        have hg62 := c63.next
        rw [cells4 oA5]
        have cR := oR5.put (tyc (3, nm, s1, sl0, ()))
        have cAll : Chg [P] h h63 := by
          have a1 : Chg [P] h h58 := (c1.mono (by simp)).trans c158
          exact (a1.trans (cA.mono (by simp))).step c63 (fun A hA hl => by
            simp only [List.mem_cons, List.not_mem_nil, or_false] at hA ⊢; omega)
        refine ⟨(3, nm, s1, sl0, ()), _, fin4 oR5 (3, nm, s1, sl0, ()) (fun x h => some (x, h)), x5.chg1 cR (by omega), cAll.put (.inr (Nat.le_refl _)) _, fun hz => ?_⟩
        refine dt_ty.2 ⟨_, _, rfl, ?_, Sl.nil _ _ _⟩
        exact ((sl5 hz).chg cR (fun C hC => by simp; omega)).weak (fun C hC _ => by omega)
end
end Go.Proofs.YtkcjphhjmlienaaGreatDoor.Qp

set_option linter.unusedVariables false
set_option linter.unusedSimpArgs false
open Go Go.Proofs.YtkcjphhjmlienaaGreatDoor.Ai Go.Proofs
namespace Go.Proofs.YtkcjphhjmlienaaGreatDoor.Qp
/-! what the lexer's tokens are -/
theorem anyEq_mem {t : Bs} : ∀ {l : List Bs}, t ∈ l → anyEq t l = true
  | w :: r, h => by
    simp only [anyEq]
    rcases List.mem_cons.1 h with rfl | h
    · rw [eqB.2 rfl]; rfl
    · rw [anyEq_mem h]; cases eqBytes t w <;> rfl
theorem signTok_sign {t : Bs} {k : Int} {x : Bs} {n : Nat} (h : signTok t = some (k, x, n)) : isSign x = true := by
  unfold signTok at h
  cases hf : findP t two with
  | some p =>
    rw [hf] at h
    simp only [Option.some.injEq, Prod.mk.injEq] at h
    obtain ⟨rfl, rfl, rfl⟩ := h
    simp only [isSign, anyEq_mem (findP_some hf).1, Bool.or_true]
  | none =>
    rw [hf] at h
    cases t with
    | nil => cases h
    | cons c r =>
      simp only at h
      split at h
      · rename_i hm
        simp only [Option.some.injEq, Prod.mk.injEq] at h
        obtain ⟨rfl, rfl, rfl⟩ := h
        simp only [isSign, hm, Bool.true_or]
      · cases h
theorem nextTok_ok {t : Bs} {k : Int} {x : Bs} {n : Nat} (ht : t.length ≤ 3000000) (h : nextTok t = some (k, x, n)) (a : Nat) : TokOK (k, x, a) ∧ k ≠ 0 := by
  cases t with
  | nil => cases h
  | cons c r =>
    simp only [nextTok] at h
    split at h
    · simp only [wordTok] at h
      split at h
      · rename_i hw
        simp only [Option.some.injEq, Prod.mk.injEq] at h
        obtain ⟨rfl, rfl, rfl⟩ := h
        exact ⟨⟨fun _ => hw, fun h => by simp at h, by simp only [List.length_take]; omega⟩, by decide⟩
      · split at h
        · simp only [Option.some.injEq, Prod.mk.injEq] at h
          obtain ⟨rfl, rfl, rfl⟩ := h
          exact ⟨⟨fun h => by simp at h, fun h => by simp at h, by simp only [List.length_take]; omega⟩, by decide⟩
        · cases h
    · split at h
      · simp only [numTok] at h
        split at h
        · simp only [Option.some.injEq, Prod.mk.injEq] at h
          obtain ⟨rfl, rfl, rfl⟩ := h
          exact ⟨⟨fun h => by simp at h, fun h => by simp at h, by simp only [List.length_take]; omega⟩, by decide⟩
        · cases h
      · split at h
        · simp only [lifeTok] at h
          split at h
          · split at h
            · simp only [Option.some.injEq, Prod.mk.injEq] at h
              obtain ⟨rfl, rfl, rfl⟩ := h
              simp only [List.length_cons] at ht
              exact ⟨⟨fun h => by simp at h, fun h => by simp at h, by simp only [List.length_take]; omega⟩, by decide⟩
            · cases h
          · cases h
        · have hs := signTok_sign h
          obtain ⟨rfl, rfl, h1, h2⟩ := signTok_some h
          exact ⟨⟨fun h => by simp at h, fun _ => hs, by simp only [List.length_take]; omega⟩, by decide⟩
theorem lexG_ok : ∀ (M : Nat) (t : Bs) (a : Nat) (l : List Tok), t.length ≤ 3000000 → lexG M t a = .inl l → ∀ q ∈ l, TokOK q ∧ q.1 ≠ 0
  | 0, t, a, l, _, h => by cases h
  | M + 1, [], a, l, _, h => by
    simp only [lexG, Sum.inl.injEq] at h
    subst h; simp
  | M + 1, c :: r, a, l, ht, h => by
    simp only [lexG] at h
    split at h
    · cases h
    · rename_i k x n hn
      have h0 := nextTok_ok ht hn a
      split at h
      · rename_i l' hl
        simp only [Sum.inl.injEq] at h
        subst h
        have ih := lexG_ok M _ _ l' (by rw [List.length_drop]; omega) hl
        intro q hq
        rcases List.mem_cons.1 hq with rfl | hq
        · exact h0
        · exact ih q hq
      · cases h
theorem lexT_toks {N : Nat} {s : Bs} (hs : s.length ≤ 3000000) {T : List Tok} (h : lexT N s = .inl T) (hl : T.length ≤ 2000000) : Toks T ∧ 0 < T.length := by
  unfold lexT at h
  split at h
  · rename_i l hg
    simp only [Sum.inl.injEq] at h
    subst h
    have ok := lexG_ok N _ _ l (by rw [List.length_drop]; omega) hg
    refine ⟨⟨fun q hq => ?_, fun i hi h0 => ?_, hl⟩, by simp⟩
    · rcases List.mem_append.1 hq with hq | hq
      · exact (ok q hq).1
      · rw [List.mem_singleton] at hq; subst hq
        exact ⟨fun h => by simp at h, fun h => by simp at h, by simp⟩
    · rw [List.length_append, List.length_singleton] at hi ⊢
      by_cases q : i < l.length
      · omega
      · rw [List.getElem_append_right (by omega)] at h0
        simp at h0
  · cases h
/-! a type alone -/
def typeS (N : Nat) (s : Bs) : D × Er := match lexT N s with
  | .inr a => (tyD 0 [] [] [], some (20, (a : Int)))
  | .inl T =>
    let r := typS T 64 (0, none)
    let σ := if (tk T r.2.1).1 = 0 then r.2 else failS T 21 r.2
    if σ.2 = none then (r.1, none) else (tyD 0 [] [] [], σ.2)
def ErrQ (h : Heap) (v : AV) : Er → Prop
  | none => v = AV.nilIface
  | some (c, a) => FaultAt h v c a
theorem own_ne {h : Heap} {A B : Nat} {cs ds : List AV} (x : h.own A cs) (y : h.own B ds) (hl : cs.length ≠ ds.length) : A ≠ B := by
  intro e
  subst e
  have := x.1.symm.trans y.1
  simp only [Option.some.injEq, Blk.row.injEq, and_true] at this
  exact hl (by rw [this])
section
variable {N : Nat} {s : Bs}
theorem f23_eq (hs : s.length ≤ 1000000) (hN : s.length < N) (hN2 : 100 ≤ N) (h : Heap) : ∃ r h', f23 N s h = some (r, h') ∧ Chg [] h h' ∧ Dt h' (fun C => h.next ≤ C) (typeS N s).1 (tyc r.1) ∧ ErrQ h' r.2.1 (typeS N s).2 := by
  unfold f23 typeS
  have o1 := own_push h zt
  have c1 := chg_push h (.row zt .own)
  have e1 : h.push (.row [(.int .i64 0), (.str []), (.slice none 0 0 0), (.slice none 0 0 0)] .own) = h.push (.row zt .own) := rfl
  have n1 : (h.push (.row zt .own)).next = h.next + 1 := rfl
  rw [e1]
  generalize h.push (.row zt .own) = h1 at *
  dsimp only
  obtain ⟨r2, h3, e3, c3, p3⟩ := f54_eq (by omega) hN (by omega) h1
  rw [e3, bind2_some]
  have o3 := o1.chg c3 (by simp)
  have c03 := c1.trans c3
  have hn3 := c3.next
  cases hl : lexT N s with
  | inr a =>
    rw [hl] at p3
    obtain ⟨F, f1, f2⟩ := p3
    rw [f1, ne_fault]
    simp only [bindV_some, cast_bool, cond_true]
    have hne := own_ne o3 f2 (by show (4 : Nat) ≠ 3; decide)
    have cp := o3.put zt
    exact ⟨((0, [], sl0, sl0, ()), AV.iface 127 (.ptr (some (F, 0))), ()), _, fin4 o3 (0, [], sl0, sl0, ()) (fun x h => some ((x, AV.iface 127 (.ptr (some (F, 0))), ()), h)), c03.put (.inr (Nat.le_refl _)) _, dt_ty0 _ _ _ _, F, rfl, f2.chg cp (by simpa using fun e => hne e.symm)⟩
  | inl T =>
    rw [hl] at p3
    obtain ⟨pe, po, pl⟩ := p3
    obtain ⟨hT, hT0⟩ := lexT_toks (by omega) hl (by omega)
    rw [pe, ne_nil]
    simp only [bindV_some, cast_bool, cond_false]
    have sl3 := po.sl
    have hz : r2.1.sz = 3 := by
      rcases po with ⟨_, _, _, h4⟩ | ⟨A, cs, st', vs, _, h2, _⟩
      · have : T.length = 0 := by rw [← List.length_map (f := tokD), h4]; rfl
        omega
      · exact h2
    have oP := own_push h3 [SL.av r2.1, .int .i64 0, .int .i64 0, AV.nilIface]
    have cP := chg_push h3 (.row [SL.av r2.1, .int .i64 0, .int .i64 0, AV.nilIface] .own)
    have eP : h3.push (.row [(.slice r2.1.a r2.1.len r2.1.cap r2.1.sz), (.int .i64 0), (.int .i64 0), AV.nilIface] .own) = h3.push (.row [SL.av r2.1, .int .i64 0, .int .i64 0, AV.nilIface] .own) := rfl
    have nP : (h3.push (.row [SL.av r2.1, .int .i64 0, .int .i64 0, AV.nilIface] .own)).next = h3.next + 1 := rfl
    rw [eP]
    generalize h3.push (.row [SL.av r2.1, .int .i64 0, .int .i64 0, AV.nilIface] .own) = h7 at *
    have x7 : PA T h3.next [] h7 (0, none) 0 := ⟨⟨r2.1, AV.nilIface, oP, (sl3.weak (W := fun C => C < h3.next) (fun C _ hlt => hlt)).chg cP (by simp), hz, rfl⟩, hT0, by simp⟩
    have oR7 := o3.chg cP (by simp)
    obtain ⟨r8, h9, e9, x9, c9, d9⟩ := f55_eq (N := N) hT hN2 64 N h7 _ _ (by omega) (by omega) x7
    rw [show ((65 - 64 : Nat) : Int) = 1 from rfl] at e9
    rw [e9, bind2_some]
    have oR9 := oR7.chg c9 (by simp; omega)
    have oB0 := own_push h9 zt
    have cB0 := chg_push h9 (.row zt .own)
    have eB : h9.push (.row [(.int .i64 0), (.str []), (.slice none 0 0 0), (.slice none 0 0 0)] .own) = h9.push (.row zt .own) := rfl
    have nB : (h9.push (.row zt .own)).next = h9.next + 1 := rfl
    have hstB := store4 oB0 r8
    rw [eB, hstB, need_some]
    have oB := own_put oB0 (tyc r8)
    have cB : Chg [] h9 ((h9.push (.row zt .own)).put h9.next (.row (tyc r8) .own)) := cB0.put (.inr (Nat.le_refl _)) _
    have nB2 : ((h9.push (.row zt .own)).put h9.next (.row (tyc r8) .own)).next = h9.next + 1 := rfl
    generalize (h9.push (.row zt .own)).put h9.next (.row (tyc r8) .own) = h11 at *
    have x11 := x9.chg cB
    have oR11 := oR9.chg cB (by simp)
    have d11 := d9.chg cB (by simp)
    have hn9 := c9.next
    obtain ⟨h13, e13, c13⟩ := f56_eq (N := N) x11
    rw [e13, bind2_some]
    have x13 := x11.chg c13
    have oR13 := oR11.chg c13 (by simp)
    have oB13 := oB.chg c13 (by simp)
    have d13 := d11.chg c13 (by simp)
    have c013 : Chg [h3.next] h h13 := (((c03.mono (by simp)).trans (cP.mono (by simp))).trans c9).trans ((cB.trans c13).mono (by simp))
    generalize typS T 64 (0, none) = rr at *
    have tail : ∀ (hh : Heap) (σ : St), PA T h3.next [] hh σ 0 → Chg [h3.next] h13 hh → ∃ r h',
        (bindV (.val (.one .any)) (hh.cell (h3.next, 3)) fun (x17 : AV) =>
        (bindV (.val (.one .bool)) (binA E .neq 29 (.tmp 31) (.const .nilIface) x17 AV.nilIface) fun (x18 : Bool) =>
        (bif x18 then
         (bindV (.val (.one .any)) (hh.cell (h3.next, 3)) fun (x19 : AV) =>
         (need (hh.store (h.next, 0) [(.int .i64 0), (.str []), (.slice none 0 0 0), (.slice none 0 0 0)]) fun h20 =>
         (guardB (bif (sameO (h20.cell (h3.next, 3)) x19) then (bif (sameO (hh.cell (h3.next, 3)) x19) then true else false) else false) (
         (bindV (.val (.agg [(.int .i64), .str, .slice, .slice])) (h20.cells (h.next, 0) 4) fun (x21 : (Int × List UInt8 × SL × SL × Unit)) =>
         some (((x21.1, x21.2.1, x21.2.2.1, x21.2.2.2.1, ()), x19, ()), h20))))))
        else
         (bindV (.val (.agg [(.int .i64), .str, .slice, .slice])) (hh.cells (h9.next, 0) 4) fun (x22 : (Int × List UInt8 × SL × SL × Unit)) =>
         (need (hh.store (h.next, 0) [(.int .i64 x22.1), (.str x22.2.1), (.slice x22.2.2.1.a x22.2.2.1.len x22.2.2.1.cap x22.2.2.1.sz), (.slice x22.2.2.2.1.a x22.2.2.2.1.len x22.2.2.2.1.cap x22.2.2.2.1.sz)]) fun h23 =>
         (bindV (.val (.agg [(.int .i64), .str, .slice, .slice])) (h23.cells (h.next, 0) 4) fun (x24 : (Int × List UInt8 × SL × SL × Unit)) =>
         some (((x24.1, x24.2.1, x24.2.2.1, x24.2.2.2.1, ()), AV.nilIface, ()), h23))))))) = some (r, h') ∧ Chg [] h h' ∧ Dt h' (fun C => h.next ≤ C) (if σ.2 = none then (rr.1, none) else (tyD 0 [] [] [], σ.2) : D × Er).1 (tyc r.1) ∧ ErrQ h' r.2.1 (if σ.2 = none then (rr.1, none) else (tyD 0 [] [] [], σ.2) : D × Er).2 := by
      intro hh σ x c
      obtain ⟨v, k3, hv⟩ := x.readE
      have oR := oR13.chg c (by simp; omega)
      have oBh := oB13.chg c (by simp; omega)
      have dh := d13.chg c (by intro C hC; simp; omega)
      have c0 : Chg [h3.next] h hh := c013.trans c
      have oPh : ∃ cs, hh.own h3.next cs := by obtain ⟨⟨s', v', g1, _⟩, _⟩ := x; exact ⟨_, g1⟩
      simp only [k3, bindV_some, cast_any, hv.ne 31, cast_bool]
      obtain ⟨i, e⟩ := σ
      cases e with
      | none =>
        simp only [Option.isSome_none, cond_false, if_true]
        rw [cells4 oBh]
        have cR := oR.put (tyc r8)
        refine ⟨(r8, AV.nilIface, ()), _, fin4 oR r8 (fun x h => some ((x, AV.nilIface, ()), h)), (c0.put (.inr (Nat.le_refl _)) _).cut (fun A hA hlt => ?_), ?_, rfl⟩
        · rw [List.mem_singleton] at hA; omega
        · exact (dh.chg cR (fun C hC => by simp; omega)).weak (fun C hC _ => by omega)
      | some q =>
        obtain ⟨c', a'⟩ := q
        simp only [Option.isSome_some, cond_true]
        obtain ⟨F, f1, f2, f3⟩ := hv
        have hst : hh.store (h.next, 0) [(.int .i64 0), (.str []), (.slice none 0 0 0), (.slice none 0 0 0)] = some (hh.put h.next (.row zt .own)) := store4 oR (0, [], sl0, sl0, ())
        have cR := oR.put zt
        obtain ⟨⟨s', v', g1, g2⟩, g3⟩ := x
        have hv' : v' = v := by
          have := g1.cell 3
          rw [k3] at this
          simpa using this.symm
        have kP : (hh.put h.next (.row zt .own)).cell (h3.next, 3) = some v := by
          rw [(g1.chg cR (by simp; omega)).cell 3, ← hv']; rfl
        rw [hst, need_some]
        simp only [kP, k3, sameO_some, cond_true, guardB_true]
        have hne := own_ne oR f3 (by show (4 : Nat) ≠ 3; decide)
        rw [cells4 (own_put oR _)]
        refine ⟨((0, [], sl0, sl0, ()), v, ()), _, rfl, (c0.put (.inr (Nat.le_refl _)) _).cut (fun A hA hlt => ?_), dt_ty0 _ _ _ _, F, f1, f3.chg cR (by simpa using fun e => hne e.symm)⟩
        rw [List.mem_singleton] at hA; omega
    simp only [ttOf, eqI, Nat.zero_add]
    by_cases q0 : (tk T rr.2.1).1 = 0
    · simp only [q0, decide_true, Bool.not_true, cond_false, if_true]
      exact tail h13 rr.2 x13 (Chg.refl _ _)
    · simp only [q0, decide_false, Bool.not_false, cond_true, if_false]
      obtain ⟨h16, e16, c16, x16⟩ := f57_eq (N := N) x13 (c := 21) (by decide)
      rw [e16, bind2_some]
      exact tail h16 _ x16 c16
end
end Go.Proofs.YtkcjphhjmlienaaGreatDoor.Qp

set_option linter.unusedVariables false
set_option linter.unusedSimpArgs false
open Go Go.Proofs.YtkcjphhjmlienaaGreatDoor.Ai Go.Proofs
namespace Go.Proofs.YtkcjphhjmlienaaGreatDoor.Qp
def ErrI (r : Int × Int × Unit) : Er → Prop
  | none => r.1 = 0 ∧ r.2.1 = 0
  | some (c, a) => r.1 = c ∧ r.2.1 = a
theorem fin4n {H : Heap} {A : Nat} {r0 : TyV} (o : H.own A (tyc r0)) (r : TyV) {β : Type} (K : TyV → Heap → Option β) :
    (need (H.store (A, 0) [.int .i64 r.1, .str r.2.1, .slice r.2.2.1.a r.2.2.1.len r.2.2.1.cap r.2.2.1.sz, .slice r.2.2.2.1.a r.2.2.2.1.len r.2.2.2.1.cap r.2.2.2.1.sz]) fun h7 => need (some (A, 0)) fun q => bindV (.val (.agg [(.int .i64), .str, .slice, .slice])) (h7.cells q 4) fun x8 => K x8 h7) = K r (H.put A (.row (tyc r) .own)) := fin4 o r K
section
variable {N : Nat} {s : Bs}
theorem f26_eq (hs : s.length ≤ 1000000) (hN : s.length < N) (hN2 : 100 ≤ N) (h : Heap) : ∃ r h', f26 N s h = some (r, h') ∧ Chg [] h h' ∧ Dt h' (fun C => h.next ≤ C) (typeS N s).1 (tyc r.1) ∧ ErrI (r.2.1, r.2.2.1, ()) (typeS N s).2 := by
  unfold f26 typeS
  have o1 := own_push h zt
  have c1 := chg_push h (.row zt .own)
  have e1 : h.push (.row [(.int .i64 0), (.str []), (.slice none 0 0 0), (.slice none 0 0 0)] .own) = h.push (.row zt .own) := rfl
  have n1 : (h.push (.row zt .own)).next = h.next + 1 := rfl
  rw [e1]
  generalize h.push (.row zt .own) = h1 at *
  dsimp only
  obtain ⟨r2, h3, e3, c3, p3⟩ := f28_eq (by omega) hN (by omega) h1
  rw [e3, bind2_some]
  have o3 := o1.chg c3 (by simp)
  have c03 := c1.trans c3
  have hn3 := c3.next
  cases hl : lexT N s with
  | inr a =>
    rw [hl] at p3
    obtain ⟨f1, f2⟩ := p3
    rw [f1, f2, show eqInt 20 0 = false from rfl]
    simp only [Bool.not_false, cond_true]
    have cp := o3.put zt
    exact ⟨((0, [], sl0, sl0, ()), 20, (a : Int), ()), _, fin4 o3 (0, [], sl0, sl0, ()) (fun x h => some ((x, 20, (a : Int), ()), h)), c03.put (.inr (Nat.le_refl _)) _, dt_ty0 _ _ _ _, rfl, rfl⟩
  | inl T =>
    rw [hl] at p3
    obtain ⟨pe, po, pl⟩ := p3
    obtain ⟨hT, hT0⟩ := lexT_toks (by omega) hl (by omega)
    rw [pe, show eqInt 0 0 = true from rfl]
    simp only [Bool.not_true, cond_false]
    have sl3 := po.sl
    have hz : r2.1.sz = 3 := by
      rcases po with ⟨_, _, _, h4⟩ | ⟨A, cs, st', vs, _, h2, _⟩
      · have : T.length = 0 := by rw [← List.length_map (f := tokD), h4]; rfl
        omega
      · exact h2
    have oP := own_push h3 [SL.av r2.1, .int .i64 0, .int .i64 0, .int .i64 0, .int .i64 0, .int .i64 0]
    have cP := chg_push h3 (.row [SL.av r2.1, .int .i64 0, .int .i64 0, .int .i64 0, .int .i64 0, .int .i64 0] .own)
    have eP : h3.push (.row [(.slice r2.1.a r2.1.len r2.1.cap r2.1.sz), (.int .i64 0), (.int .i64 0), (.int .i64 0), (.int .i64 0), (.int .i64 0)] .own) = h3.push (.row [SL.av r2.1, .int .i64 0, .int .i64 0, .int .i64 0, .int .i64 0, .int .i64 0] .own) := rfl
    have nP : (h3.push (.row [SL.av r2.1, .int .i64 0, .int .i64 0, .int .i64 0, .int .i64 0, .int .i64 0] .own)).next = h3.next + 1 := rfl
    rw [eP]
    generalize h3.push (.row [SL.av r2.1, .int .i64 0, .int .i64 0, .int .i64 0, .int .i64 0, .int .i64 0] .own) = h7 at *
    have x7 : PB T h3.next h7 (0, none) 0 0 := ⟨⟨r2.1, 0, 0, oP, (sl3.weak (W := fun C => C < h3.next) (fun C _ hlt => hlt)).chg cP (by simp), hz, rfl⟩, hT0⟩
    have oR7 := o3.chg cP (by simp)
    obtain ⟨r8, h9, e9, x9, c9, d9⟩ := f60_eq (N := N) hT hN2 64 N h7 _ (by omega) (by omega) x7
    rw [show ((65 - 64 : Nat) : Int) = 1 from rfl] at e9
    rw [e9, bind2_some]
    have oR9 := oR7.chg c9 (by simp; omega)
    have oB0 := own_push h9 zt
    have cB0 := chg_push h9 (.row zt .own)
    have eB : h9.push (.row [(.int .i64 0), (.str []), (.slice none 0 0 0), (.slice none 0 0 0)] .own) = h9.push (.row zt .own) := rfl
    have nB : (h9.push (.row zt .own)).next = h9.next + 1 := rfl
    have hstB := store4 oB0 r8
    rw [eB, hstB, need_some]
    have oB := own_put oB0 (tyc r8)
    have cB : Chg [] h9 ((h9.push (.row zt .own)).put h9.next (.row (tyc r8) .own)) := cB0.put (.inr (Nat.le_refl _)) _
    have nB2 : ((h9.push (.row zt .own)).put h9.next (.row (tyc r8) .own)).next = h9.next + 1 := rfl
    generalize (h9.push (.row zt .own)).put h9.next (.row (tyc r8) .own) = h11 at *
    have x11 := x9.chg cB
    have oR11 := oR9.chg cB (by simp)
    have hn9 := c9.next
    have c011 : Chg [h3.next] h h11 := (((c03.mono (by simp)).trans (cP.mono (by simp))).trans c9).trans (cB.mono (by simp))
    generalize typS T 64 (0, none) = rr at *
    have tail : ∀ (hh : Heap) (σ : St), PB T h3.next hh σ 0 0 → (σ.2 = none → rr.2.2 = none) → Chg [h3.next] h11 hh → ∃ r h',
        (need (some (h3.next, 0)) fun q23 =>
   (bindV (.val (.one (.int .i64))) (hh.cell (q23.1, q23.2 + 2)) fun (x24 : Int) =>
   let x25 : Bool := !eqInt x24 0
   (bif x25 then
    (need (some (h3.next, 0)) fun q26 =>
    (bindV (.val (.one (.int .i64))) (hh.cell (q26.1, q26.2 + 2)) fun (x27 : Int) =>
    (need (some (h3.next, 0)) fun q28 =>
    (bindV (.val (.one (.int .i64))) (hh.cell (q28.1, q28.2 + 3)) fun (x29 : Int) =>
    (need (some (h.next, 0)) fun q31 =>
    (need (hh.store q31 [(.int .i64 0), (.str []), (.slice none 0 0 0), (.slice none 0 0 0)]) fun h30 =>
    (guardB (bif (sameO (h30.cell (q28.1, q28.2 + 3)) (.int .i64 x29)) then (bif (sameO (hh.cell (q28.1, q28.2 + 3)) (.int .i64 x29)) then (bif (sameO (h30.cell (q26.1, q26.2 + 2)) (.int .i64 x27)) then (bif (sameO (hh.cell (q26.1, q26.2 + 2)) (.int .i64 x27)) then true else false) else false) else false) else false) (
    (need (some (h.next, 0)) fun q32 =>
    (bindV (.val (.agg [(.int .i64), .str, .slice, .slice])) (h30.cells q32 4) fun (x33 : (Int × List UInt8 × SL × SL × Unit)) =>
    some (((x33.1, x33.2.1, x33.2.2.1, x33.2.2.2.1, ()), x27, x29, ()), h30)))))))))))
   else
    (need (some (h9.next, 0)) fun q34 =>
    (bindV (.val (.agg [(.int .i64), .str, .slice, .slice])) (hh.cells q34 4) fun (x35 : (Int × List UInt8 × SL × SL × Unit)) =>
    (need (some (h.next, 0)) fun q37 =>
    (need (hh.store q37 [(.int .i64 x35.1), (.str x35.2.1), (.slice x35.2.2.1.a x35.2.2.1.len x35.2.2.1.cap x35.2.2.1.sz), (.slice x35.2.2.2.1.a x35.2.2.2.1.len x35.2.2.2.1.cap x35.2.2.2.1.sz)]) fun h36 =>
    (need (some (h.next, 0)) fun q38 =>
    (bindV (.val (.agg [(.int .i64), .str, .slice, .slice])) (h36.cells q38 4) fun (x39 : (Int × List UInt8 × SL × SL × Unit)) =>
    some (((x39.1, x39.2.1, x39.2.2.1, x39.2.2.2.1, ()), 0, 0, ()), h36))))))))) : Option ((TyV × Int × Int × Unit) × Heap)) = some (r, h') ∧ Chg [] h h' ∧ Dt h' (fun C => h.next ≤ C) (if σ.2 = none then (rr.1, none) else (tyD 0 [] [] [], σ.2) : D × Er).1 (tyc r.1) ∧ ErrI (r.2.1, r.2.2.1, ()) (if σ.2 = none then (rr.1, none) else (tyD 0 [] [] [], σ.2) : D × Er).2 := by
      intro hh σ x hrr c
      have oR := oR11.chg c (by simp; omega)
      have oBh := oB.chg c (by simp; omega)
      have c0 : Chg [h3.next] h hh := c011.trans c
      obtain ⟨⟨s', cc, aa, g1, g2, g3, g4⟩, g5⟩ := x
      have k2 : hh.cell (h3.next, 2) = some (.int .i64 cc) := g1.cell 2
      have k3 : hh.cell (h3.next, 3) = some (.int .i64 aa) := g1.cell 3
      simp only [need_some, Nat.zero_add, k2, k3, bindV_some, cast_int]
      obtain ⟨i, e⟩ := σ
      cases e with
      | none =>
        have g4 : cc = 0 := g4
        subst g4
        rw [show eqInt 0 0 = true from rfl]
        simp only [Bool.not_true, cond_false, if_true]
        rw [cells4 oBh]
        have cR := oR.put (tyc r8)
        have dh := ((d9 (hrr rfl)).chg cB (by simp)).chg c (by intro C hC; simp; omega)
        refine ⟨(r8, 0, 0, ()), _, fin4 oR r8 (fun x h => some ((x, 0, 0, ()), h)), (c0.put (.inr (Nat.le_refl _)) _).cut (fun A hA hlt => ?_), ?_, rfl, rfl⟩
        · rw [List.mem_singleton] at hA; omega
        · exact (dh.chg cR (fun C hC => by simp; omega)).weak (fun C hC _ => by omega)
      | some q =>
        obtain ⟨c', a'⟩ := q
        obtain ⟨rfl, rfl, g6⟩ := g4
        have z : eqInt cc 0 = false := by rw [eqI]; simpa using g6
        rw [z]
        simp only [Bool.not_false, cond_true]
        have hst : hh.store (h.next, 0) [(.int .i64 0), (.str []), (.slice none 0 0 0), (.slice none 0 0 0)] = some (hh.put h.next (.row zt .own)) := store4 oR (0, [], sl0, sl0, ())
        have cR := oR.put zt
        have gP := g1.chg cR (by simp; omega)
        have kP2 : (hh.put h.next (.row zt .own)).cell (h3.next, 2) = some (.int .i64 cc) := gP.cell 2
        have kP3 : (hh.put h.next (.row zt .own)).cell (h3.next, 3) = some (.int .i64 aa) := gP.cell 3
        rw [hst, need_some]
        simp only [kP2, kP3, sameO_some, cond_true, guardB_true]
        rw [cells4 (own_put oR _)]
        refine ⟨((0, [], sl0, sl0, ()), cc, aa, ()), _, rfl, (c0.put (.inr (Nat.le_refl _)) _).cut (fun A hA hlt => ?_), dt_ty0 _ _ _ _, rfl, rfl⟩
        rw [List.mem_singleton] at hA; omega
    obtain ⟨kc, k2, hk2⟩ := x11.readC
    simp only [Nat.zero_add, k2, bindV_some, cast_int, hk2, f61_eq x11]
    cases hnn : rr.2.2.isNone with
    | false =>
      simp only [cond_false, bind2_some]
      have ht := tail h11 rr.2 x11 (fun h => h) (Chg.refl _ _)
      have e2 : (if (tk T rr.2.1).1 = 0 then rr.2 else failS T 21 rr.2) = rr.2 := by
        split
        · rfl
        · cases hq : rr.2 with
          | mk i e =>
            cases e with
            | none => rw [hq] at hnn; cases hnn
            | some q => rfl
      rw [e2]
      simpa only [Nat.zero_add] using ht
    | true =>
      simp only [cond_true, bind2_some]
      by_cases q0 : (tk T rr.2.1).1 = 0
      · simp only [q0, decide_true, Bool.not_true, cond_false, if_true, bind2_some]
        simpa only [Nat.zero_add] using tail h11 rr.2 x11 (fun h => h) (Chg.refl _ _)
      · simp only [q0, decide_false, Bool.not_false, cond_true, if_false]
        obtain ⟨h16, e16, c16, x16⟩ := f62_eq (N := N) x11 (c := 21) (by decide)
        rw [e16]
        simp only [bind2_some]
        simpa only [Nat.zero_add] using tail h16 _ x16 (fun h => absurd h (fail_some _ _ _)) c16
end
end Go.Proofs.YtkcjphhjmlienaaGreatDoor.Qp

set_option linter.unusedVariables false
set_option linter.unusedSimpArgs false
open Go Go.Proofs.YtkcjphhjmlienaaGreatDoor.Ai Go.Proofs
namespace Go.Proofs.YtkcjphhjmlienaaGreatDoor.Qp
/-! the same type -/
def isTy : Nat → D → Prop
  | 0, _ => False
  | m + 1, d => ∃ k x lv el, d = tyD k x lv el ∧ lv.length ≤ 1000 ∧ el.length ≤ 1000 ∧ ∀ e ∈ el, isTy m e
theorem isTy.up : ∀ {m : Nat} {d : D}, isTy m d → ∀ {m' : Nat}, m ≤ m' → isTy m' d
  | m + 1, d, ⟨k, x, lv, el, h1, h2, h3, h4⟩, m' + 1, hm => ⟨k, x, lv, el, h1, h2, h3, fun e he => (h4 e he).up (Nat.le_of_succ_le_succ hm)⟩
theorem livesS_len (T : List Tok) : ∀ (g : Nat) (σ : St), (livesS T g σ).1.length ≤ g
  | 0, σ => by simp [livesS]
  | g + 1, σ => by
    simp only [livesS]
    split
    · have := livesS_len T g (optS T [44] (textS T 3 σ).2).2
      simp only [List.length_cons]; omega
    · simp
theorem lifesS_len (T : List Tok) (σ : St) : (lifesS T σ).1.length ≤ 64 := by
  simp only [lifesS]
  split
  · exact livesS_len _ _ _
  · simp
theorem typS_ty (T : List Tok) : ∀ (g : Nat) (σ : St), isTy (g + 1) (typS T g σ).1
  | 0, σ => ⟨0, [], [], [], rfl, by simp, by simp, by simp⟩
  | g + 1, (i, some e) => ⟨0, [], [], [], rfl, by simp, by simp, by simp⟩
  | g + 1, (i, none) => by
    simp only [typS]
    split
    · exact ⟨1, [], [], [], rfl, by simp, by simp, by simp⟩
    split
    · exact ⟨2, [], [], [], rfl, by simp, by simp, by simp⟩
    split
    · refine ⟨_, _, _, _, rfl, ?_, by simp, fun e he => ?_⟩
      · simp only [lifeS]; split <;> simp
      · rw [List.mem_singleton] at he; subst he; exact typS_ty T g _
    · exact ⟨_, _, _, _, rfl, by have := lifesS_len T (nameS T (optS T [38] (optS T [98, 111, 111, 108] (optS T [105, 110, 116] (i, none)).2).2).2).2; omega, by simp, by simp⟩
section
variable {N : Nat} {h h' : Heap} {V W : Nat → Prop}
theorem sl_str {s : SL} {xs : List Bs} (x : Sl h V s (xs.map D.s)) {i : Nat} (hi : i < xs.length) : h.cell (s.at i 1) = some (.str xs[i]) := by
  obtain ⟨cs, e⟩ := x.elt (i := i) (by rw [List.length_map]; exact hi)
  have hd := e.dt
  rw [List.getElem_map] at hd
  simp only [Dt] at hd
  have hl := e.len
  rw [hd] at hl
  have hz : s.sz = 1 := by simpa using hl.symm
  have := e.cell 0 (by omega)
  rw [hz, hd] at this
  simpa using this
theorem texts_loop {s1 s2 : SL} {xs : List Bs} (x1 : Sl h V s1 (xs.map D.s)) (x2 : Sl h W s2 (xs.map D.s)) (hl : xs.length ≤ 2000000) : ∀ (M i : Nat), i ≤ xs.length → xs.length - i < M → f59_l1 N M s1 s2 false (i : Int) h = some (.exit 0, (false, ()), h) := by
  intro M
  induction M with
  | zero => intro i _ h; omega
  | succ M ih =>
    intro i hi hM
    rw [f59_l1_succ]
    unfold f59_l1_b
    have l1 : s1.len = xs.length := by rw [x1.len, List.length_map]
    simp only [lt_nat, l1]
    by_cases q : i < xs.length
    · simp only [q, decide_true, cond_true]
      have q' : i < (xs.map D.s).length := by rw [List.length_map]; exact q
      rw [← l1, x1.ix q' 1, sl_str x1 q]
      simp only [bindV_some, cast_str]
      rw [x2.ix q' 1, sl_str x2 q]
      simp only [bindV_some, cast_str, eqB.2, Bool.not_true, cond_false]
      rw [wrap_succ (by omega)]
      exact ih (i + 1) q (by omega)
    · simp only [q, decide_false, cond_false]
theorem f59_eq {s1 s2 : SL} {xs : List Bs} (x1 : Sl h V s1 (xs.map D.s)) (x2 : Sl h W s2 (xs.map D.s)) (hl : xs.length ≤ 2000000) (hN : xs.length < N) : f59 N s1 s2 h = some (true, h) := by
  unfold f59
  have l1 : s1.len = xs.length := by rw [x1.len, List.length_map]
  have l2 : s2.len = xs.length := by rw [x2.len, List.length_map]
  have z : eqInt (Int.ofNat s1.len) (Int.ofNat s2.len) = true := by rw [l1, l2, eqI]; simp
  simp only [z, Bool.not_true, cond_false]
  have := texts_loop (N := N) x1 x2 hl N 0 (Nat.zero_le _) (by omega)
  rw [show ((0 : Nat) : Int) = 0 from rfl] at this
  rw [this]; rfl
theorem sl_ty {s : SL} {el : List D} (x : Sl h V s el) {i m : Nat} (hi : i < el.length) (ht : isTy m el[i]) : ∃ r : TyV, h.cells (s.at i 4) 4 = some (.agg (tyc r)) ∧ Dt h V el[i] (tyc r) := by
  obtain ⟨cs, e⟩ := x.elt hi
  cases m with
  | zero => cases ht
  | succ m =>
    obtain ⟨k, y, lv, el', h1, _⟩ := ht
    have hd := e.dt
    rw [h1] at hd
    obtain ⟨s1, s2, hc, _⟩ := dt_ty.1 hd
    have hz : s.sz = 4 := by rw [← e.len, hc]; rfl
    have hw := e.whole
    rw [hz, hc] at hw
    exact ⟨_, hw, by rw [← hc]; exact e.dt⟩
theorem same_loop {rec25 : TyV → TyV → Heap → Option (Bool × Heap)} {s1 s2 : SL} {el : List D} {m : Nat} (hl : el.length ≤ 2000000)
    (hrec : ∀ (e : D) (r1 r2 : TyV) (H : Heap) (V W : Nat → Prop), e ∈ el → Dt H V e (tyc r1) → Dt H W e (tyc r2) → ∃ H', rec25 r1 r2 H = some (true, H') ∧ Chg [] H H') (hty : ∀ e ∈ el, isTy m e)
    {A B : Nat} {r1 r2 : TyV} (hs1 : r1.2.2.2.1 = s1) (hs2 : r2.2.2.2.1 = s2) : ∀ (M i : Nat) (H : Heap), i ≤ el.length → el.length - i < M → H.own A (tyc r1) → H.own B (tyc r2) → Sl H V s1 el → Sl H W s2 el →
    ∃ H', f25_l1 N rec25 M (some (A, 0)) (some (B, 0)) false (i : Int) H = some (.exit 0, (false, ()), H') ∧ Chg [] H H' := by
  intro M
  induction M with
  | zero => intro i _ _ h; omega
  | succ M ih =>
    intro i H hi hM oA oB x1 x2
    rw [f25_l1_succ]
    unfold f25_l1_b
    have kA : H.cell (A, 3) = some (SL.av s1) := by rw [oA.cell 3, ← hs1]; rfl
    have kB : H.cell (B, 3) = some (SL.av s2) := by rw [oB.cell 3, ← hs2]; rfl
    simp only [need_some, Nat.zero_add, kA, kB, SL.av, bindV_some, cast_slice, lt_nat, x1.len]
    by_cases q : i < el.length
    · simp only [q, decide_true, cond_true]
      obtain ⟨q1, e1, d1⟩ := sl_ty x1 q (hty _ (List.getElem_mem q))
      obtain ⟨q2, e2, d2⟩ := sl_ty x2 q (hty _ (List.getElem_mem q))
      rw [← x1.len, x1.ix q 4, e1, agg4, x2.ix q 4, e2, agg4]
      obtain ⟨H', e3, c3⟩ := hrec _ _ _ H V W (List.getElem_mem q) d1 d2
      show ∃ H'', (bind2 (rec25 q1 q2 H) _) = _ ∧ _
      rw [e3, bind2_some]
      simp only [Bool.not_true, cond_false]
      rw [wrap_succ (by omega)]
      obtain ⟨H'', e4, c4⟩ := ih (i + 1) H' q (by omega) (oA.chg c3 (by simp)) (oB.chg c3 (by simp)) (x1.chg c3 (by simp)) (x2.chg c3 (by simp))
      exact ⟨H'', e4, c3.trans c4⟩
    · simp only [q, decide_false, cond_false]
      exact ⟨_, rfl, Chg.refl _ _⟩
theorem f25_eq (hN : 1001 ≤ N) : ∀ (m M : Nat) (d : D) (r1 r2 : TyV) (h : Heap) (V W : Nat → Prop), m ≤ M → isTy m d → Dt h V d (tyc r1) → Dt h W d (tyc r2) → ∃ h', f25 N M r1 r2 h = some (true, h') ∧ Chg [] h h' := by
  intro m
  induction m with
  | zero => intro M d r1 r2 h V W _ ht; cases ht
  | succ m ih =>
    intro M d r1 r2 h V W hM ht d1 d2
    obtain ⟨M, rfl⟩ : ∃ m, M = m + 1 := ⟨M - 1, by omega⟩
    rw [f25_succ]
    unfold f25_r
    obtain ⟨k, x, lv, el, rfl, hlv, hel, hty⟩ := ht
    obtain ⟨s1, s2, hc1, l1, t1⟩ := dt_ty.1 d1
    obtain ⟨s3, s4, hc2, l2, t2⟩ := dt_ty.1 d2
    have hr : ∀ {r : TyV} {k : Int} {x : Bs} {s1 s2 : SL}, tyc r = tyc (k, x, s1, s2, ()) → r = (k, x, s1, s2, ()) := fun {r k x s1 s2} hc => by
      obtain ⟨k', x', s1', s2', _⟩ := r
      simp only [tyc, List.cons.injEq, AV.int.injEq, AV.str.injEq, true_and, and_true] at hc
      obtain ⟨rfl, rfl, h3, h4⟩ := hc
      rw [SL.av_inj h3, SL.av_inj h4]
    have e1 := hr hc1
    have e2 := hr hc2
    have o1 := own_push h (tyc r1)
    have c1 := chg_push h (.row (tyc r1) .own)
    have g1 : h.push (.row [(.int .i64 r1.1), (.str r1.2.1), (.slice r1.2.2.1.a r1.2.2.1.len r1.2.2.1.cap r1.2.2.1.sz), (.slice r1.2.2.2.1.a r1.2.2.2.1.len r1.2.2.2.1.cap r1.2.2.2.1.sz)] .own) = h.push (.row (tyc r1) .own) := rfl
    rw [g1]
    generalize h.push (.row (tyc r1) .own) = h1 at *
    have o2 := own_push h1 (tyc r2)
    have c2 := chg_push h1 (.row (tyc r2) .own)
    have g2 : h1.push (.row [(.int .i64 r2.1), (.str r2.2.1), (.slice r2.2.2.1.a r2.2.2.1.len r2.2.2.1.cap r2.2.2.1.sz), (.slice r2.2.2.2.1.a r2.2.2.2.1.len r2.2.2.2.1.cap r2.2.2.2.1.sz)] .own) = h1.push (.row (tyc r2) .own) := rfl
    dsimp only
    rw [g2]
    generalize h1.push (.row (tyc r2) .own) = h2 at *
    have o1' := o1.chg c2 (by simp)
    have c02 := c1.trans c2
    subst e1 e2
    have a0 : h2.cell (h.next, 0) = some (.int .i64 k) := o1'.cell 0
    have a1 : h2.cell (h.next, 1) = some (.str x) := o1'.cell 1
    have a2 : h2.cell (h.next, 2) = some (SL.av s1) := o1'.cell 2
    have a3 : h2.cell (h.next, 3) = some (SL.av s2) := o1'.cell 3
    have b0 : h2.cell (h1.next, 0) = some (.int .i64 k) := o2.cell 0
    have b1 : h2.cell (h1.next, 1) = some (.str x) := o2.cell 1
    have b2 : h2.cell (h1.next, 2) = some (SL.av s3) := o2.cell 2
    have b3 : h2.cell (h1.next, 3) = some (SL.av s4) := o2.cell 3
    have zk : eqInt k k = true := by rw [eqI]; simp
    have l1' := l1.chg c02 (by simp)
    have l2' := l2.chg c02 (by simp)
    have t1' := t1.chg c02 (by simp)
    have t2' := t2.chg c02 (by simp)
    have z4 : eqInt (Int.ofNat s2.len) (Int.ofNat s4.len) = true := by rw [t1.len, t2.len, eqI]; simp
    have f59e : f59 N ⟨s1.a, s1.len, s1.cap, s1.sz⟩ ⟨s3.a, s3.len, s3.cap, s3.sz⟩ h2 = some (true, h2) := f59_eq (N := N) l1' l2' (by omega) (by omega)
    simp only [Nat.add_zero, Nat.zero_add, a0, a1, a2, a3, b0, b1, b2, b3, SL.av, bindV_some, cast_int, cast_str, cast_slice, zk, eqB.2, Bool.not_true, cond_false, f59e, bind2_some, z4]
    obtain ⟨H', e3, c3⟩ := same_loop (N := N) (rec25 := f25 N M) (m := m) (by omega) (fun e r1 r2 H V W he x y => ih M e r1 r2 H V W (by omega) (hty e he) x y) hty (A := h.next) (B := h1.next) rfl rfl N 0 h2 (Nat.zero_le _) (by omega) o1' o2 t1' t2'
    rw [show ((0 : Nat) : Int) = 0 from rfl] at e3
    rw [e3]
    exact ⟨_, rfl, c02.trans c3⟩
/-! what an error tells -/
theorem as_fault {β : Type} (p : Option (Nat × Nat)) (K : (Option (Nat × Nat) × Bool × Unit) → Option β) : bindV (.tup [(.one .ptr), (.one .bool)]) (assertA E (.iface 127 (.ptr p)) 127 true) K = K (p, true, ()) := by
  have : assertA E (.iface 127 (.ptr p)) 127 true = some (holdsA true (.ptr p)) := by kernel_rfl
  rw [this]; rfl
theorem as_errno {β : Type} (c : Int) (K : (Option (Nat × Nat) × Bool × Unit) → Option β) : bindV (.tup [(.one .ptr), (.one .bool)]) (assertA E (.iface 78 (.int .i64 c)) 127 true) K = K (none, false, ()) := by
  have : assertA E (.iface 78 (.int .i64 c)) 127 true = failsA E 127 true := by kernel_rfl
  rw [this]
  have : failsA E 127 true = some (.tuple [.ptr none, .bool false]) := by kernel_rfl
  rw [this]; rfl
theorem f18_eq {v : AV} {e : Er} (x : ErrQ h v e) {r : Int × Int × Unit} (y : ErrI r e) (hN : 10 ≤ N) : f18 N v r.1 r.2.1 h = some (true, h) := by
  unfold f18 f29
  cases e with
  | none =>
    rw [show v = AV.nilIface from x, eq_nil, y.1, y.2]
    rfl
  | some q =>
    obtain ⟨c, a⟩ := q
    obtain ⟨F, f1, f2⟩ := x
    obtain ⟨y1, y2⟩ := y
    rw [f1, eq_fault]
    simp only [bindV_some, cast_bool, cond_false]
    rw [as_fault]
    have k0 : h.cell (F, 0) = some (.int .i64 c) := f2.cell 0
    have k1 : h.cell (F, 1) = some (.int .i64 a) := f2.cell 1
    have k2 : h.cell (F, 2) = some (AV.iface 78 (.int .i64 c)) := f2.cell 2
    simp only [Bool.not_true, cond_false, Option.isNone_some, need_some, Nat.add_zero, Nat.zero_add, k0, k1, bindV_some, cast_int]
    obtain ⟨N, rfl⟩ : ∃ m, N = m + 1 := ⟨N - 1, by omega⟩
    rw [f29_l1_succ]
    unfold f29_l1_b
    rw [show ltInt 0 200 = true from rfl]
    simp only [cond_true, need_some, Nat.zero_add, k2, bindV_some, cast_any]
    rw [as_errno]
    simp only [Bool.not_false, cond_true, bind3_some, bind2_some]
    have z1 : eqInt c r.1 = true := by rw [y1, eqI]; simp
    have z2 : eqInt a r.2.1 = true := by rw [y2, eqI]; simp
    simp only [z1, z2, cond_true]
end
end Go.Proofs.YtkcjphhjmlienaaGreatDoor.Qp

set_option linter.unusedVariables false
set_option linter.unusedSimpArgs false
open Go Go.Proofs.YtkcjphhjmlienaaGreatDoor.Ai Go.Proofs
namespace Go.Proofs.YtkcjphhjmlienaaGreatDoor.Qp
/-! the law ParseTypes -/
theorem pinned_chg {h h' : Heap} (c : Chg [] h h') (h2 : 2 ≤ h.next) (hp : Qx.pinned h = true) : Qx.pinned h' = true := by
  unfold Qx.pinned at hp ⊢
  have e : h'.t.get 0 = h.t.get 0 := c.g 0 (by omega) (by simp)
  rw [c.pins, e]; exact hp
theorem f22_eq {N : Nat} {h : Heap} (hp : Qx.pinned h = true) : f22 N h = some (true, h) := by
  unfold f22 Qx.toldF
  rw [hp]; rfl
theorem typeS_ty (N : Nat) (s : Bs) : isTy 65 (typeS N s).1 := by
  have z : isTy 65 (tyD 0 [] [] []) := ⟨0, [], [], [], rfl, by simp, by simp, by simp⟩
  unfold typeS
  split
  · exact z
  · rename_i T _
    have k : ∀ (c : Prop) [Decidable c] (e : Er), isTy 65 (if c then ((typS T 64 (0, none)).1, none) else (tyD 0 [] [] [], e) : D × Er).1 := fun c _ e => by
      split
      · exact typS_ty _ 64 _
      · exact z
    exact k _ _
theorem f6_eq {h : Heap} (hp : Qx.pinned h = true) (h2 : 2 ≤ h.next) (s : Bs) : ∃ h', f6 3000 s h = some (true, h') := by
  unfold f6
  have z : ltInt 1000 (Int.ofNat s.length) = decide (1000 < s.length) := lt_nat 1000 _
  simp only [z]
  by_cases q : 1000 < s.length
  · simp only [q, decide_true, cond_true, f22_eq hp, bind2_some]
    exact ⟨_, rfl⟩
  · simp only [q, decide_false, cond_false]
    obtain ⟨r4, h5, e5, c5, d5, k5⟩ := f23_eq (N := 3000) (s := s) (by omega) (by omega) (by omega) h
    rw [e5, bind2_some]
    have oA0 := own_push h5 zt
    have cA0 := chg_push h5 (.row zt .own)
    have eA : h5.push (.row [(.int .i64 0), (.str []), (.slice none 0 0 0), (.slice none 0 0 0)] .own) = h5.push (.row zt .own) := rfl
    have hstA := store4 oA0 r4.1
    rw [eA, hstA, need_some]
    have oA := own_put oA0 (tyc r4.1)
    have cA : Chg [] h5 ((h5.push (.row zt .own)).put h5.next (.row (tyc r4.1) .own)) := cA0.put (.inr (Nat.le_refl _)) _
    generalize (h5.push (.row zt .own)).put h5.next (.row (tyc r4.1) .own) = h7 at *
    obtain ⟨r8, h9, e9, c9, d9, k9⟩ := f26_eq (N := 3000) (s := s) (by omega) (by omega) (by omega) h7
    rw [e9, bind2_some]
    have oB0 := own_push h9 zt
    have cB0 := chg_push h9 (.row zt .own)
    have eB : h9.push (.row [(.int .i64 0), (.str []), (.slice none 0 0 0), (.slice none 0 0 0)] .own) = h9.push (.row zt .own) := rfl
    have hstB := store4 oB0 r8.1
    rw [eB, hstB, need_some]
    have oB := own_put oB0 (tyc r8.1)
    have cB : Chg [] h9 ((h9.push (.row zt .own)).put h9.next (.row (tyc r8.1) .own)) := cB0.put (.inr (Nat.le_refl _)) _
    generalize (h9.push (.row zt .own)).put h9.next (.row (tyc r8.1) .own) = h11 at *
    have c7 := c5.trans cA
    have c511 := (cA.trans c9).trans cB
    have c711 := c9.trans cB
    have c11 := c7.trans c711
    rw [f22_eq (pinned_chg c11 h2 hp), bind2_some]
    simp only [cond_true]
    rw [cells4 (oA.chg c711 (by simp)), cells4 oB]
    obtain ⟨h17, e17, c17⟩ := f25_eq (N := 3000) (by omega) 65 3000 _ r4.1 r8.1 h11 _ _ (by omega) (typeS_ty 3000 s) (d5.chg c511 (by simp)) (d9.chg cB (by simp))
    show ∃ h', (bind2 (f25 3000 3000 r4.1 r8.1 h11) _) = _
    rw [e17, bind2_some]
    simp only [cond_true]
    have k17 : ErrQ h17 r4.2.1 (typeS 3000 s).2 := by
      cases hq : (typeS 3000 s).2 with
      | none => rw [hq] at k5; exact k5
      | some p => rw [hq] at k5; exact FaultAt.chg k5 (c511.trans c17)
    rw [f18_eq k17 k9 (by omega), bind2_some]
    exact ⟨_, rfl⟩
theorem typeslaw_true {H : Type} (h : Heap) (hp : Qx.pinned h = true) (h2 : 2 ≤ h.next) (vs : List AV) (ds : List (DataW H)) (hr : RdArgs Tryz.prog h [9] vs ds) : ∃ xs h', VTy.tos [.one .str] xs = vs ∧ (fun (x : vdens [.one .str]) h => f6 3000 x.1 h) xs h = some (true, h') := by
  obtain ⟨cs1, d1, vs1, ds1, rfl, rfl, r1, hr⟩ := hr.cons_inv
  obtain ⟨rfl, rfl⟩ := hr.nil_inv
  obtain ⟨s, rfl, rfl, _⟩ := r1.str_inv Tryz.underlying9
  obtain ⟨h', e⟩ := f6_eq hp h2 s
  refine ⟨(s, ()), h', ?_, e⟩
  have : ∀ v, argOf Tryz.prog 9 [v] = v := by intro v; kernel_rfl
  rw [this]; rfl
end Go.Proofs.YtkcjphhjmlienaaGreatDoor.Qp

set_option linter.unusedVariables false
set_option linter.unusedSimpArgs false
set_option maxRecDepth 100000
open Go Go.Proofs.YtkcjphhjmlienaaGreatDoor.Ai Go.Proofs
namespace Go.Proofs.YtkcjphhjmlienaaGreatDoor.Qp
open Go.ChangeShapes Go.WideShapes
open Go.Proofs.YtkcjphhjmlienaaGreatDoor
/-! arguments as trees -/
mutual
def Wt (P : Program) : D → TypeId → Prop
  | .b _, t => P.underlying t = some .bool
  | .i n, t => P.underlying t = some (.int .i64) ∧ -9223372036854775808 ≤ n ∧ n ≤ 9223372036854775807
  | .s x, t => P.underlying t = some .string ∧ x.length ≤ 9223372036854775807
  | .l xs, t => ∃ e, P.underlying t = some (.slice e) ∧ Wl P xs e ∧ xs.length ≤ 9223372036854775807
  | .t xs, t => ∃ fs, P.underlying t = some (.struct fs) ∧ Wf P xs fs.toList
def Wl (P : Program) : List D → TypeId → Prop
  | [], _ => True
  | x :: r, e => Wt P x e ∧ Wl P r e
def Wf (P : Program) : List D → List Field → Prop
  | [], [] => True
  | x :: r, f :: fs => Wt P x f.type ∧ Wf P r fs
  | _, _ => False
end
mutual
def wtD : D → Nat
  | .b _ => 1
  | .i _ => 1
  | .s x => x.length + 1
  | .l xs => wtL xs + 1
  | .t xs => wtL xs + 1
def wtL : List D → Nat
  | [] => 0
  | x :: r => wtD x + wtL r
end
def sumC (P : Program) : List Field → Nat
  | [] => 0
  | f :: r => P.cellsOf f.type + sumC P r
def dT (P : Program) (S : List TypeId) (t : TypeId) : Bool :=
  match P.underlying t with
  | some .bool => Nat.beq (P.cellsOf t) 1
  | some (.int .i64) => Nat.beq (P.cellsOf t) 1
  | some .string => Nat.beq (P.cellsOf t) 1
  | some (.slice e) => memL e S && Nat.beq (P.cellsOf t) 1
  | some (.struct fs) => fs.toList.all (fun f => memL f.type S) && Nat.beq (P.cellsOf t) (sumC P fs.toList)
  | _ => false
def dB (P : Program) (S : List TypeId) : Bool := S.all (dT P S)
theorem memL_mem' {t : TypeId} {S : List TypeId} (h : memL t S = true) : t ∈ S := memL_iff.1 h
section
variable {H : Type} {P : Program} {h : Heap} {S : List TypeId}
theorem rd_dt (hS : dB P S = true) {t : TypeId} {cs : List AV} {d : DataW H} (x : Rd P h t cs d) : t ∈ S → ∃ y, Wt P y t ∧ Dt h (fun _ => True) y cs ∧ wtD y ≤ Rows.uptoBulk d ∧ cs.length = P.cellsOf t := by
  have hT : ∀ {t : TypeId}, t ∈ S → dT P S t = true := fun ht => List.all_eq_true.1 hS _ ht
  induction x with
  | bool h1 =>
    rename_i t b
    intro ht
    have hd := hT ht
    unfold dT at hd
    rw [h1] at hd
    refine ⟨.b b, ?_, ?_, ?_, ?_⟩
    · simp only [Wt]; exact h1
    · simp only [Dt]
    · simp only [wtD, Rows.uptoBulk]; omega
    · rw [Nat.eq_of_beq_eq_true hd]; rfl
  | int h1 h2 =>
    rename_i t k n
    intro ht
    have hd := hT ht
    unfold dT at hd
    rw [h1] at hd
    cases k <;> simp only [Bool.false_eq_true] at hd
    refine ⟨.i n, ?_, ?_, ?_, ?_⟩
    · simp only [Wt]
      refine ⟨h1, ?_⟩
      have := Rd.int_inv (H := H) h1 (Rd.int (h := h) h1 h2)
      obtain ⟨n', e1, _, e3⟩ := this
      simp only [List.cons.injEq, AV.int.injEq, true_and, and_true] at e1
      subst e1
      first | exact e3 | simpa using e3
    · simp only [Dt]
    · simp only [wtD, Rows.uptoBulk]; omega
    · rw [Nat.eq_of_beq_eq_true hd]; rfl
  | str h1 h2 =>
    rename_i t s
    intro ht
    have hd := hT ht
    unfold dT at hd
    rw [h1] at hd
    refine ⟨.s s, ?_, ?_, ?_, ?_⟩
    · simp only [Wt]; exact ⟨h1, h2⟩
    · simp only [Dt]
    · simp only [wtD, Rows.uptoBulk]; omega
    · rw [Nat.eq_of_beq_eq_true hd]; rfl
  | nil h1 =>
    rename_i t e
    intro ht
    have hd := hT ht
    unfold dT at hd
    rw [h1] at hd
    simp only [Bool.and_eq_true] at hd
    refine ⟨.l [], ?_, dt_l.2 ⟨⟨none, 0, 0, 0⟩, rfl, Sl.nil _ _ _⟩, ?_, ?_⟩
    · simp only [Wt, Wl]; exact ⟨e, h1, trivial, by simp⟩
    · simp only [wtD, wtL, Rows.uptoBulk]; omega
    · rw [Nat.eq_of_beq_eq_true hd.2]; rfl
  | slice h1 h2 h3 h4 h5 h6 ih =>
    rename_i t e A ass ds sp
    intro ht
    have hd := hT ht
    unfold dT at hd
    rw [h1] at hd
    simp only [Bool.and_eq_true] at hd
    have he := memL_mem' hd.1
    have key : ∀ (ass : List (List AV)) (ds : List (DataW H)), ass.length = ds.length → (∀ (i : Nat) (a : List AV) (d : DataW H), ass[i]? = some a → ds[i]? = some d → ∃ y, Wt P y e ∧ Dt h (fun _ => True) y a ∧ wtD y ≤ Rows.uptoBulk d ∧ a.length = P.cellsOf e) →
        ∃ ys, Wl P ys e ∧ De h (fun _ => True) (P.cellsOf e) ys ass.flatten ∧ wtL ys ≤ Rows.uptoBulkAll ds ∧ ys.length = ds.length := by
      intro ass
      induction ass with
      | nil =>
        intro ds hl _
        cases ds with
        | nil => exact ⟨[], by simp [Wl], by simp [De], by simp [wtL], rfl⟩
        | cons d r => cases hl
      | cons a r ihr =>
        intro ds hl hf
        cases ds with
        | nil => cases hl
        | cons d q =>
          obtain ⟨y, y1, y2, y3, y4⟩ := hf 0 a d rfl rfl
          obtain ⟨ys, z1, z2, z3, z4⟩ := ihr q (by simpa using hl) fun i a d h1 h2 => hf (i + 1) a d (by simpa using h1) (by simpa using h2)
          refine ⟨y :: ys, ?_, ?_, ?_, by simp [z4]⟩
          · simp only [Wl]; exact ⟨y1, z1⟩
          · simp only [De, List.flatten_cons]; exact ⟨a, r.flatten, rfl, y4, y2, z2⟩
          · simp only [wtL, Rows.uptoBulkAll]; omega
    obtain ⟨ys, z1, z2, z3, z4⟩ := key ass ds h5 fun i a d e1 e2 => ih i a d e1 e2 he
    have hvl := z2.length
    refine ⟨.l ys, ?_, dt_l.2 ⟨⟨some (A, 0), ds.length, ds.length, P.cellsOf e⟩, rfl, z4.symm, Nat.le_refl _, fun _ _ => trivial, ass.flatten, ⟨?_, fun ha => (by cases ha), fun A' off ha => ?_⟩, z2⟩, ?_, ?_⟩
    · simp only [Wt]; exact ⟨e, h1, z1, by rw [z4]; exact h4⟩
    · rw [hvl, z4]
    · simp only [Option.some.injEq, Prod.mk.injEq] at ha
      obtain ⟨rfl, rfl⟩ := ha
      refine ⟨h3, ass.flatten, ?_, by rw [List.drop_zero, List.take_length]⟩
      show rowB (h.t.get A) = _
      rw [h2]; rfl
    · simp only [wtD, Rows.uptoBulk]; omega
    · rw [Nat.eq_of_beq_eq_true hd.2]; rfl
  | struct h1 h2 h3 h4 ih =>
    rename_i t fs ass ds
    intro ht
    have hd := hT ht
    unfold dT at hd
    rw [h1] at hd
    simp only [Bool.and_eq_true] at hd
    obtain ⟨hd1, hd2⟩ := hd
    have key : ∀ (fl : List Field) (ass : List (List AV)) (ds : List (DataW H)), ass.length = fl.length → ds.length = fl.length → (∀ f ∈ fl, f.type ∈ S) → (∀ (i : Nat) (f : Field) (a : List AV) (d : DataW H), fl[i]? = some f → ass[i]? = some a → ds[i]? = some d → f.type ∈ S → ∃ y, Wt P y f.type ∧ Dt h (fun _ => True) y a ∧ wtD y ≤ Rows.uptoBulk d ∧ a.length = P.cellsOf f.type) →
        ∃ ys, Wf P ys fl ∧ Dp h (fun _ => True) ys ass.flatten ∧ wtL ys ≤ Rows.uptoBulkAll ds ∧ ass.flatten.length = sumC P fl := by
      intro fl
      induction fl with
      | nil =>
        intro ass ds ha hd _ _
        cases ass with
        | nil =>
          cases ds with
          | nil => exact ⟨[], by simp [Wf], by simp [Dp], by simp [wtL], rfl⟩
          | cons d r => cases hd
        | cons a r => cases ha
      | cons f fl ihf =>
        intro ass ds ha hd hm hf
        cases ass with
        | nil => cases ha
        | cons a r =>
          cases ds with
          | nil => cases hd
          | cons d q =>
            obtain ⟨y, y1, y2, y3, y4⟩ := hf 0 f a d rfl rfl rfl (hm f (by simp))
            obtain ⟨ys, z1, z2, z3, z4⟩ := ihf r q (by simpa using ha) (by simpa using hd) (fun g hg => hm g (by simp [hg])) fun i f a d h0 h1 h2 => hf (i + 1) f a d (by simpa using h0) (by simpa using h1) (by simpa using h2)
            refine ⟨y :: ys, ?_, ?_, ?_, ?_⟩
            · simp only [Wf]; exact ⟨y1, z1⟩
            · simp only [Dp, List.flatten_cons]; exact ⟨a, r.flatten, rfl, y2, z2⟩
            · simp only [wtL, Rows.uptoBulkAll]; omega
            · simp only [List.flatten_cons, List.length_append, sumC, z4, y4]
    obtain ⟨ys, z1, z2, z3, z4⟩ := key fs.toList ass ds (by simpa using h2) (by simpa using h3) (fun f hf => memL_mem' (List.all_eq_true.1 hd1 f hf)) fun i f a d e0 e1 e2 e3 => ih i f a d (by simpa using e0) e1 e2 e3
    refine ⟨.t ys, ?_, ?_, ?_, ?_⟩
    · simp only [Wt]; exact ⟨fs, h1, z1⟩
    · simp only [Dt]; exact z2
    · simp only [wtD, Rows.uptoBulk]; omega
    · rw [z4, Nat.eq_of_beq_eq_true hd2]
  | array h1 h2 h3 h4 ih =>
    rename_i t n e ass ds
    intro ht
    have hd := hT ht
    unfold dT at hd
    rw [h1] at hd
    cases hd
/-! what shape a tree of a type has -/
theorem Wt.int_inv {y : D} {t : TypeId} (hu : P.underlying t = some (.int .i64)) (x : Wt P y t) : ∃ n, y = .i n ∧ -9223372036854775808 ≤ n ∧ n ≤ 9223372036854775807 := by
  cases y with
  | i n => simp only [Wt] at x; exact ⟨n, rfl, x.2⟩
  | b _ => simp only [Wt, hu] at x; cases x
  | s _ => simp only [Wt, hu] at x; cases x.1
  | l _ => simp only [Wt, hu] at x; obtain ⟨e, h1, _⟩ := x; cases h1
  | t _ => simp only [Wt, hu] at x; obtain ⟨e, h1, _⟩ := x; cases h1
theorem Wt.bool_inv {y : D} {t : TypeId} (hu : P.underlying t = some .bool) (x : Wt P y t) : ∃ b, y = .b b := by
  cases y with
  | b n => exact ⟨n, rfl⟩
  | i _ => simp only [Wt, hu] at x; cases x.1
  | s _ => simp only [Wt, hu] at x; cases x.1
  | l _ => simp only [Wt, hu] at x; obtain ⟨e, h1, _⟩ := x; cases h1
  | t _ => simp only [Wt, hu] at x; obtain ⟨e, h1, _⟩ := x; cases h1
theorem Wt.str_inv {y : D} {t : TypeId} (hu : P.underlying t = some .string) (x : Wt P y t) : ∃ s, y = .s s ∧ s.length ≤ 9223372036854775807 := by
  cases y with
  | s n => simp only [Wt] at x; exact ⟨n, rfl, x.2⟩
  | i _ => simp only [Wt, hu] at x; cases x.1
  | b _ => simp only [Wt, hu] at x; cases x
  | l _ => simp only [Wt, hu] at x; obtain ⟨e, h1, _⟩ := x; cases h1
  | t _ => simp only [Wt, hu] at x; obtain ⟨e, h1, _⟩ := x; cases h1
theorem Wt.slice_inv {y : D} {t e : TypeId} (hu : P.underlying t = some (.slice e)) (x : Wt P y t) : ∃ xs, y = .l xs ∧ Wl P xs e ∧ xs.length ≤ 9223372036854775807 := by
  cases y with
  | l xs =>
    simp only [Wt, hu] at x
    obtain ⟨e', h1, h2, h3⟩ := x
    simp only [Option.some.injEq, TypeDesc.slice.injEq] at h1
    subst h1
    exact ⟨xs, rfl, h2, h3⟩
  | i _ => simp only [Wt, hu] at x; cases x.1
  | b _ => simp only [Wt, hu] at x; cases x
  | s _ => simp only [Wt, hu] at x; cases x.1
  | t _ => simp only [Wt, hu] at x; obtain ⟨e, h1, _⟩ := x; cases h1
theorem Wt.struct_inv {y : D} {t : TypeId} {fs : Array Field} (hu : P.underlying t = some (.struct fs)) (x : Wt P y t) : ∃ xs, y = .t xs ∧ Wf P xs fs.toList := by
  cases y with
  | t xs =>
    simp only [Wt, hu] at x
    obtain ⟨e', h1, h2⟩ := x
    simp only [Option.some.injEq, TypeDesc.struct.injEq] at h1
    subst h1
    exact ⟨xs, rfl, h2⟩
  | i _ => simp only [Wt, hu] at x; cases x.1
  | b _ => simp only [Wt, hu] at x; cases x
  | s _ => simp only [Wt, hu] at x; cases x.1
  | l _ => simp only [Wt, hu] at x; obtain ⟨e, h1, _⟩ := x; cases h1
theorem Wf.cons_inv {xs : List D} {f : Field} {fs : List Field} (x : Wf P xs (f :: fs)) : ∃ y r, xs = y :: r ∧ Wt P y f.type ∧ Wf P r fs := by
  cases xs with
  | nil => simp only [Wf] at x
  | cons y r => simp only [Wf] at x; exact ⟨y, r, rfl, x.1, x.2⟩
theorem Wf.nil_inv {xs : List D} (x : Wf P xs []) : xs = [] := by
  cases xs with
  | nil => rfl
  | cons y r => simp only [Wf] at x
theorem Wl.mem : ∀ {xs : List D} {e : TypeId}, Wl P xs e → ∀ y ∈ xs, Wt P y e
  | [], _, _, y, hy => by cases hy
  | z :: r, e, x, y, hy => by
    simp only [Wl] at x
    rcases List.mem_cons.1 hy with rfl | hy
    · exact x.1
    · exact x.2.mem y hy
theorem Wl.strs {e : TypeId} (hu : P.underlying e = some .string) : ∀ {xs : List D}, Wl P xs e → ∃ l : List Bs, xs = l.map D.s ∧ ∀ s ∈ l, s.length ≤ 9223372036854775807
  | [], _ => ⟨[], rfl, by simp⟩
  | z :: r, x => by
    simp only [Wl] at x
    obtain ⟨s, rfl, hs⟩ := x.1.str_inv hu
    obtain ⟨l, rfl, hl⟩ := Wl.strs hu x.2
    refine ⟨s :: l, rfl, fun y hy => ?_⟩
    rcases List.mem_cons.1 hy with rfl | hy
    · exact hs
    · exact hl y hy
end
/-! this program's types -/
noncomputable def st41 : Array Field := match Tryz.prog.underlying 41 with | some (.struct fs) => fs | _ => #[]
theorem und41 : Tryz.prog.underlying 41 = some (.struct st41) := by kernel_rfl
theorem fields41 : st41.toList.map (·.type) = [3, 9, 38, 39] := by kernel_rfl
theorem und38 : Tryz.prog.underlying 38 = some (.slice 9) := by kernel_rfl
theorem und39 : Tryz.prog.underlying 39 = some (.slice 41) := by kernel_rfl
theorem Wf.of_types {P : Program} {xs : List D} : ∀ {fs : List Field} {ts : List TypeId}, fs.map (·.type) = ts → Wf P xs fs → xs.length = ts.length ∧ ∀ (i : Nat) (y : D) (t : TypeId), xs[i]? = some y → ts[i]? = some t → Wt P y t := by
  induction xs with
  | nil =>
    intro fs ts h x
    cases fs with
    | nil => subst h; exact ⟨rfl, fun i y t h1 h2 => by simp at h1⟩
    | cons f r => simp only [Wf] at x
  | cons y r ih =>
    intro fs ts h x
    cases fs with
    | nil => simp only [Wf] at x
    | cons f q =>
      subst h
      simp only [Wf] at x
      obtain ⟨h1, h2⟩ := ih rfl x.2
      refine ⟨by simpa using h1, fun i z t e1 e2 => ?_⟩
      cases i with
      | zero => simp only [List.getElem?_cons_zero, List.map_cons, Option.some.injEq] at e1 e2; subst e1 e2; exact x.1
      | succ i => exact h2 i z t (by simpa using e1) (by simpa using e2)
/-- a tree of api.Type -/
theorem ty_shape {y : D} (x : Wt Tryz.prog y 41) : ∃ k nm lv el, y = tyD k nm lv el ∧ nm.length ≤ 9223372036854775807 ∧ lv.length ≤ 9223372036854775807 ∧ el.length ≤ 9223372036854775807 ∧ (∀ s ∈ lv, s.length ≤ 9223372036854775807) ∧ (∀ e ∈ el, Wt Tryz.prog e 41) ∧ -9223372036854775808 ≤ k ∧ k ≤ 9223372036854775807 := by
  obtain ⟨xs, rfl, hx⟩ := x.struct_inv und41
  obtain ⟨h1, h2⟩ := hx.of_types fields41
  match xs, h1, h2 with
  | [a, b, c, d], _, h2 =>
    obtain ⟨k, rfl, hk⟩ := (h2 0 a 3 rfl rfl).int_inv Tryz.underlying3
    obtain ⟨nm, rfl, hn⟩ := (h2 1 b 9 rfl rfl).str_inv Tryz.underlying9
    obtain ⟨ls, rfl, hl, hl2⟩ := (h2 2 c 38 rfl rfl).slice_inv und38
    obtain ⟨lv, rfl, hv⟩ := hl.strs Tryz.underlying9
    obtain ⟨el, rfl, he, he2⟩ := (h2 3 d 39 rfl rfl).slice_inv und39
    exact ⟨k, nm, lv, el, rfl, hn, by simpa using hl2, he2, hv, he.mem, hk⟩
end Go.Proofs.YtkcjphhjmlienaaGreatDoor.Qp

set_option linter.unusedVariables false
set_option linter.unusedSimpArgs false
open Go Go.Proofs.YtkcjphhjmlienaaGreatDoor.Ai Go.Proofs
namespace Go.Proofs.YtkcjphhjmlienaaGreatDoor.Qp
/-! types that may be -/
inductive PT where
  | int | bool | st (nm : Bs) (lv : List Bs) | ref (mu : Bool) (lv : List Bs) (t : PT)
def PT.D : PT → D
  | .int => tyD 1 [] [] []
  | .bool => tyD 2 [] [] []
  | .st nm lv => tyD 3 nm lv []
  | .ref mu lv t => tyD (if mu = true then 5 else 4) [] lv [t.D]
def longP (s : Bs) : Prop := nameB s = true ∨ ∃ a b, s = a ++ [58, 58] ++ b ∧ nameB a = true ∧ nameB b = true
def PT.ok : Nat → PT → Prop
  | 0, _ => False
  | _ + 1, .int => True
  | _ + 1, .bool => True
  | _ + 1, .st nm lv => longP nm ∧ lv.length ≤ 64 ∧ ∀ x ∈ lv, lifeB x = true
  | g + 1, .ref _ lv t => lv.length ≤ 1 ∧ (∀ x ∈ lv, lifeB x = true) ∧ t.ok g
theorem f68_any {N : Nat} (hN : 40 ≤ N) (t : Bs) (h : Heap) : f68 N t h = some (lifeB t, h) := by
  by_cases q : t.length ≤ 32
  · exact f68_eq (by omega) (by omega) h
  · unfold f68
    have e1 : leInt 1 (Int.ofNat t.length) = true := by rw [leI, decide_eq_true_eq]; show (1 : Int) ≤ (t.length : Int); omega
    have e2 : leInt (Int.ofNat t.length) 32 = false := by rw [leI, decide_eq_false_iff_not]; show ¬ (t.length : Int) ≤ 32; omega
    simp only [e1, e2, cond_true, cond_false, lifeB, q, decide_false, Bool.and_false, Bool.false_and]
theorem f46_any {N : Nat} (hN : 40 ≤ N) (t : Bs) (h : Heap) : ∃ h', f46 N t h = some (nameB t, h') ∧ Chg [] h h' := by
  unfold f46 nameB
  rw [f68_any hN, bind2_some]
  cases hl : lifeB t with
  | false => exact ⟨h, rfl, Chg.refl _ _⟩
  | true =>
    simp only [cond_true]
    rw [f67_eq (by omega), bind2_some]
    exact ⟨_, rfl, chg_push _ _⟩
theorem wrapB {i : Nat} (h : i ≤ 9223372036854775807) : wrapA .i64 (i : Int) = (i : Int) := wrapA_small (by omega) (by omega)
theorem long_loop {N : Nat} {s : Bs} (hs : s.length ≤ 9223372036854775807) (hN : 40 ≤ N) : ∀ (M i : Nat) (h : Heap), (i < s.length ∨ (i = 0 ∧ s.length = 0)) → s.length - i < M →
    ∃ o b h', f51_l1 N M s false (i : Int) h = some (o, (s, b, ()), h') ∧ Chg [] h h' ∧ (o = .exit 0 ∨ (o = .ret ∧ (b = true → longP s))) := by
  intro M
  induction M with
  | zero => intro i _ _ h; omega
  | succ M ih =>
    intro i h hi hM
    rw [f51_l1_succ]
    unfold f51_l1_b
    have hw : wrapA .i64 ((i : Int) + 1) = ((i + 1 : Nat) : Int) := wrapA_small (by omega) (by omega)
    simp only [hw, lt_nat]
    by_cases q : i + 1 < s.length
    · simp only [q, decide_true, cond_true]
      have hw2 : wrapA .i64 ((i : Int) + 2) = ((i + 2 : Nat) : Int) := wrapA_small (by omega) (by omega)
      simp only [hw2]
      rw [slice_to (by omega) (by omega), sub_eq]
      simp only [bindV_some, cast_str]
      cases he : eqBytes ((s.drop i).take 2) [58, 58] with
      | true =>
        simp only [cond_true]
        rw [slice_upto (by omega)]
        simp only [bindV_some, cast_str]
        obtain ⟨h8, e8, c8⟩ := f46_any hN (s.take i) h
        rw [e8, bind2_some]
        cases ha : nameB (s.take i) with
        | false =>
          simp only [cond_false]
          exact ⟨_, _, _, rfl, c8, .inr ⟨rfl, fun h => by cases h⟩⟩
        | true =>
          simp only [cond_true]
          rw [slice_from (by omega)]
          simp only [bindV_some, cast_str]
          obtain ⟨h12, e12, c12⟩ := f46_any hN (s.drop (i + 2)) h8
          rw [e12, bind2_some]
          refine ⟨_, _, _, rfl, c8.trans c12, .inr ⟨rfl, fun hb => .inr ⟨s.take i, s.drop (i + 2), ?_, ha, hb⟩⟩⟩
          have h2 : (s.drop i).take 2 = [58, 58] := eqB.1 he
          rw [← h2, ← List.drop_drop, List.append_assoc, List.take_append_drop, List.take_append_drop]
      | false =>
        simp only [cond_false]
        exact ih (i + 1) h (by omega) (by omega)
    · simp only [q, decide_false, cond_false]
      exact ⟨_, _, _, rfl, Chg.refl _ _, .inl rfl⟩
theorem f51_eq {N : Nat} {s : Bs} (hs : s.length ≤ 9223372036854775807) (hN : 40 ≤ N) (hN2 : s.length < N) (h : Heap) : ∃ b h', f51 N s h = some (b, h') ∧ Chg [] h h' ∧ (b = true → longP s) := by
  unfold f51
  obtain ⟨o, b, h', e, c, hc⟩ := long_loop (N := N) hs hN N 0 h (by omega) (by omega)
  rw [show ((0 : Nat) : Int) = 0 from rfl] at e
  rw [e]
  simp only [bind3_some]
  rcases hc with rfl | ⟨rfl, hb⟩
  · simp only [eqOut_exit, decide_true, cond_true]
    obtain ⟨h2, e2, c2⟩ := f46_any hN s h'
    rw [e2, bind2_some]
    exact ⟨_, _, rfl, c.trans c2, fun hb => .inl hb⟩
  · simp only [eqOut_ret, cond_false]
    exact ⟨_, _, rfl, c, hb⟩
theorem lives_loop {N : Nat} {h : Heap} {V : Nat → Prop} {v : SL} {lv : List Bs} (x : Sl h V v (lv.map D.s)) (hN : 40 ≤ N) (hl : lv.length ≤ 9223372036854775807) : ∀ (M i : Nat), i ≤ lv.length → i ≤ 65 → 65 - i < M → (∀ j, (hj : j < lv.length) → j < i → lifeB lv[j] = true) →
    ∃ o b, f47_l1 N M v false (i : Int) h = some (o, (v, b, ()), h) ∧ ((o = .exit 0 ∧ (lv.length ≤ 64 → ∀ y ∈ lv, lifeB y = true)) ∨ (o = .ret ∧ b = false)) := by
  intro M
  induction M with
  | zero => intro i _ _ h; omega
  | succ M ih =>
    intro i hi hi2 hM hp
    rw [f47_l1_succ]
    unfold f47_l1_b
    have hv : v.len = lv.length := by rw [x.len, List.length_map]
    have z : ltInt (i : Int) 65 = decide (i < 65) := lt_nat' i 65
    simp only [lt_nat, hv, z]
    have done : ¬ i < lv.length ∨ ¬ i < 65 → lv.length ≤ 64 → ∀ y ∈ lv, lifeB y = true := fun hd hl y hy => by
      obtain ⟨j, hj, rfl⟩ := List.getElem_of_mem hy
      exact hp j hj (by omega)
    by_cases q : i < lv.length
    · by_cases q2 : i < 65
      · simp only [q, q2, decide_true, cond_true]
        rw [← hv, x.ix (by rw [List.length_map]; exact q) 1, sl_str x q, hv]
        simp only [bindV_some, cast_str]
        rw [f68_any hN, bind2_some]
        cases hb : lifeB lv[i] with
        | false =>
          simp only [Bool.not_false, cond_true]
          exact ⟨_, _, rfl, .inr ⟨rfl, rfl⟩⟩
        | true =>
          simp only [Bool.not_true, cond_false]
          rw [wrap_succ (by omega)]
          refine ih (i + 1) q (by omega) (by omega) fun j hj hji => ?_
          by_cases e : j = i
          · subst e; exact hb
          · exact hp j hj (by omega)
      · simp only [q, q2, decide_true, decide_false, cond_true, cond_false]
        exact ⟨_, _, rfl, .inl ⟨rfl, done (.inr q2)⟩⟩
    · simp only [q, decide_false, cond_false]
      exact ⟨_, _, rfl, .inl ⟨rfl, done (.inl q)⟩⟩
theorem f47_eq {N : Nat} {h : Heap} {V : Nat → Prop} {v : SL} {lv : List Bs} (x : Sl h V v (lv.map D.s)) (hN : 100 ≤ N) (hl : lv.length ≤ 9223372036854775807) : ∃ b, f47 N v h = some (b, h) ∧ (b = true → lv.length ≤ 64 ∧ ∀ y ∈ lv, lifeB y = true) := by
  unfold f47
  obtain ⟨o, b, e, hc⟩ := lives_loop (N := N) x (by omega) hl N 0 (Nat.zero_le _) (by omega) (by omega) (fun j _ h => by omega)
  rw [show ((0 : Nat) : Int) = 0 from rfl] at e
  rw [e]
  simp only [bind3_some]
  have hv : v.len = lv.length := by rw [x.len, List.length_map]
  rcases hc with ⟨rfl, hp⟩ | ⟨rfl, rfl⟩
  · simp only [eqOut_exit, decide_true, cond_true]
    have z : leInt (Int.ofNat v.len) 64 = decide (lv.length ≤ 64) := by rw [hv]; exact le_nat _ 64
    rw [z]
    exact ⟨_, rfl, fun hd => ⟨of_decide_eq_true hd, hp (of_decide_eq_true hd)⟩⟩
  · simp only [eqOut_ret, cond_false]
    exact ⟨_, rfl, fun h => by cases h⟩
end Go.Proofs.YtkcjphhjmlienaaGreatDoor.Qp

set_option linter.unusedVariables false
set_option linter.unusedSimpArgs false
open Go Go.Proofs.YtkcjphhjmlienaaGreatDoor.Ai Go.Proofs
namespace Go.Proofs.YtkcjphhjmlienaaGreatDoor.Qp
theorem wtL_mem : ∀ {xs : List D} {x : D}, x ∈ xs → wtD x ≤ wtL xs
  | y :: r, x, h => by
    simp only [wtL]
    rcases List.mem_cons.1 h with rfl | h
    · omega
    · have := wtL_mem h; omega
theorem wtD_ty (k : Int) (nm : Bs) (lv : List Bs) (el : List D) : nm.length < wtD (tyD k nm lv el) ∧ wtL el < wtD (tyD k nm lv el) := by
  simp only [tyD, wtD, wtL]; omega
theorem tyc_inj {r : TyV} {k : Int} {x : Bs} {s1 s2 : SL} (hc : tyc r = tyc (k, x, s1, s2, ())) : r = (k, x, s1, s2, ()) := by
  obtain ⟨k', x', s1', s2', _⟩ := r
  simp only [tyc, List.cons.injEq, AV.int.injEq, AV.str.injEq, true_and, and_true] at hc
  obtain ⟨rfl, rfl, h3, h4⟩ := hc
  rw [SL.av_inj h3, SL.av_inj h4]
theorem len0 {α : Type} {l : List α} {s : SL} (h : s.len = l.length) (hz : eqInt (Int.ofNat s.len) 0 = true) : l = [] := by
  rw [eqI, decide_eq_true_eq, h] at hz
  exact List.length_eq_zero_iff.1 (Int.ofNat.inj hz)
theorem f21_eq {N : Nat} (hN : 100 ≤ N) : ∀ (g M : Nat) (h : Heap) (r : TyV) (x : D) (V : Nat → Prop), g < M → g ≤ 64 → wtD x < N → Wt Tryz.prog x 41 → Dt h V x (tyc r) →
    ∃ b h', f21 N M r ((65 - g : Nat) : Int) h = some (b, h') ∧ Chg [] h h' ∧ (b = true → ∃ p : PT, x = p.D ∧ p.ok g) := by
  intro g
  induction g with
  | zero =>
    intro M h r x V hM hg hw ht hd
    obtain ⟨M, rfl⟩ : ∃ m, M = m + 1 := ⟨M - 1, by omega⟩
    rw [f21_succ]
    unfold f21_r
    rw [show ltInt 64 ((65 - 0 : Nat) : Int) = true from rfl]
    exact ⟨_, _, rfl, chg_push _ _, fun h => by cases h⟩
  | succ g ih =>
    intro M h r x V hM hg hw ht hd
    obtain ⟨M, rfl⟩ : ∃ m, M = m + 1 := ⟨M - 1, by omega⟩
    rw [f21_succ]
    unfold f21_r
    obtain ⟨k, nm, lv, el, rfl, hnm, hlv, hel, hlv2, helt, hk⟩ := ty_shape ht
    obtain ⟨s1, s2, hc, l1, t1⟩ := dt_ty.1 hd
    have er := tyc_inj hc
    subst er
    have o1 := own_push h (tyc (k, nm, s1, s2, ()))
    have c1 := chg_push h (.row (tyc (k, nm, s1, s2, ())) .own)
    have g1 : h.push (.row [(.int .i64 (k, nm, s1, s2, ()).1), (.str (k, nm, s1, s2, ()).2.1), (.slice (k, nm, s1, s2, ()).2.2.1.a (k, nm, s1, s2, ()).2.2.1.len (k, nm, s1, s2, ()).2.2.1.cap (k, nm, s1, s2, ()).2.2.1.sz), (.slice (k, nm, s1, s2, ()).2.2.2.1.a (k, nm, s1, s2, ()).2.2.2.1.len (k, nm, s1, s2, ()).2.2.2.1.cap (k, nm, s1, s2, ()).2.2.2.1.sz)] .own) = h.push (.row (tyc (k, nm, s1, s2, ())) .own) := rfl
    rw [g1]
    generalize h.push (.row (tyc (k, nm, s1, s2, ())) .own) = h1 at *
    have z : ltInt 64 ((65 - (g + 1) : Nat) : Int) = false := by
      rw [show (64 : Int) = ((64 : Nat) : Int) from rfl, lt_nat', decide_eq_false_iff_not]; omega
    dsimp only
    rw [z]
    have a0 : h1.cell (h.next, 0) = some (.int .i64 k) := o1.cell 0
    have a1 : h1.cell (h.next, 1) = some (.str nm) := o1.cell 1
    have a2 : h1.cell (h.next, 2) = some (SL.av s1) := o1.cell 2
    have a3 : h1.cell (h.next, 3) = some (SL.av s2) := o1.cell 3
    simp only [SL.av] at a2 a3
    have l1' := l1.chg c1 (by simp)
    have t1' := t1.chg c1 (by simp)
    have hl1 : s1.len = lv.length := by rw [l1.len, List.length_map]
    obtain ⟨w1, w2⟩ := wtD_ty k nm lv el
    simp only [cond_false, Nat.add_zero, Nat.zero_add, a0, bindV_some, cast_int, eqI]
    by_cases k12 : k = 1 ∨ k = 2
    · have base : (bind2 (α := (Int × Option (Nat × Nat) × Int × Bool × Unit)) (bif decide (k = 1) then some ((((65 - (g + 1) : Nat) : Int), (some (h.next, 0)), k, decide (k = 1), ()), h1) else some ((((65 - (g + 1) : Nat) : Int), (some (h.next, 0)), k, decide (k = 2), ()), h1)) = bind2 (α := (Int × Option (Nat × Nat) × Int × Bool × Unit)) (β := Bool × Heap) (some ((((65 - (g + 1) : Nat) : Int), (some (h.next, 0)), k, true, ()), h1))) := by
        rcases k12 with rfl | rfl <;> rfl
      rw [base]
      simp only [bind2_some, cond_true, need_some, a1, a2, a3, bindV_some, cast_str, cast_slice]
      cases e1 : eqBytes nm [] with
      | false => exact ⟨_, _, rfl, c1, fun h => by cases h⟩
      | true =>
        simp only [cond_true]
        cases e2 : eqInt (Int.ofNat s1.len) 0 with
        | false => simp only [e2, ← eqI, cond_false]; exact ⟨_, _, rfl, c1, fun h => by cases h⟩
        | true =>
          simp only [e2, ← eqI, cond_true]
          refine ⟨_, _, rfl, c1, fun hb => ?_⟩
          rw [eqB.1 e1, len0 hl1 e2, len0 t1.len hb]
          rcases k12 with rfl | rfl
          · exact ⟨.int, rfl, trivial⟩
          · exact ⟨.bool, rfl, trivial⟩
    · have k1 : ¬ k = 1 := fun e => k12 (.inl e)
      have k2 : ¬ k = 2 := fun e => k12 (.inr e)
      simp only [k1, k2, decide_false, cond_false, bind2_some]
      by_cases k3 : k = 3
      · simp only [k3, decide_true, cond_true, need_some, a1, a2, bindV_some, cast_str, cast_slice]
        obtain ⟨b, h21, e21, c21, p21⟩ := f51_eq (N := N) hnm (by omega) (by omega) h1
        rw [e21, bind2_some]
        cases b with
        | false => exact ⟨_, _, rfl, c1.trans c21, fun h => by cases h⟩
        | true =>
          have o2 := o1.chg c21 (by simp)
          have b2 : h21.cell (h.next, 2) = some (SL.av s1) := o2.cell 2
          have b3 : h21.cell (h.next, 3) = some (SL.av s2) := o2.cell 3
          simp only [SL.av] at b2 b3
          simp only [cond_true, b2, b3, bindV_some, cast_slice]
          obtain ⟨b, e47, p47⟩ := f47_eq (N := N) (l1'.chg c21 (by simp)) hN hlv
          have e47' : f47 N ⟨s1.a, s1.len, s1.cap, s1.sz⟩ h21 = some (b, h21) := e47
          rw [e47', bind2_some]
          cases b with
          | false => exact ⟨_, _, rfl, c1.trans c21, fun h => by cases h⟩
          | true =>
            simp only [cond_true, b3, bindV_some, cast_slice, ← eqI]
            refine ⟨_, _, rfl, c1.trans c21, fun hb => ?_⟩
            rw [len0 t1.len hb]
            exact ⟨.st nm lv, rfl, p21 rfl, (p47 rfl).1, (p47 rfl).2⟩
      · simp only [k3, decide_false, cond_false]
        by_cases k45 : k = 4 ∨ k = 5
        · have base : (bind2 (α := (Int × Option (Nat × Nat) × Bool × Unit)) (bif decide (k = 4) then some ((((65 - (g + 1) : Nat) : Int), (some (h.next, 0)), decide (k = 4), ()), h1) else some ((((65 - (g + 1) : Nat) : Int), (some (h.next, 0)), decide (k = 5), ()), h1)) = bind2 (α := (Int × Option (Nat × Nat) × Bool × Unit)) (β := Bool × Heap) (some ((((65 - (g + 1) : Nat) : Int), (some (h.next, 0)), true, ()), h1))) := by
            rcases k45 with rfl | rfl <;> rfl
          rw [base]
          simp only [bind2_some, cond_true, need_some, a1, a2, a3, bindV_some, cast_str, cast_slice]
          cases e1 : eqBytes nm [] with
          | false => exact ⟨_, _, rfl, c1, fun h => by cases h⟩
          | true =>
            simp only [cond_true]
            have z1 : leInt (Int.ofNat s1.len) 1 = decide (lv.length ≤ 1) := by rw [hl1]; exact le_nat _ 1
            rw [z1]
            by_cases q1 : lv.length ≤ 1
            · simp only [q1, decide_true, cond_true]
              obtain ⟨b, e47, p47⟩ := f47_eq (N := N) l1' hN hlv
              have e47' : f47 N ⟨s1.a, s1.len, s1.cap, s1.sz⟩ h1 = some (b, h1) := e47
              rw [e47', bind2_some]
              cases b with
              | false => exact ⟨_, _, rfl, c1, fun h => by cases h⟩
              | true =>
                simp only [cond_true, a3, bindV_some, cast_slice]
                have z2 : decide (Int.ofNat s2.len = 1) = decide (el.length = 1) := by
                  rw [t1.len]
                  by_cases q : el.length = 1
                  · simp [q]
                  · rw [decide_eq_false q, decide_eq_false]; intro e; exact q (Int.ofNat.inj e)
                rw [z2]
                by_cases q2 : el.length = 1
                · simp only [q2, decide_true, cond_true]
                  obtain ⟨e, rfl⟩ : ∃ e, el = [e] := List.length_eq_one_iff.1 q2
                  have hte := helt e (by simp)
                  have hty : ∃ k nm lv el, e = tyD k nm lv el := by obtain ⟨k, nm, lv, el, h, _⟩ := ty_shape hte; exact ⟨k, nm, lv, el, h⟩
                  have ecell : ∃ r' : TyV, h1.cells (s2.at 0 4) 4 = some (.agg (tyc r')) ∧ Dt h1 V e (tyc r') := by
                    obtain ⟨cs, ee⟩ := t1'.elt (i := 0) (by simp)
                    obtain ⟨k', nm', lv', el', hk'⟩ := hty
                    have hde := ee.dt
                    simp only [List.getElem_cons_zero] at hde
                    rw [hk'] at hde
                    obtain ⟨u1, u2, hcs, _⟩ := dt_ty.1 hde
                    have hz : s2.sz = 4 := by rw [← ee.len, hcs]; rfl
                    have hwh := ee.whole
                    rw [hz, hcs] at hwh
                    refine ⟨_, hwh, ?_⟩
                    rw [← hcs, hk']; exact hde
                  obtain ⟨r', er', dr'⟩ := ecell
                  have hix : ∀ {β : Type} (K : Nat × Nat → Option β), ixK s2.a s2.len 0 4 K = K (s2.at 0 4) := fun K => t1'.ix (i := 0) (by simp) 4 K
                  rw [hix, er', agg4, wrap_succ (by omega), show 65 - (g + 1) + 1 = 65 - g by omega]
                  have hwe : wtD e < N := by simp only [wtL] at w2; omega
                  obtain ⟨b, h52, e52, c52, p52⟩ := ih M h1 r' e V (by omega) (by omega) hwe hte dr'
                  show ∃ b h', (bind2 (f21 N M r' ((65 - g : Nat) : Int) h1) _) = _ ∧ _
                  rw [e52, bind2_some]
                  refine ⟨_, _, rfl, c1.trans c52, fun hb => ?_⟩
                  obtain ⟨p, hp1, hp2⟩ := p52 hb
                  rw [eqB.1 e1, hp1]
                  rcases k45 with rfl | rfl
                  · exact ⟨.ref false lv p, rfl, q1, (p47 rfl).2, hp2⟩
                  · exact ⟨.ref true lv p, rfl, q1, (p47 rfl).2, hp2⟩
                · simp only [q2, decide_false, cond_false]
                  exact ⟨_, _, rfl, c1, fun h => by cases h⟩
            · simp only [q1, decide_false, cond_false]
              exact ⟨_, _, rfl, c1, fun h => by cases h⟩
        · have k4 : ¬ k = 4 := fun e => k45 (.inl e)
          have k5 : ¬ k = 5 := fun e => k45 (.inr e)
          simp only [k4, k5, decide_false, cond_false, bind2_some]
          exact ⟨_, _, rfl, c1, fun h => by cases h⟩
end Go.Proofs.YtkcjphhjmlienaaGreatDoor.Qp

set_option linter.unusedVariables false
set_option linter.unusedSimpArgs false
open Go Go.Proofs.YtkcjphhjmlienaaGreatDoor.Ai Go.Proofs
namespace Go.Proofs.YtkcjphhjmlienaaGreatDoor.Qp
/-! the document's text of a type -/
def marksB : List Bs → Bs
  | [] => []
  | x :: r => [44, 32, 39] ++ x ++ marksB r
def marksT : List Bs → Bs
  | [] => []
  | x :: r => [60, 39] ++ x ++ marksB r ++ [62]
def PT.txt : PT → Bs
  | .int => [105, 110, 116]
  | .bool => [98, 111, 111, 108]
  | .st nm lv => nm ++ marksT lv
  | .ref mu lv t => [38] ++ (match lv with | [] => [] | x :: _ => [39] ++ x ++ [32]) ++ (if mu = true then [109, 117, 116, 32] else []) ++ t.txt
theorem lifeB_len {x : Bs} (h : lifeB x = true) : 1 ≤ x.length ∧ x.length ≤ 32 := by
  simp only [lifeB, Bool.and_eq_true, decide_eq_true_eq] at h
  exact ⟨h.1.1.1, h.1.1.2⟩
theorem marksB_len : ∀ {lv : List Bs}, (∀ x ∈ lv, lifeB x = true) → (marksB lv).length ≤ lv.length * 35
  | [], _ => by simp [marksB]
  | x :: r, h => by
    have h1 := lifeB_len (h x (by simp))
    have h2 := marksB_len (lv := r) fun y hy => h y (by simp [hy])
    simp only [marksB, List.length_append, List.length_cons, List.length_nil]; omega
theorem marksB_append : ∀ (a b : List Bs), marksB (a ++ b) = marksB a ++ marksB b
  | [], b => rfl
  | x :: r, b => by simp only [List.cons_append, marksB, marksB_append r b, List.append_assoc]
section
variable {N : Nat} {h : Heap} {V : Nat → Prop}
/-- what stands behind the bracket so far -/
def soFar (l : List Bs) : Bs := match l with
  | [] => []
  | x :: r => [39] ++ x ++ marksB r
theorem soFar_snoc (l : List Bs) (x : Bs) : soFar (l ++ [x]) = if l = [] then [39] ++ x else soFar l ++ [44, 32] ++ [39] ++ x := by
  cases l with
  | nil => simp [soFar, marksB]
  | cons y r => simp [soFar, marksB_append, marksB]
theorem soFar_len {l : List Bs} (hl : ∀ x ∈ l, lifeB x = true) : (soFar l).length ≤ l.length * 35 := by
  cases l with
  | nil => simp [soFar]
  | cons x r =>
    have h1 := lifeB_len (hl x (by simp))
    have h2 := marksB_len (lv := r) fun y hy => hl y (by simp [hy])
    simp only [soFar, List.length_append, List.length_cons, List.length_nil]; omega
theorem marks_loop {v : SL} {lv : List Bs} (x : Sl h V v (lv.map D.s)) (hl : lv.length ≤ 64) (hlv : ∀ y ∈ lv, lifeB y = true) : ∀ (M i : Nat), i ≤ lv.length → lv.length - i < M →
    f58_l1 N M v (soFar (lv.take i)) (i : Int) h = some (.exit 0, (soFar lv, ()), h) := by
  intro M
  induction M with
  | zero => intro i _ h; omega
  | succ M ih =>
    intro i hi hM
    rw [f58_l1_succ]
    unfold f58_l1_b
    have hv : v.len = lv.length := by rw [x.len, List.length_map]
    have z : ltInt 0 (i : Int) = decide (0 < i) := lt_nat' 0 i
    have hlen := soFar_len (l := lv.take i) fun y hy => hlv y (List.mem_of_mem_take hy)
    have htl : (lv.take i).length = i := by rw [List.length_take]; omega
    simp only [lt_nat, hv, z]
    by_cases q : i < lv.length
    · simp only [q, decide_true, cond_true]
      have hxl := lifeB_len (hlv _ (List.getElem_mem q))
      have et : lv.take (i + 1) = lv.take i ++ [lv[i]] := by rw [List.take_succ_eq_append_getElem q]
      have es := soFar_snoc (lv.take i) lv[i]
      rw [← et] at es
      have rd : ∀ {β : Type} (K : Bs → Option β), (ixK v.a lv.length (i : Int) 1 fun q10 => bindV (.val (.one .str)) (h.cell q10) K) = K lv[i] := fun K => by
        rw [← hv, x.ix (by rw [List.length_map]; exact q) 1, sl_str x q]
        simp only [bindV_some, cast_str]
      by_cases q0 : 0 < i
      · simp only [q0, decide_true, cond_true]
        rw [binAdd (by simp only [List.length_cons, List.length_nil]; omega)]
        simp only [bindV_some, cast_str]
        rw [binAdd (by simp only [List.length_append, List.length_cons, List.length_nil]; omega)]
        simp only [bindV_some, cast_str]
        rw [rd, binAdd (by simp only [List.length_append, List.length_cons, List.length_nil]; omega)]
        simp only [bindV_some, cast_str]
        rw [if_neg (by intro e; rw [e] at htl; simp at htl; omega)] at es
        rw [← es, wrap_succ (by omega)]
        exact ih (i + 1) q (by omega)
      · have i0 : i = 0 := by omega
        simp only [q0, decide_false, cond_false]
        have e0 : lv.take i = [] := by rw [i0]; rfl
        rw [if_pos e0] at es
        rw [binAdd (by simp only [List.length_cons, List.length_nil]; omega)]
        simp only [bindV_some, cast_str]
        rw [rd, binAdd (by simp only [List.length_append, List.length_cons, List.length_nil]; omega)]
        simp only [bindV_some, cast_str]
        have e1 : soFar (lv.take i) ++ [39] ++ lv[i] = soFar (lv.take (i + 1)) := by rw [es, e0]; rfl
        rw [e1, wrap_succ (by omega)]
        exact ih (i + 1) q (by omega)
    · simp only [q, decide_false, cond_false]
      rw [List.take_of_length_le (by omega)]
theorem f58_eq {v : SL} {lv : List Bs} (x : Sl h V v (lv.map D.s)) (hl : lv.length ≤ 64) (hlv : ∀ y ∈ lv, lifeB y = true) (hN : 100 ≤ N) : f58 N v h = some (marksT lv, h) := by
  unfold f58
  have lp := marks_loop (N := N) x hl hlv N 0 (Nat.zero_le _) (by omega)
  rw [show ((0 : Nat) : Int) = 0 from rfl, List.take_zero] at lp
  rw [show soFar [] = ([] : Bs) from rfl] at lp
  rw [lp]
  simp only [bind3_some]
  have hlen := soFar_len hlv
  cases lv with
  | nil => rfl
  | cons y r =>
    have : eqBytes (soFar (y :: r)) [] = false := by
      cases e : eqBytes (soFar (y :: r)) [] with
      | false => rfl
      | true => have := eqB.1 e; simp [soFar] at this
    rw [this]
    simp only [cond_false]
    rw [binAdd (by simp only [List.length_cons, List.length_nil] at hlen hl ⊢; omega)]
    simp only [bindV_some, cast_str]
    rw [binAdd (by simp only [List.length_append, List.length_cons, List.length_nil] at hlen hl ⊢; omega)]
    simp only [bindV_some, cast_str]
    simp [soFar, marksT]
theorem nameB_len {x : Bs} (h : nameB x = true) : 1 ≤ x.length ∧ x.length ≤ 32 := by
  simp only [nameB, Bool.and_eq_true] at h
  exact lifeB_len h.1
theorem longP_len {x : Bs} (h : longP x) : x.length ≤ 66 := by
  rcases h with h | ⟨a, b, rfl, ha, hb⟩
  · have := nameB_len h; omega
  · have h1 := nameB_len ha
    have h2 := nameB_len hb
    simp only [List.length_append, List.length_cons, List.length_nil]; omega
theorem marksT_len {lv : List Bs} (hl : lv.length ≤ 64) (hlv : ∀ y ∈ lv, lifeB y = true) : (marksT lv).length ≤ 2400 := by
  cases lv with
  | nil => simp [marksT]
  | cons x r =>
    have h1 := lifeB_len (hlv x (by simp))
    have h2 := marksB_len (lv := r) fun y hy => hlv y (by simp [hy])
    simp only [List.length_cons] at hl
    simp only [marksT, List.length_append, List.length_cons, List.length_nil]; omega
theorem txt_len : ∀ {g : Nat} {p : PT}, p.ok g → p.txt.length ≤ 2500 + g * 40
  | 0, p, h => by cases p <;> cases h
  | g + 1, .int, _ => by simp only [PT.txt, List.length_cons, List.length_nil]; omega
  | g + 1, .bool, _ => by simp only [PT.txt, List.length_cons, List.length_nil]; omega
  | g + 1, .st nm lv, ⟨h1, h2, h3⟩ => by
    have := longP_len h1
    have := marksT_len h2 h3
    simp only [PT.txt, List.length_append]; omega
  | g + 1, .ref mu lv t, ⟨h1, h2, h3⟩ => by
    have ih := txt_len h3
    cases lv with
    | nil => cases mu <;> simp only [PT.txt, List.length_append, List.length_cons, List.length_nil, if_true, if_false, Bool.false_eq_true] <;> omega
    | cons x r =>
      have := lifeB_len (h2 x (by simp))
      cases mu <;> simp only [PT.txt, List.length_append, List.length_cons, List.length_nil, if_true, if_false, Bool.false_eq_true] <;> omega
theorem pt_wt : ∀ {g : Nat} {p : PT}, p.ok g → isTy g p.D
  | 0, p, h => by cases p <;> cases h
  | g + 1, .int, _ => ⟨1, [], [], [], rfl, by simp, by simp, by simp⟩
  | g + 1, .bool, _ => ⟨2, [], [], [], rfl, by simp, by simp, by simp⟩
  | g + 1, .st nm lv, ⟨h1, h2, h3⟩ => ⟨3, nm, lv, [], rfl, by omega, by simp, by simp⟩
  | g + 1, .ref mu lv t, ⟨h1, h2, h3⟩ => ⟨_, [], lv, [t.D], rfl, by omega, by simp, fun e he => by
      rw [List.mem_singleton] at he; subst he; exact pt_wt h3⟩
theorem f24_eq (hN : 100 ≤ N) : ∀ (g M : Nat) (h : Heap) (r : TyV) (p : PT) (V : Nat → Prop), g ≤ M → g ≤ 64 → p.ok g → Dt h V p.D (tyc r) → ∃ h', f24 N M r h = some (p.txt, h') ∧ Chg [] h h' := by
  intro g
  induction g with
  | zero => intro M h r p V _ _ hp; cases p <;> cases hp
  | succ g ih =>
    intro M h r p V hM hg hp hd
    obtain ⟨M, rfl⟩ : ∃ m, M = m + 1 := ⟨M - 1, by omega⟩
    rw [f24_succ]
    unfold f24_r
    obtain ⟨k, nm, lv, el, hpD⟩ : ∃ k nm lv el, p.D = tyD k nm lv el := by cases p <;> exact ⟨_, _, _, _, rfl⟩
    rw [hpD] at hd
    obtain ⟨s1, s2, hc, l1, t1⟩ := dt_ty.1 hd
    have er := tyc_inj hc
    subst er
    have o1 := own_push h (tyc (k, nm, s1, s2, ()))
    have c1 := chg_push h (.row (tyc (k, nm, s1, s2, ())) .own)
    have g1 : h.push (.row [(.int .i64 (k, nm, s1, s2, ()).1), (.str (k, nm, s1, s2, ()).2.1), (.slice (k, nm, s1, s2, ()).2.2.1.a (k, nm, s1, s2, ()).2.2.1.len (k, nm, s1, s2, ()).2.2.1.cap (k, nm, s1, s2, ()).2.2.1.sz), (.slice (k, nm, s1, s2, ()).2.2.2.1.a (k, nm, s1, s2, ()).2.2.2.1.len (k, nm, s1, s2, ()).2.2.2.1.cap (k, nm, s1, s2, ()).2.2.2.1.sz)] .own) = h.push (.row (tyc (k, nm, s1, s2, ())) .own) := rfl
    rw [g1]
    generalize h.push (.row (tyc (k, nm, s1, s2, ())) .own) = h1 at *
    dsimp only
    have a0 : h1.cell (h.next, 0) = some (.int .i64 k) := o1.cell 0
    have a1 : h1.cell (h.next, 1) = some (.str nm) := o1.cell 1
    have a2 : h1.cell (h.next, 2) = some (SL.av s1) := o1.cell 2
    have a3 : h1.cell (h.next, 3) = some (SL.av s2) := o1.cell 3
    simp only [SL.av] at a2 a3
    have l1' := l1.chg c1 (by simp)
    have t1' := t1.chg c1 (by simp)
    have hl1 : s1.len = lv.length := by rw [l1.len, List.length_map]
    simp only [Nat.add_zero, Nat.zero_add, a0, bindV_some, cast_int]
    cases p with
    | int =>
      simp only [PT.D, tyD, D.t.injEq, List.cons.injEq, D.i.injEq] at hpD
      rw [← hpD.1]
      exact ⟨_, rfl, c1⟩
    | bool =>
      simp only [PT.D, tyD, D.t.injEq, List.cons.injEq, D.i.injEq] at hpD
      rw [← hpD.1]
      exact ⟨_, rfl, c1⟩
    | st nm' lv' =>
      have hk : k = 3 ∧ nm = nm' ∧ lv = lv' := by
        simp only [PT.D, tyD, D.t.injEq, List.cons.injEq, D.i.injEq, D.s.injEq, D.l.injEq, and_true] at hpD
        obtain ⟨e1, e2, e3, _⟩ := hpD
        exact ⟨e1.symm, e2.symm, (List.map_inj_right (fun a b h => by simpa using h)).1 e3.symm⟩
      obtain ⟨rfl, rfl, rfl⟩ := hk
      obtain ⟨p1, p2, p3⟩ := hp
      rw [show eqInt 3 1 = false from rfl, show eqInt 3 2 = false from rfl, show eqInt 3 3 = true from rfl]
      simp only [cond_false, cond_true, a1, a2, bindV_some, cast_str, cast_slice]
      have f58' : f58 N ⟨s1.a, s1.len, s1.cap, s1.sz⟩ h1 = some (marksT lv, h1) := f58_eq (N := N) l1' p2 p3 hN
      rw [f58', bind2_some, binAdd (by have := longP_len p1; have := marksT_len p2 p3; omega)]
      simp only [bindV_some, cast_str, a1, a2, sameO_some, cond_true, guardB_true]
      exact ⟨_, rfl, c1⟩
    | ref mu lv' t =>
      have hk : k = (if mu = true then 5 else 4) ∧ lv = lv' ∧ el = [t.D] := by
        simp only [PT.D, tyD, D.t.injEq, List.cons.injEq, D.i.injEq, D.s.injEq, D.l.injEq, and_true] at hpD
        obtain ⟨e1, e2, e3, e4⟩ := hpD
        exact ⟨e1.symm, (List.map_inj_right (fun a b h => by simpa using h)).1 e3.symm, e4.symm⟩
      obtain ⟨hk, rfl, rfl⟩ := hk
      obtain ⟨p1, p2, p3⟩ := hp
      have ht := txt_len p3
      have kk : (k = 4 ∧ mu = false) ∨ (k = 5 ∧ mu = true) := by cases mu <;> simp at hk <;> simp [hk]
      have z1 : eqInt k 1 = false := by rcases kk with ⟨rfl, _⟩ | ⟨rfl, _⟩ <;> rfl
      have z2 : eqInt k 2 = false := by rcases kk with ⟨rfl, _⟩ | ⟨rfl, _⟩ <;> rfl
      have z3 : eqInt k 3 = false := by rcases kk with ⟨rfl, _⟩ | ⟨rfl, _⟩ <;> rfl
      have z5 : eqInt k 5 = mu := by rcases kk with ⟨rfl, rfl⟩ | ⟨rfl, rfl⟩ <;> rfl
      simp only [z1, z2, z3, cond_false]
      have base : (bind2 (α := (Option (Nat × Nat) × Bool × Unit)) (bif eqInt k 4 then some (((some (h.next, 0)), eqInt k 4, ()), h1) else some (((some (h.next, 0)), eqInt k 5, ()), h1)) = bind2 (α := (Option (Nat × Nat) × Bool × Unit)) (β := Bs × Heap) (some (((some (h.next, 0)), true, ()), h1))) := by
        rcases kk with ⟨rfl, rfl⟩ | ⟨rfl, rfl⟩ <;> rfl
      rw [base]
      have ze : eqInt (Int.ofNat s2.len) 0 = false := by rw [t1.len]; rfl
      simp only [bind2_some, cond_true, need_some, a2, a3, bindV_some, cast_slice, ze, cond_false]
      -- the element
      have hty : ∃ k nm lv el, t.D = tyD k nm lv el := by cases t <;> exact ⟨_, _, _, _, rfl⟩
      have ecell : ∃ r' : TyV, h1.cells (s2.at 0 4) 4 = some (.agg (tyc r')) ∧ Dt h1 V t.D (tyc r') := by
        obtain ⟨cs, ee⟩ := t1'.elt (i := 0) (by simp)
        obtain ⟨k', nm', lv', el', hk'⟩ := hty
        have hde := ee.dt
        simp only [List.getElem_cons_zero] at hde
        rw [hk'] at hde
        obtain ⟨u1, u2, hcs, _⟩ := dt_ty.1 hde
        have hz : s2.sz = 4 := by rw [← ee.len, hcs]; rfl
        have hwh := ee.whole
        rw [hz, hcs] at hwh
        refine ⟨_, hwh, ?_⟩
        rw [← hcs, hk']; exact hde
      obtain ⟨r', er', dr'⟩ := ecell
      have hix : ∀ {β : Type} (K : Nat × Nat → Option β), ixK s2.a s2.len 0 4 K = K (s2.at 0 4) := fun K => t1'.ix (i := 0) (by simp) 4 K
      obtain ⟨h', e', c'⟩ := ih M h1 r' t V (by omega) (by omega) p3 dr'
      -- what stands ahead of it
      have ahead : (bind2 (α := (Option (Nat × Nat) × List UInt8 × Unit)) (β := Bs × Heap) (bif ltInt 0 (Int.ofNat s1.len) then
         (bindV (.val (.one .str)) (binStr .add [38] [39]) fun (x21 : List UInt8) =>
         (ixK s1.a s1.len 0 1 fun q24 =>
         (bindV (.val (.one .str)) (h1.cell q24) fun (x25 : List UInt8) =>
         (bindV (.val (.one .str)) (binStr .add x21 x25) fun (x26 : List UInt8) =>
         (bindV (.val (.one .str)) (binStr .add x26 [32]) fun (x27 : List UInt8) =>
         some ((some (h.next, 0), x27, ()), h1))))))
        else
         some ((some (h.next, 0), [38], ()), h1)) = bind2 (α := (Option (Nat × Nat) × List UInt8 × Unit)) (some ((some (h.next, 0), [38] ++ (match lv with | [] => [] | x :: _ => [39] ++ x ++ [32]), ()), h1))) := by
        cases lv with
        | nil =>
          have : ltInt 0 (Int.ofNat s1.len) = false := by rw [hl1]; rfl
          rw [this]; rfl
        | cons x rr =>
          have : ltInt 0 (Int.ofNat s1.len) = true := by rw [hl1, ltI, decide_eq_true_eq]; show (0 : Int) < ((rr.length + 1 : Nat) : Int); omega
          rw [this]
          have hx := lifeB_len (p2 x (by simp))
          have hix1 : ∀ {β : Type} (K : Nat × Nat → Option β), ixK s1.a s1.len 0 1 K = K (s1.at 0 1) := fun K => l1'.ix (i := 0) (by simp) 1 K
          have hcl := sl_str l1' (i := 0) (by simp)
          simp only [List.getElem_cons_zero] at hcl
          simp only [cond_true]
          rw [binAdd (by simp)]
          simp only [bindV_some, cast_str]
          rw [hix1, hcl]
          simp only [bindV_some, cast_str]
          rw [binAdd (by simp only [List.length_append, List.length_cons, List.length_nil]; omega)]
          simp only [bindV_some, cast_str]
          rw [binAdd (by simp only [List.length_append, List.length_cons, List.length_nil]; omega)]
          simp only [bindV_some, cast_str]
          rw [← List.append_assoc, ← List.append_assoc]
      rw [ahead]
      have hal : ([38] ++ (match lv with | [] => [] | x :: _ => [39] ++ x ++ [32]) : Bs).length ≤ 40 := by
        cases lv with
        | nil => simp
        | cons x rr => have hx := lifeB_len (p2 x (by simp)); simp only [List.length_append, List.length_cons, List.length_nil]; omega
      generalize ha : ([38] ++ (match lv with | [] => [] | x :: _ => [39] ++ x ++ [32]) : Bs) = pre at *
      simp only [bind2_some, need_some, a0, bindV_some, cast_int, z5]
      have etxt : (PT.ref mu lv t).txt = pre ++ (if mu = true then [109, 117, 116, 32] else []) ++ t.txt := by rw [← ha]; rfl
      rw [etxt]
      cases mu with
      | false =>
        simp only [cond_false, bind2_some, need_some, a3, bindV_some, cast_slice, Bool.false_eq_true, if_false, List.append_nil]
        rw [hix, er', agg4]
        show ∃ h', (bind2 (f24 N M r' h1) _) = _ ∧ _
        rw [e', bind2_some, binAdd (by omega)]
        simp only [bindV_some, cast_str]
        exact ⟨_, rfl, c1.trans c'⟩
      | true =>
        simp only [cond_true, if_true]
        rw [binAdd (by simp only [List.length_cons, List.length_nil]; omega)]
        simp only [bindV_some, cast_str, bind2_some, need_some, a3, cast_slice]
        rw [hix, er', agg4]
        show ∃ h', (bind2 (f24 N M r' h1) _) = _ ∧ _
        rw [e', bind2_some, binAdd (by simp only [List.length_append, List.length_cons, List.length_nil]; omega)]
        simp only [bindV_some, cast_str]
        exact ⟨_, rfl, c1.trans c'⟩
end
end Go.Proofs.YtkcjphhjmlienaaGreatDoor.Qp

set_option linter.unusedVariables false
set_option linter.unusedSimpArgs false
open Go Go.Proofs.YtkcjphhjmlienaaGreatDoor.Ai Go.Proofs
namespace Go.Proofs.YtkcjphhjmlienaaGreatDoor.Qp
/-! the tokens of a type's text -/
abbrev KT := Int × Bs
def kt (q : Tok) : KT := (q.1, q.2.1)
/-- a text that begins with no blank is cut into these -/
def Lx (t : Bs) (ks : List KT) : Prop := ∀ (M a : Nat), t.length < M → ∃ l, lexG M t a = .inl l ∧ l.map kt = ks
def LxB (t : Bs) (ks : List KT) : Prop := Lx (t.drop (blankN false t)) ks
theorem Lx.nil : Lx [] [] := fun M a hM => by
  obtain ⟨M, rfl⟩ : ∃ m, M = m + 1 := ⟨M - 1, by omega⟩
  exact ⟨[], rfl, rfl⟩
theorem Lx.cons {t x : Bs} {k : Int} {n : Nat} {ks : List KT} (h : nextTok t = some (k, x, n)) (r : LxB (t.drop n) ks) : Lx t ((k, x) :: ks) := fun M a hM => by
  obtain ⟨M, rfl⟩ : ∃ m, M = m + 1 := ⟨M - 1, by omega⟩
  cases t with
  | nil => cases h
  | cons c q =>
    have hn := nextTok_some h
    obtain ⟨l, h1, h2⟩ := r M (a + (n + blankN false ((c :: q).drop n))) (by rw [List.length_drop, List.length_drop]; omega)
    rw [List.drop_drop] at h1
    refine ⟨(k, x, a) :: l, ?_, by simp [kt, h2]⟩
    simp only [lexG, h, h1]
/-- no blank begins here -/
def noB (t : Bs) : Prop := blankN false t = 0
theorem Lx.b {t : Bs} {ks : List KT} (h : noB t) (x : Lx t ks) : LxB t ks := by
  unfold LxB
  rw [show blankN false t = 0 from h, List.drop_zero]; exact x
theorem LxB.sp {t : Bs} {ks : List KT} (x : LxB t ks) : LxB (32 :: t) ks := by
  unfold LxB at x ⊢
  have : blankN false (32 :: t) = blankN false t + 1 := by simp [blankN, blankB]
  rw [this, List.drop_succ_cons]; exact x
theorem noB_cons {c : UInt8} {r : Bs} (h1 : blankB c = false) (h2 : c.toNat ≠ 47) : noB (c :: r) := by
  have : hasP [47, 47] (c :: r) = false := by
    cases e : hasP [47, 47] (c :: r) with
    | false => rfl
    | true => exact absurd (hasP_47 e).1 h2
  simp [noB, blankN, h1, this]
/-- what may stand behind a name: nothing that goes on with it -/
def brk (t : Bs) : Prop := headB goesB t = false
theorem runN_app : ∀ {x r : Bs}, (∀ c ∈ x, goesB c = true) → brk r → runN (x ++ r) = x.length
  | [], r, _, h => by
    cases r with
    | nil => rfl
    | cons c q => have : goesB c = false := h; simp [runN, this]
  | c :: x, r, hx, h => by
    have ih := runN_app (x := x) (r := r) (fun d hd => hx d (by simp [hd])) h
    simp [runN, hx c (by simp), ih]
theorem run_all : ∀ {x : Bs}, runN x = x.length → ∀ c ∈ x, goesB c = true
  | [], _, c, hc => by cases hc
  | d :: x, h, c, hc => by
    simp only [runN] at h
    split at h
    · rename_i hd
      rcases List.mem_cons.1 hc with rfl | hc
      · exact hd
      · exact run_all (by simpa using h) c hc
    · simp at h
theorem lifeB_parts {x : Bs} (h : lifeB x = true) : ∃ c q, x = c :: q ∧ letterB c = true ∧ (∀ c ∈ x, goesB c = true) ∧ x.length ≤ 32 := by
  simp only [lifeB, Bool.and_eq_true, decide_eq_true_eq] at h
  obtain ⟨⟨⟨h1, h2⟩, h3⟩, h4⟩ := h
  cases x with
  | nil => simp at h1
  | cons c q => exact ⟨c, q, rfl, h3, run_all h4, h2⟩
theorem letter_not {c : UInt8} (h : letterB c = true) : blankB c = false ∧ c.toNat ≠ 47 ∧ c.toNat ≠ 39 ∧ goesB c = true := by
  have hg : goesB c = true := by simp [goesB, h]
  simp only [letterB, Bool.or_eq_true, decide_eq_true_eq] at h
  refine ⟨?_, by omega, by omega, hg⟩
  simp only [blankB, Bool.or_eq_false_iff, decide_eq_false_iff_not]; omega
theorem next_word_app {x r : Bs} (hl : lifeB x = true) (hw : isWord x = true) (hb : brk r) : nextTok (x ++ r) = some (2, x, x.length) := by
  obtain ⟨c, q, rfl, h1, h2, h3⟩ := lifeB_parts hl
  have hr := runN_app h2 hb
  have ht : ((c :: q) ++ r).take (c :: q).length = c :: q := List.take_left' rfl
  simp only [List.cons_append] at hr ht ⊢
  simp only [nextTok, h1, if_true, wordTok, hr, ht, hw]
theorem next_name_app {x r : Bs} (hn : nameB x = true) (hb : brk r) : nextTok (x ++ r) = some (1, x, x.length) := by
  simp only [nameB, Bool.and_eq_true, Bool.not_eq_true'] at hn
  obtain ⟨hl, hw⟩ := hn
  obtain ⟨c, q, rfl, h1, h2, h3⟩ := lifeB_parts hl
  have hr := runN_app h2 hb
  have ht : ((c :: q) ++ r).take (c :: q).length = c :: q := List.take_left' rfl
  simp only [List.cons_append] at hr ht ⊢
  simp only [nextTok, h1, if_true, wordTok, hr, ht, hw, Bool.false_eq_true, if_false, h3]
theorem next_life_app {x r : Bs} (hl : lifeB x = true) (hb : brk r) : nextTok (39 :: (x ++ r)) = some (3, x, x.length + 1) := by
  obtain ⟨c, q, rfl, h1, h2, h3⟩ := lifeB_parts hl
  have hr := runN_app h2 hb
  have ht : ((c :: q) ++ r).take (c :: q).length = c :: q := List.take_left' rfl
  have hh : headB letterB ((c :: q) ++ r) = true := h1
  have l39 : letterB 39 = false := rfl
  have d39 : digitB 39 = false := rfl
  have e39 : (39 : UInt8).toNat = 39 := rfl
  simp only [nextTok, l39, d39, e39, Bool.false_eq_true, if_false, if_true, lifeTok, hr, ht, hh, h3]
theorem next_one {c : UInt8} (r : Bs) (hc : c = 38 ∨ c = 60 ∨ c = 62 ∨ c = 44) : nextTok (c :: r) = some (5, [c], 1) := by
  rcases hc with rfl | rfl | rfl | rfl <;>
  · rw [nextTok, if_neg (by decide), if_neg (by decide), if_neg (by decide)]
    simp only [signTok, two, findP, hasP, List.length_cons, List.length_nil]
    cases r <;> simp [eqBytes, memB, oneL] <;> rfl
theorem next_colons (r : Bs) : nextTok (58 :: 58 :: r) = some (5, [58, 58], 2) := by
  rw [nextTok, if_neg (by decide), if_neg (by decide), if_neg (by decide)]
  simp [signTok, two, findP, hasP, eqBytes]
def nameK (nm : Bs) : List KT → Prop := fun ks => (nameB nm = true ∧ ks = [(1, nm)]) ∨ ∃ a b, nm = a ++ [58, 58] ++ b ∧ nameB a = true ∧ nameB b = true ∧ ks = [(1, a), (5, [58, 58]), (1, b)]
def marksBK : List Bs → List KT
  | [] => []
  | x :: r => (5, [44]) :: (3, x) :: marksBK r
def marksK : List Bs → List KT
  | [] => []
  | x :: r => (5, [60]) :: (3, x) :: (marksBK r ++ [(5, [62])])
theorem brk_of {c : UInt8} {r : Bs} (h : goesB c = false) : brk (c :: r) := h
theorem LxB.one {c : UInt8} {r : Bs} {ks : List KT} (hc : c = 38 ∨ c = 60 ∨ c = 62 ∨ c = 44) (x : LxB r ks) : Lx (c :: r) ((5, [c]) :: ks) := Lx.cons (next_one r hc) x
theorem drop_app (x r : Bs) : (x ++ r).drop x.length = r := List.drop_left' rfl
theorem LxB.life {x r : Bs} {ks : List KT} (hl : lifeB x = true) (hb : brk r) (q : LxB r ks) : Lx (39 :: (x ++ r)) ((3, x) :: ks) := by
  refine Lx.cons (next_life_app hl hb) ?_
  rw [List.drop_succ_cons, drop_app]; exact q
theorem LxB.name {x r : Bs} {ks : List KT} (hl : nameB x = true) (hb : brk r) (q : LxB r ks) : Lx (x ++ r) ((1, x) :: ks) := by
  refine Lx.cons (next_name_app hl hb) ?_
  rw [drop_app]; exact q
theorem LxB.word {x r : Bs} {ks : List KT} (hl : lifeB x = true) (hw : isWord x = true) (hb : brk r) (q : LxB r ks) : Lx (x ++ r) ((2, x) :: ks) := by
  refine Lx.cons (next_word_app hl hw hb) ?_
  rw [drop_app]; exact q
theorem noB_q (r : Bs) : noB (39 :: r) := noB_cons (by rfl) (by decide)
theorem noB_s {c : UInt8} (r : Bs) (hc : c = 38 ∨ c = 60 ∨ c = 62 ∨ c = 44) : noB (c :: r) := by
  rcases hc with rfl | rfl | rfl | rfl <;> exact noB_cons (by rfl) (by decide)
theorem noB_life {x r : Bs} (h : lifeB x = true) : noB (x ++ r) := by
  obtain ⟨c, q, rfl, h1, _⟩ := lifeB_parts h
  obtain ⟨l1, l2, _⟩ := letter_not h1
  exact noB_cons l1 l2
theorem lx_marksB : ∀ {lv : List Bs} {r : Bs} {ks : List KT}, (∀ y ∈ lv, lifeB y = true) → brk r → LxB r ks → LxB (marksB lv ++ r) (marksBK lv ++ ks) ∧ brk (marksB lv ++ r)
  | [], r, ks, _, hb, h => ⟨h, hb⟩
  | x :: l, r, ks, hl, hb, h => by
    obtain ⟨ih, ihb⟩ := lx_marksB (lv := l) (fun y hy => hl y (by simp [hy])) hb h
    have e : marksB (x :: l) ++ r = 44 :: 32 :: 39 :: (x ++ (marksB l ++ r)) := by simp [marksB]
    rw [e]
    refine ⟨Lx.b (noB_s _ (by simp)) (LxB.one (by simp) (LxB.sp (Lx.b (noB_q _) (LxB.life (hl x (by simp)) ihb ih)))), rfl⟩
theorem lx_marks {lv : List Bs} {r : Bs} {ks : List KT} (hl : ∀ y ∈ lv, lifeB y = true) (hb : brk r) (h : LxB r ks) : LxB (marksT lv ++ r) (marksK lv ++ ks) ∧ brk (marksT lv ++ r) := by
  cases lv with
  | nil => exact ⟨h, hb⟩
  | cons x l =>
    have h1 : LxB (62 :: r) ((5, [62]) :: ks) := Lx.b (noB_s _ (by simp)) (LxB.one (by simp) h)
    obtain ⟨h2, h3⟩ := lx_marksB (lv := l) (r := 62 :: r) (fun y hy => hl y (by simp [hy])) rfl h1
    have e : marksT (x :: l) ++ r = 60 :: 39 :: (x ++ (marksB l ++ (62 :: r))) := by simp [marksT]
    have e2 : marksK (x :: l) ++ ks = (5, [60]) :: (3, x) :: (marksBK l ++ ((5, [62]) :: ks)) := by simp [marksK]
    rw [e, e2]
    exact ⟨Lx.b (noB_s _ (by simp)) (LxB.one (by simp) (Lx.b (noB_q _) (LxB.life (hl x (by simp)) h3 h2))), rfl⟩
theorem nameB_life {x : Bs} (h : nameB x = true) : lifeB x = true := by
  simp only [nameB, Bool.and_eq_true] at h; exact h.1
theorem lx_long {nm r : Bs} {ks : List KT} (hl : longP nm) (hb : brk r) (h : LxB r ks) : ∃ ns, nameK nm ns ∧ Lx (nm ++ r) (ns ++ ks) ∧ noB (nm ++ r) := by
  rcases hl with hl | ⟨a, b, rfl, ha, hb'⟩
  · exact ⟨_, .inl ⟨hl, rfl⟩, LxB.name hl hb h, noB_life (nameB_life hl)⟩
  · refine ⟨_, .inr ⟨a, b, rfl, ha, hb', rfl⟩, ?_, ?_⟩
    · have e : a ++ [58, 58] ++ b ++ r = a ++ (58 :: 58 :: (b ++ r)) := by simp
      rw [e]
      refine LxB.name ha rfl (Lx.b (noB_cons (by rfl) (by decide)) (Lx.cons (next_colons _) ?_))
      exact Lx.b (noB_life (nameB_life hb')) (LxB.name hb' hb h)
    · have e : a ++ [58, 58] ++ b ++ r = a ++ (58 :: 58 :: (b ++ r)) := by simp
      rw [e]; exact noB_life (nameB_life ha)
def lifeT : List Bs → Bs
  | [] => []
  | x :: _ => 39 :: (x ++ [32])
def lifeK : List Bs → List KT
  | [] => []
  | x :: _ => [(3, x)]
def mutT (mu : Bool) : Bs := if mu = true then [109, 117, 116, 32] else []
def mutK (mu : Bool) : List KT := if mu = true then [(2, [109, 117, 116])] else []
theorem txt_ref (mu : Bool) (lv : List Bs) (t : PT) : (PT.ref mu lv t).txt = 38 :: (lifeT lv ++ (mutT mu ++ t.txt)) := by
  cases lv <;> simp [PT.txt, lifeT, mutT]
/-- the tokens of a type -/
def ptK : PT → List KT → Prop
  | .int, ks => ks = [(2, [105, 110, 116])]
  | .bool, ks => ks = [(2, [98, 111, 111, 108])]
  | .st nm lv, ks => ∃ ns, nameK nm ns ∧ ks = ns ++ marksK lv
  | .ref mu lv t, ks => ∃ qs, ptK t qs ∧ ks = (5, [38]) :: (lifeK lv ++ (mutK mu ++ qs))
theorem lx_pt : ∀ {g : Nat} {p : PT} {r : Bs} {ks : List KT}, p.ok g → brk r → LxB r ks → ∃ ps, ptK p ps ∧ Lx (p.txt ++ r) (ps ++ ks) ∧ noB (p.txt ++ r)
  | 0, p, r, ks, hp, _, _ => by cases p <;> cases hp
  | g + 1, .int, r, ks, _, hb, h => ⟨[(2, [105, 110, 116])], rfl, LxB.word (x := [105, 110, 116]) (by decide) (by decide) hb h, noB_life (x := [105, 110, 116]) (by decide)⟩
  | g + 1, .bool, r, ks, _, hb, h => ⟨[(2, [98, 111, 111, 108])], rfl, LxB.word (x := [98, 111, 111, 108]) (by decide) (by decide) hb h, noB_life (x := [98, 111, 111, 108]) (by decide)⟩
  | g + 1, .st nm lv, r, ks, ⟨h1, h2, h3⟩, hb, h => by
    obtain ⟨m1, m2⟩ := lx_marks h3 hb h
    obtain ⟨ns, n1, n2, n3⟩ := lx_long h1 m2 m1
    refine ⟨_, ⟨ns, n1, rfl⟩, ?_, ?_⟩
    · simp only [PT.txt, List.append_assoc]; exact n2
    · simp only [PT.txt, List.append_assoc]; exact n3
  | g + 1, .ref mu lv t, r, ks, ⟨h1, h2, h3⟩, hb, h => by
    obtain ⟨ps, p1, p2, p3⟩ := lx_pt h3 hb h
    refine ⟨_, ⟨ps, p1, rfl⟩, ?_, ?_⟩
    · have b1 := Lx.b p3 p2
      have b2 : LxB (mutT mu ++ (t.txt ++ r)) (mutK mu ++ (ps ++ ks)) := by
        cases mu with
        | false => exact b1
        | true =>
          have e : mutT true ++ (t.txt ++ r) = [109, 117, 116] ++ (32 :: (t.txt ++ r)) := rfl
          rw [e]
          exact Lx.b (noB_life (x := [109, 117, 116]) (by decide)) (LxB.word (x := [109, 117, 116]) (by decide) (by decide) (brk_of (c := 32) rfl) (LxB.sp b1))
      have b3 : LxB (lifeT lv ++ (mutT mu ++ (t.txt ++ r))) (lifeK lv ++ (mutK mu ++ (ps ++ ks))) := by
        cases lv with
        | nil => exact b2
        | cons x q =>
          have e : lifeT (x :: q) ++ (mutT mu ++ (t.txt ++ r)) = 39 :: (x ++ (32 :: (mutT mu ++ (t.txt ++ r)))) := by simp [lifeT]
          rw [e]
          exact Lx.b (noB_q _) (LxB.life (h2 x (by simp)) (brk_of (c := 32) rfl) (LxB.sp b2))
      have b4 := LxB.one (c := 38) (by simp) b3
      rw [txt_ref]
      simpa only [List.append_assoc, List.cons_append] using b4
    · rw [txt_ref]; exact noB_s _ (by simp)
end Go.Proofs.YtkcjphhjmlienaaGreatDoor.Qp

set_option linter.unusedVariables false
set_option linter.unusedSimpArgs false
open Go Go.Proofs.YtkcjphhjmlienaaGreatDoor.Ai Go.Proofs
namespace Go.Proofs.YtkcjphhjmlienaaGreatDoor.Qp
/-! the tokens of a type are read as that type -/
def Mt (T : List Tok) (i : Nat) (ks : List KT) : Prop := ∀ j k, ks[j]? = some k → kt (tk T (i + j)) = k
section
variable {T : List Tok}
theorem Mt.cons {i : Nat} {k : KT} {r : List KT} (h : Mt T i (k :: r)) : kt (tk T i) = k ∧ Mt T (i + 1) r :=
  ⟨h 0 k rfl, fun j q hq => by have := h (j + 1) q (by simpa using hq); rw [show i + 1 + j = i + (j + 1) by omega]; exact this⟩
theorem Mt.app {i : Nat} {a b : List KT} (h : Mt T i (a ++ b)) : Mt T i a ∧ Mt T (i + a.length) b :=
  ⟨fun j k hj => h j k (by rw [List.getElem?_append_left (List.getElem?_eq_some_iff.1 hj).1]; exact hj),
   fun j k hj => by
    have := h (a.length + j) k (by rw [List.getElem?_append_right (by omega)]; simpa using hj)
    rw [show i + a.length + j = i + (a.length + j) by omega]; exact this⟩
theorem isS_of {i : Nat} {k : Int} {x : Bs} (h : kt (tk T i) = (k, x)) (w : Bs) : isS T w i = (decide (k = 2 ∨ k = 5) && eqBytes x w) := by
  have h1 : (tk T i).1 = k := congrArg Prod.fst h
  have h2 : (tk T i).2.1 = x := congrArg Prod.snd h
  simp only [isS, h1, h2]
theorem opt_yes {i : Nat} {k : Int} {x : Bs} (h : kt (tk T i) = (k, x)) (hk : k = 2 ∨ k = 5) : optS T x (i, none) = (true, (i + 1, none)) := by
  simp only [optS, isS_of h, eqB.2, Bool.and_true, decide_eq_true_eq, if_pos hk]
theorem opt_no {i : Nat} {k : Int} {x w : Bs} (h : kt (tk T i) = (k, x)) (hk : (decide (k = 2 ∨ k = 5) && eqBytes x w) = false) : optS T w (i, none) = (false, (i, none)) := by
  have : isS T w i = false := by rw [isS_of h]; exact hk
  simp only [optS, this, Bool.false_eq_true, if_false]
theorem opt_no' {i : Nat} {w : Bs} (h : isS T w i = false) : optS T w (i, none) = (false, (i, none)) := by
  simp only [optS, h, Bool.false_eq_true, if_false]
theorem text_yes {i : Nat} {k : Int} {x : Bs} (h : kt (tk T i) = (k, x)) : textS T k (i, none) = (x, (i + 1, none)) := by
  have h1 : (tk T i).1 = k := congrArg Prod.fst h
  have h2 : (tk T i).2.1 = x := congrArg Prod.snd h
  simp only [textS, h1, h2, if_true]
theorem lives_mt : ∀ (l : List Bs) (x : Bs) (G i : Nat), l.length < G → Mt T i ((3, x) :: (marksBK l ++ [(5, [62])])) → livesS T G (i, none) = (x :: l, (i + 1 + 2 * l.length, none)) ∧ kt (tk T (i + 1 + 2 * l.length)) = (5, [62])
  | [], x, G, i, hG, h => by
    obtain ⟨G, rfl⟩ : ∃ m, G = m + 1 := ⟨G - 1, by simp at hG; omega⟩
    obtain ⟨h1, h2⟩ := h.cons
    obtain ⟨h3, _⟩ := h2.cons
    refine ⟨?_, h3⟩
    simp only [livesS, text_yes h1, opt_no h3 (w := [44]) (by decide), Bool.false_eq_true, if_false]
    rfl
  | y :: l, x, G, i, hG, h => by
    obtain ⟨G, rfl⟩ : ∃ m, G = m + 1 := ⟨G - 1, by simp at hG; omega⟩
    obtain ⟨h1, h2⟩ := h.cons
    have h2 : Mt T (i + 1) ((5, [44]) :: ((3, y) :: (marksBK l ++ [(5, [62])]))) := h2
    obtain ⟨h3, h4⟩ := h2.cons
    obtain ⟨e1, e2⟩ := lives_mt l y G (i + 1 + 1) (by simpa using hG) h4
    rw [show i + 1 + 2 * (y :: l).length = i + 1 + 1 + 1 + 2 * l.length by simp only [List.length_cons]; omega]
    refine ⟨?_, e2⟩
    simp only [livesS, text_yes h1, opt_yes h3 (.inr rfl), if_true, e1]
def stop (T : List Tok) (j : Nat) : Prop := isS T [58, 58] j = false ∧ isS T [60] j = false
theorem marksBK_len : ∀ l : List Bs, (marksBK l).length = 2 * l.length
  | [] => rfl
  | x :: l => by simp only [marksBK, List.length_cons, marksBK_len l]; omega
theorem lifes_mt {lv : List Bs} {i : Nat} (hl : lv.length ≤ 64) (h : Mt T i (marksK lv)) (hs : stop T (i + (marksK lv).length)) : lifesS T (i, none) = (lv, (i + (marksK lv).length, none)) ∧ isS T [58, 58] i = false := by
  cases lv with
  | nil =>
    refine ⟨?_, hs.1⟩
    simp only [lifesS, opt_no' (T := T) (i := i) (w := [60]) hs.2, Bool.false_eq_true, if_false]
    rfl
  | cons x l =>
    have h : Mt T i ((5, [60]) :: ((3, x) :: (marksBK l ++ [(5, [62])]))) := h
    obtain ⟨h1, h2⟩ := h.cons
    obtain ⟨e1, e2⟩ := lives_mt l x 64 (i + 1) (by simp only [List.length_cons] at hl; omega) h2
    refine ⟨?_, by rw [isS_of h1]; rfl⟩
    have hlen : (marksK (x :: l)).length = 2 * l.length + 3 := by simp only [marksK, List.length_cons, List.length_append, marksBK_len, List.length_nil]
    simp only [lifesS, opt_yes h1 (.inr rfl), if_true, e1, wantS, opt_yes e2 (.inr rfl)]
    rw [hlen]
    simp only [Prod.mk.injEq, true_and, and_true]
    omega
theorem name_mt {nm : Bs} {ns : List KT} {i : Nat} (hn : nameK nm ns) (h : Mt T i ns) (hs : isS T [58, 58] (i + ns.length) = false) : nameS T (i, none) = (nm, (i + ns.length, none)) := by
  rcases hn with ⟨_, rfl⟩ | ⟨a, b, rfl, _, _, rfl⟩
  · obtain ⟨h1, _⟩ := h.cons
    simp only [nameS, text_yes h1]
    have : isS T [58, 58] (i + 1) = false := hs
    simp only [opt_no' this, Bool.false_eq_true, if_false]
    rfl
  · obtain ⟨h1, h2⟩ := h.cons
    obtain ⟨h3, h4⟩ := h2.cons
    obtain ⟨h5, _⟩ := h4.cons
    simp only [nameS, text_yes h1, opt_yes h3 (.inr rfl), if_true, text_yes h5]
    rfl
theorem nameK_first {nm : Bs} {ns r : List KT} {i : Nat} (hn : nameK nm ns) (h : Mt T i (ns ++ r)) : ∃ x, kt (tk T i) = (1, x) := by
  rcases hn with ⟨_, rfl⟩ | ⟨a, b, rfl, _, _, rfl⟩
  · exact ⟨_, h.cons.1⟩
  · exact ⟨_, h.cons.1⟩
theorem typ_mt : ∀ (g : Nat) (p : PT) (ks : List KT) (i G : Nat), p.ok g → g ≤ G → ptK p ks → Mt T i ks → stop T (i + ks.length) → typS T G (i, none) = (p.D, (i + ks.length, none))
  | 0, p, ks, i, G, hp, _, _, _, _ => by cases p <;> cases hp
  | g + 1, .int, ks, i, G, _, hG, hk, h, hs => by
    obtain ⟨G, rfl⟩ : ∃ m, G = m + 1 := ⟨G - 1, by omega⟩
    have hk : ks = [(2, [105, 110, 116])] := hk
    subst hk
    obtain ⟨h1, _⟩ := h.cons
    simp only [typS, opt_yes h1 (.inl rfl), if_true]
    rfl
  | g + 1, .bool, ks, i, G, _, hG, hk, h, hs => by
    obtain ⟨G, rfl⟩ : ∃ m, G = m + 1 := ⟨G - 1, by omega⟩
    have hk : ks = [(2, [98, 111, 111, 108])] := hk
    subst hk
    obtain ⟨h1, _⟩ := h.cons
    simp only [typS, opt_no h1 (w := [105, 110, 116]) (by decide), Bool.false_eq_true, if_false, opt_yes h1 (.inl rfl), if_true]
    rfl
  | g + 1, .st nm lv, ks, i, G, ⟨p1, p2, p3⟩, hG, hk, h, hs => by
    obtain ⟨G, rfl⟩ : ∃ m, G = m + 1 := ⟨G - 1, by omega⟩
    obtain ⟨ns, n1, rfl⟩ := hk
    obtain ⟨x, h1⟩ := nameK_first n1 h
    obtain ⟨h2, h3⟩ := h.app
    rw [List.length_append, ← Nat.add_assoc] at hs ⊢
    obtain ⟨e1, e2⟩ := lifes_mt p2 h3 hs
    have e3 := name_mt n1 h2 e2
    simp only [typS, opt_no h1 (w := [105, 110, 116]) rfl, opt_no h1 (w := [98, 111, 111, 108]) rfl, opt_no h1 (w := [38]) rfl, Bool.false_eq_true, if_false, e3, e1]
    rfl
  | g + 1, .ref mu lv t, ks, i, G, ⟨p1, p2, p3⟩, hG, hk, h, hs => by
    obtain ⟨G, rfl⟩ : ∃ m, G = m + 1 := ⟨G - 1, by omega⟩
    obtain ⟨qs, q1, rfl⟩ := hk
    obtain ⟨h1, h2⟩ := h.cons
    obtain ⟨h3, h4⟩ := h2.app
    obtain ⟨h5, h6⟩ := h4.app
    -- the first token of what is referred to
    have hq : ∃ k x, kt (tk T (i + 1 + (lifeK lv).length + (mutK mu).length)) = (k, x) ∧ k ≠ 3 ∧ (decide (k = 2 ∨ k = 5) && eqBytes x [109, 117, 116]) = false := by
      cases t with
      | int => have q1 : qs = _ := q1; subst q1; exact ⟨_, _, h6.cons.1, by decide, by decide⟩
      | bool => have q1 : qs = _ := q1; subst q1; exact ⟨_, _, h6.cons.1, by decide, by decide⟩
      | st nm l2 =>
        obtain ⟨ns, n1, rfl⟩ := q1
        obtain ⟨x, hx⟩ := nameK_first n1 h6
        exact ⟨_, _, hx, by decide, rfl⟩
      | ref m2 l2 t2 =>
        obtain ⟨qs2, _, rfl⟩ := q1
        exact ⟨_, _, h6.cons.1, by decide, by decide⟩
    obtain ⟨k, x, hq1, hq2, hq3⟩ := hq
    have em : optS T [109, 117, 116] (i + 1 + (lifeK lv).length, none) = (mu, (i + 1 + (lifeK lv).length + (mutK mu).length, none)) := by
      cases mu with
      | false => exact opt_no hq1 hq3
      | true => exact opt_yes (h5.cons.1) (.inl rfl)
    have hm3 : (tk T (i + 1 + (lifeK lv).length)).1 ≠ 3 := by
      cases mu with
      | false => have : (tk T (i + 1 + (lifeK lv).length)).1 = k := congrArg Prod.fst hq1; rw [this]; exact hq2
      | true => have : (tk T (i + 1 + (lifeK lv).length)).1 = 2 := congrArg Prod.fst (h5.cons.1); rw [this]; decide
    have el : lifeS T (i + 1, none) = (lv, (i + 1 + (lifeK lv).length, none)) := by
      cases lv with
      | nil =>
        have hm4 : ¬ (tk T (i + 1, (none : Er)).1).1 = 3 := hm3
        unfold lifeS
        rw [if_neg hm4]; rfl
      | cons y l =>
        have hl0 : l = [] := by
          have := p1
          simp only [List.length_cons] at this
          exact List.length_eq_zero_iff.1 (by omega)
        subst hl0
        have h3 : Mt T (i + 1) [(3, y)] := h3
        have hy := h3.cons.1
        unfold lifeS
        have : (tk T (i + 1, (none : Er)).1).1 = 3 := congrArg Prod.fst hy
        rw [if_pos this, text_yes hy]; rfl
    have hlen : i + ((5, [38]) :: (lifeK lv ++ (mutK mu ++ qs))).length = i + 1 + (lifeK lv).length + (mutK mu).length + qs.length := by
      simp only [List.length_cons, List.length_append]; omega
    rw [hlen] at hs ⊢
    have ih := typ_mt g t qs _ G p3 (by omega) q1 h6 hs
    simp only [typS, opt_no h1 (w := [105, 110, 116]) (by decide), opt_no h1 (w := [98, 111, 111, 108]) (by decide), Bool.false_eq_true, if_false, opt_yes h1 (.inr rfl), if_true, el, em, ih]
    rfl
end
theorem tk_map {T : List Tok} {ks : List KT} (h : T.map kt = ks) {j : Nat} {k : KT} (hj : ks[j]? = some k) : kt (tk T j) = k := by
  subst h
  rw [List.getElem?_map] at hj
  cases ht : T[j]? with
  | none => rw [ht] at hj; cases hj
  | some q =>
    rw [ht] at hj
    simp only [Option.map_some, Option.some.injEq] at hj
    have : tk T j = q := by
      unfold tk
      rw [List.getD_eq_getElem?_getD, ht]; rfl
    rw [this]; exact hj
theorem typeS_txt {N g : Nat} {p : PT} (hp : p.ok g) (hg : g ≤ 64) (hN : p.txt.length < N) : typeS N p.txt = (p.D, none) := by
  have hb0 : LxB [] [] := Lx.nil
  obtain ⟨ps, h1, h2, h3⟩ := lx_pt (r := []) hp rfl hb0
  rw [List.append_nil, List.append_nil] at h2
  rw [List.append_nil] at h3
  obtain ⟨l, e1, e2⟩ := h2 N 0 hN
  have eT : lexT N p.txt = .inl (l ++ [(0, [], p.txt.length)]) := by
    unfold lexT
    rw [show blankN false p.txt = 0 from h3, List.drop_zero, e1]
  have em : (l ++ [(0, [], p.txt.length)] : List Tok).map kt = ps ++ [(0, [])] := by rw [List.map_append, e2]; rfl
  have hl : l.length = ps.length := by rw [← e2, List.length_map]
  have hmt : Mt (l ++ [(0, [], p.txt.length)]) 0 ps := fun j k hj => by
    rw [Nat.zero_add]
    exact tk_map em (by rw [List.getElem?_append_left (List.getElem?_eq_some_iff.1 hj).1]; exact hj)
  have hend : kt (tk (l ++ [(0, [], p.txt.length)]) ps.length) = (0, []) := tk_map em (by rw [List.getElem?_append_right (Nat.le_refl _)]; simp)
  have hs : stop (l ++ [(0, [], p.txt.length)]) (0 + ps.length) := by
    rw [Nat.zero_add]
    exact ⟨by rw [isS_of hend]; rfl, by rw [isS_of hend]; rfl⟩
  have ht := typ_mt g p ps 0 64 hp hg h1 hmt hs
  unfold typeS
  rw [eT]
  simp only [ht]
  have hk : (tk (l ++ [(0, [], p.txt.length)]) (0 + ps.length)).1 = 0 := by rw [Nat.zero_add]; exact congrArg Prod.fst hend
  simp only [hk, if_true]
end Go.Proofs.YtkcjphhjmlienaaGreatDoor.Qp

set_option maxRecDepth 100000
open Go Go.Proofs.YtkcjphhjmlienaaGreatDoor.Ai Go.Proofs
open Go.ChangeShapes Go.WideShapes
namespace Go.Proofs.YtkcjphhjmlienaaGreatDoor.Qp
open Go.Proofs.YtkcjphhjmlienaaGreatDoor
/-! what the row lists gives the call's heap -/
theorem et : Tryz.prog.globalNamed "errors.errorType" = some 1 := by kernel_rfl
theorem rt : (Tryz.prog.cutTypes.find? (·.1 == "internal/reflectlite.rtype")).map (·.2) = some 232 := by kernel_rfl
theorem oneRow : ((List.range 306).filter fun t => Tryz.prog.rowNamed t [101, 114, 114, 111, 114]) = [29] := by kernel_rfl
theorem tsize : Tryz.prog.types.size = 306 := by kernel_rfl
theorem hand : typeHandle Tryz.prog 29 = .pointer (some ⟨7, 29, none⟩) := by kernel_rfl
theorem var_of {W : World} (h : laidMetH Tryz.prog Rows.parseTypesRow.laid W) : W.var? Tryz.prog "errors.errorType" = some #[.iface 232 (.agg #[.pointer (some ⟨7, 29, none⟩)])] := by
  have h' : laidMet Tryz.prog (Rows.parseTypesRow.laid.filter fun x => x.2.handleName?.isNone) W ∧ handlesMet Tryz.prog [("errors.errorType", Rows.laid_errors_errorType)] W := h
  have h2 := h'.2 _ (List.mem_singleton.2 rfl)
  obtain ⟨name, u, ty, e1, e2, e3, e4, e5⟩ := h2
  have en : name = [101, 114, 114, 111, 114] := (Option.some.inj e1).symm
  subst en
  obtain rfl := Option.some.inj (rt.symm.trans e2)
  have hm : ty ∈ (List.range 306).filter fun t => Tryz.prog.rowNamed t [101, 114, 114, 111, 114] := List.mem_filter.2 ⟨List.mem_range.2 (by rw [← tsize]; exact e3), e4⟩
  rw [oneRow] at hm
  obtain rfl := List.mem_singleton.1 hm
  rw [hand] at e5
  exact e5
theorem big : 7 < (begin Tryz.prog (fun _ _ => 0) default).world.heap.size := by
  have : Nat.blt 7 (begin Tryz.prog (fun _ _ => 0) default).world.heap.size = true := by kernel_rfl
  simpa [Nat.blt_eq] using this
theorem gsize : Tryz.prog.globals.size = 7 := by kernel_rfl
theorem start_hr {W : World} (h : laidMetH Tryz.prog Rows.parseTypesRow.laid W) (hs : W.ShapedOpen Tryz.prog) : HR Qx.mu0 Qx.h0 W := by
  have hv := var_of h
  have hc : W.cell? ⟨1, 0, none⟩ = some (.iface 232 (.agg #[.pointer (some ⟨7, 29, none⟩)])) := by simpa using World.var?_cell et hv 0
  obtain ⟨o, _, ho, _⟩ := hs.2 7 (by rw [gsize]; omega) big
  have h7 : 7 < W.heap.size := (Array.getElem?_eq_some_iff.1 ho).1
  unfold World.var? at hv
  rw [et] at hv
  have hv : (match W.heap[1]? with | some (Obj.cells cs _ _) => some cs | _ => (Option.none : Option (Array Value))) = some #[Value.iface 232 (.agg #[.pointer (some ⟨7, 29, none⟩)])] := hv
  cases hq : W.heap[1]? with
  | none => rw [hq] at hv; cases hv
  | some o =>
    rw [hq] at hv
    cases o with
    | cells cs e fz =>
      simp only [Option.some.injEq] at hv
      subst hv
      exact Qx.hr0_of h7 (e := e) (by simp only [World.shape?, hq]; rfl) hc
    | _ => cases hv
theorem start_pinned {h : Heap} (hl : HLe Qx.h0 h) : Qx.pinned h = true ∧ 2 ≤ h.next := by
  refine ⟨?_, hl.next⟩
  have h1 : Qx.pinned Qx.h0 = true := by kernel_rfl
  have e : h.t.get 0 = Qx.h0.t.get 0 := (hl.get 0 _ Tr.get_set_same).trans Tr.get_set_same.symm
  unfold Qx.pinned at h1 ⊢
  rw [hl.pins, e]; exact h1
end Go.Proofs.YtkcjphhjmlienaaGreatDoor.Qp

set_option linter.unusedVariables false
set_option linter.unusedSimpArgs false
open Go Go.Proofs.YtkcjphhjmlienaaGreatDoor.Ai Go.Proofs
namespace Go.Proofs.YtkcjphhjmlienaaGreatDoor.Qp
open Go.ChangeShapes Go.WideShapes
/-! the law ParseBack -/
theorem dB_ty : dB Tryz.prog [41, 3, 9, 38, 39] = true := by kernel_rfl
open Classical in
noncomputable def bigN (r : TyV) (h : Heap) : Nat := if hx : ∃ y, Wt Tryz.prog y 41 ∧ Dt h (fun _ => True) y (tyc r) then wtD (Classical.choose hx) + 10000 else 0
theorem f5_big : FnOK Tryz.prog 5 [(.agg [(.int .i64), .str, .slice, .slice])] (.val (.one .bool)) (fun x h => f5 (bigN x.1 h) x.1 h) := fun xs h r h' hx => f5_ok (bigN xs.1 h) xs h r h' hx
theorem f5_eq {N : Nat} {h : Heap} (hp : Qx.pinned h = true) (h2 : 2 ≤ h.next) {r : TyV} {y : D} (hN : wtD y + 10000 ≤ N) (hy : Wt Tryz.prog y 41) (hd : Dt h (fun _ => True) y (tyc r)) : ∃ h', f5 N r h = some (true, h') := by
  unfold f5
  have o1 := own_push h (tyc r)
  have c1 := chg_push h (.row (tyc r) .own)
  have g1 : h.push (.row [(.int .i64 r.1), (.str r.2.1), (.slice r.2.2.1.a r.2.2.1.len r.2.2.1.cap r.2.2.1.sz), (.slice r.2.2.2.1.a r.2.2.2.1.len r.2.2.2.1.cap r.2.2.2.1.sz)] .own) = h.push (.row (tyc r) .own) := rfl
  rw [g1]
  generalize h.push (.row (tyc r) .own) = h1 at *
  dsimp only
  rw [cells4 o1]
  have d1 := hd.chg c1 (by simp)
  obtain ⟨b, h4, e4, c4, p4⟩ := f21_eq (N := N) (by omega) 61 N h1 r y _ (by omega) (by omega) (by omega) hy d1
  rw [show ((65 - 61 : Nat) : Int) = 4 from rfl] at e4
  show ∃ h', (bind2 (f21 N N r 4 h1) _) = _
  rw [e4, bind2_some]
  have c14 := c1.trans c4
  cases b with
  | false =>
    simp only [Bool.not_false, cond_true]
    rw [f22_eq (pinned_chg c14 h2 hp), bind2_some]
    exact ⟨_, rfl⟩
  | true =>
    simp only [Bool.not_true, cond_false]
    obtain ⟨p, rfl, hok⟩ := p4 rfl
    have o4 := o1.chg c4 (by simp)
    rw [cells4 o4]
    have d4 := d1.chg c4 (by simp)
    obtain ⟨h10, e10, c10⟩ := f24_eq (N := N) (by omega) 61 N h4 r p _ (by omega) (by omega) hok d4
    show ∃ h', (bind2 (f24 N N r h4) _) = _
    rw [e10, bind2_some]
    have hl := txt_len hok
    obtain ⟨r11, h12, e12, c12, d12, k12⟩ := f23_eq (N := N) (s := p.txt) (by omega) (by omega) (by omega) h10
    rw [e12, bind2_some]
    rw [typeS_txt hok (by omega) (by omega)] at d12 k12
    have oB0 := own_push h12 zt
    have cB0 := chg_push h12 (.row zt .own)
    have eB : h12.push (.row [(.int .i64 0), (.str []), (.slice none 0 0 0), (.slice none 0 0 0)] .own) = h12.push (.row zt .own) := rfl
    have hstB := store4 oB0 r11.1
    rw [eB, hstB, need_some]
    have oB := own_put oB0 (tyc r11.1)
    have cB : Chg [] h12 ((h12.push (.row zt .own)).put h12.next (.row (tyc r11.1) .own)) := cB0.put (.inr (Nat.le_refl _)) _
    generalize (h12.push (.row zt .own)).put h12.next (.row (tyc r11.1) .own) = h14 at *
    have c414 := (c10.trans c12).trans cB
    rw [f22_eq (pinned_chg (c14.trans c414) h2 hp), bind2_some]
    simp only [cond_true]
    rw [show r11.2.1 = AV.nilIface from k12, eq_nil]
    simp only [bindV_some, cast_bool, cond_true]
    rw [cells4 (o4.chg c414 (by simp)), cells4 oB]
    obtain ⟨h21, e21, c21⟩ := f25_eq (N := N) (by omega) 61 N p.D r r11.1 h14 _ _ (by omega) (pt_wt hok) (d4.chg c414 (by simp)) (d12.chg cB (by simp))
    show ∃ h', (bind2 (f25 N N r r11.1 h14) _) = _
    rw [e21, bind2_some]
    exact ⟨_, rfl⟩
theorem backlaw_true {H : Type} (h : Heap) (hp : Qx.pinned h = true) (h2 : 2 ≤ h.next) (vs : List AV) (ds : List (DataW H)) (hr : RdArgs Tryz.prog h [41] vs ds) : ∃ xs h', VTy.tos [(.agg [(.int .i64), .str, .slice, .slice])] xs = vs ∧ (fun (x : vdens [(.agg [(.int .i64), .str, .slice, .slice])]) h => f5 (bigN x.1 h) x.1 h) xs h = some (true, h') := by
  obtain ⟨cs1, d1, vs1, ds1, rfl, rfl, r1, hr⟩ := hr.cons_inv
  obtain ⟨rfl, rfl⟩ := hr.nil_inv
  obtain ⟨y, y1, y2, _, _⟩ := rd_dt dB_ty r1 (by simp)
  obtain ⟨k, nm, lv, el, rfl, _⟩ := ty_shape y1
  obtain ⟨s1, s2, hc, _⟩ := dt_ty.1 y2
  subst hc
  have hx : ∃ y, Wt Tryz.prog y 41 ∧ Dt h (fun _ => True) y (tyc (k, nm, s1, s2, ())) := ⟨_, y1, y2⟩
  obtain ⟨z1, z2⟩ := Classical.choose_spec hx
  have hb : bigN (k, nm, s1, s2, ()) h = wtD (Classical.choose hx) + 10000 := by unfold bigN; rw [dif_pos hx]
  obtain ⟨h', e⟩ := f5_eq (N := bigN (k, nm, s1, s2, ()) h) hp h2 (by rw [hb]; exact Nat.le_refl _) z1 z2
  refine ⟨((k, nm, s1, s2, ()), ()), h', ?_, e⟩
  rw [argOf_struct und41]
  rfl
end Go.Proofs.YtkcjphhjmlienaaGreatDoor.Qp
