import Derived.Test.YtjeaammlambkeaaDoorAi3
/- A verified evaluator for the model of the program: what it evaluates is what the program computes, whatever else the memory holds; part 4. Conditions: no package variables. -/
set_option linter.unusedVariables false
set_option linter.unusedSimpArgs false
namespace Go.Proofs.YtjeaammlambkeaaDoor.Ai
open Go.ChangeShapes Go.WideShapes
/-! DATA AS TREES: what cells show, over blocks that 'V' allows -/
inductive D where
  | b (x : Bool) | i (n : Int) | s (x : List UInt8) | l (xs : List D) | t (xs : List D)
mutual
def Dt (h : Heap) (V : Nat → Prop) : D → List AV → Prop
  | .b x, cs => cs = [.bool x]
  | .i n, cs => cs = [.int .i64 n]
  | .s x, cs => cs = [.str x]
  | .l xs, cs => ∃ (s : SL) (vs : List AV), cs = [s.av] ∧ s.len = xs.length ∧ s.len ≤ s.cap ∧ (∀ A, s.blk = some A → V A) ∧ Sees h s vs ∧ De h V s.sz xs vs
  | .t xs, cs => Dp h V xs cs
def Dp (h : Heap) (V : Nat → Prop) : List D → List AV → Prop
  | [], cs => cs = []
  | x :: r, cs => ∃ a b, cs = a ++ b ∧ Dt h V x a ∧ Dp h V r b
def De (h : Heap) (V : Nat → Prop) (n : Nat) : List D → List AV → Prop
  | [], cs => cs = []
  | x :: r, cs => ∃ a b, cs = a ++ b ∧ a.length = n ∧ Dt h V x a ∧ De h V n r b
end
/-- a slice shows these -/
structure Sl (h : Heap) (V : Nat → Prop) (s : SL) (xs : List D) : Prop where
  len : s.len = xs.length
  cap : s.len ≤ s.cap
  blk : ∀ A, s.blk = some A → V A
  els : ∃ vs, Sees h s vs ∧ De h V s.sz xs vs
/-- only these blocks change -/
structure Chg (M : List Nat) (h h' : Heap) : Prop where
  g : ∀ A, A < h.next → A ∉ M → h'.g A = h.g A
  next : h.next ≤ h'.next
  pins : h'.pins = h.pins
section
variable {h h' h'' : Heap} {V W : Nat → Prop} {M N : List Nat}
theorem Chg.refl (M : List Nat) (h : Heap) : Chg M h h := ⟨fun _ _ _ => rfl, Nat.le_refl _, rfl⟩
theorem Chg.trans (x : Chg M h h') (y : Chg M h' h'') : Chg M h h'' := ⟨fun A hA hM => (y.g A (Nat.lt_of_lt_of_le hA x.next) hM).trans (x.g A hA hM), Nat.le_trans x.next y.next, y.pins.trans x.pins⟩
theorem Chg.mono (x : Chg M h h') (hs : ∀ A, A ∈ M → A ∈ N) : Chg N h h' := ⟨fun A hA hM => x.g A hA (fun e => hM (hs A e)), x.next, x.pins⟩
/-- new blocks may change at will -/
theorem Chg.cut (x : Chg M h h') (hs : ∀ A, A ∈ M → A < h.next → A ∈ N) : Chg N h h' := ⟨fun A hA hM => x.g A hA (fun e => hM (hs A e hA)), x.next, x.pins⟩
theorem Chg.step (x : Chg N h h') (y : Chg M h' h'') (hs : ∀ A, A ∈ M → A < h.next → A ∈ N) : Chg N h h'' := ⟨fun A hA hM => (y.g A (Nat.lt_of_lt_of_le hA x.next) (fun e => hM (hs A e hA))).trans (x.g A hA hM), Nat.le_trans x.next y.next, y.pins.trans x.pins⟩
theorem Chg.push (x : Chg M h h') (b : Blk) : Chg M h (h'.push b) := ⟨fun A hA hM => (g_push_ne b (by have := x.next; omega)).trans (x.g A hA hM), by have := x.next; simp; omega, x.pins⟩
theorem Chg.put (x : Chg M h h') {A : Nat} (hA : A ∈ M ∨ h.next ≤ A) (b : Blk) : Chg M h (h'.put A b) := ⟨fun C hC hM => (g_put_ne b (fun e => by
    subst e
    rcases hA with h1 | h1
    · exact hM h1
    · omega)).trans (x.g C hC hM), x.next, x.pins⟩
theorem Chg.of_keep {h h' : Heap} (k : Keep h.next h h') (hp : h'.pins = h.pins) : Chg [] h h' := ⟨fun A hA _ => k.g A hA, k.next, hp⟩
theorem Chg.keep (x : Chg [] h h') : Keep h.next h h' := ⟨fun A hA => x.g A hA (by simp), x.next⟩
theorem Chg.keepB (x : Chg M h h') {B : Nat} (hB : B ≤ h.next) (hs : ∀ A ∈ M, B ≤ A) : Keep B h h' := ⟨fun A hA => x.g A (by omega) (fun e => by have := hs A e; omega), x.next⟩
theorem Sees.chg {s : SL} {vs : List AV} (x : Sees h s vs) (c : Chg M h h') (hM : ∀ A, s.blk = some A → A ∉ M) : Sees h' s vs := by
  refine ⟨x.1, x.2.1, fun A off ha => ?_⟩
  obtain ⟨h1, cs, h2, h3⟩ := x.2.2 A off ha
  exact ⟨Nat.lt_of_lt_of_le h1 c.next, cs, by rw [c.g A h1 (hM A (by simp [SL.blk, ha]))]; exact h2, h3⟩
mutual
theorem Dt.chg (c : Chg M h h') (hM : ∀ A, V A → A ∉ M) : ∀ {d : D} {cs : List AV}, Dt h V d cs → Dt h' V d cs
  | .b _, _, x => by simpa only [Dt] using x
  | .i _, _, x => by simpa only [Dt] using x
  | .s _, _, x => by simpa only [Dt] using x
  | .l xs, _, x => by
    simp only [Dt] at x ⊢
    obtain ⟨s, vs, h1, h2, h3, h4, h5, h6⟩ := x
    exact ⟨s, vs, h1, h2, h3, h4, h5.chg c fun A hA => hM A (h4 A hA), De.chg c hM h6⟩
  | .t xs, _, x => by
    simp only [Dt] at x ⊢
    exact Dp.chg c hM x
theorem Dp.chg (c : Chg M h h') (hM : ∀ A, V A → A ∉ M) : ∀ {xs : List D} {cs : List AV}, Dp h V xs cs → Dp h' V xs cs
  | [], _, x => by simpa only [Dp] using x
  | d :: r, _, x => by
    simp only [Dp] at x ⊢
    obtain ⟨a, b, h1, h2, h3⟩ := x
    exact ⟨a, b, h1, Dt.chg c hM h2, Dp.chg c hM h3⟩
theorem De.chg (c : Chg M h h') (hM : ∀ A, V A → A ∉ M) {n : Nat} : ∀ {xs : List D} {cs : List AV}, De h V n xs cs → De h' V n xs cs
  | [], _, x => by simpa only [De] using x
  | d :: r, _, x => by
    simp only [De] at x ⊢
    obtain ⟨a, b, h1, h0, h2, h3⟩ := x
    exact ⟨a, b, h1, h0, Dt.chg c hM h2, De.chg c hM h3⟩
end
mutual
theorem Dt.weak (hW : ∀ A, V A → A < h.next → W A) : ∀ {d : D} {cs : List AV}, Dt h V d cs → Dt h W d cs
  | .b _, _, x => by simpa only [Dt] using x
  | .i _, _, x => by simpa only [Dt] using x
  | .s _, _, x => by simpa only [Dt] using x
  | .l xs, _, x => by
    simp only [Dt] at x ⊢
    obtain ⟨s, vs, h1, h2, h3, h4, h5, h6⟩ := x
    refine ⟨s, vs, h1, h2, h3, fun A hA => hW A (h4 A hA) ?_, h5, De.weak hW h6⟩
    cases ha : s.a with
    | none => simp [SL.blk, ha] at hA
    | some q => obtain ⟨A', off⟩ := q; simp [SL.blk, ha] at hA; subst hA; exact (h5.2.2 _ off ha).1
  | .t xs, _, x => by
    simp only [Dt] at x ⊢
    exact Dp.weak hW x
theorem Dp.weak (hW : ∀ A, V A → A < h.next → W A) : ∀ {xs : List D} {cs : List AV}, Dp h V xs cs → Dp h W xs cs
  | [], _, x => by simpa only [Dp] using x
  | d :: r, _, x => by
    simp only [Dp] at x ⊢
    obtain ⟨a, b, h1, h2, h3⟩ := x
    exact ⟨a, b, h1, Dt.weak hW h2, Dp.weak hW h3⟩
theorem De.weak (hW : ∀ A, V A → A < h.next → W A) {n : Nat} : ∀ {xs : List D} {cs : List AV}, De h V n xs cs → De h W n xs cs
  | [], _, x => by simpa only [De] using x
  | d :: r, _, x => by
    simp only [De] at x ⊢
    obtain ⟨a, b, h1, h0, h2, h3⟩ := x
    exact ⟨a, b, h1, h0, Dt.weak hW h2, De.weak hW h3⟩
end
theorem SL.av_inj {s t : SL} (h : s.av = t.av) : s = t := by
  obtain ⟨a, b, c, d⟩ := s; obtain ⟨a', b', c', d'⟩ := t
  simp [SL.av] at h; obtain ⟨rfl, rfl, rfl, rfl⟩ := h; rfl
theorem dt_l {xs : List D} {cs : List AV} : Dt h V (.l xs) cs ↔ ∃ s : SL, cs = [s.av] ∧ Sl h V s xs := by
  simp only [Dt]
  constructor
  · rintro ⟨s, vs, h1, h2, h3, h4, h5, h6⟩; exact ⟨s, h1, h2, h3, h4, vs, h5, h6⟩
  · rintro ⟨s, h1, h2, h3, h4, vs, h5, h6⟩; exact ⟨s, vs, h1, h2, h3, h4, h5, h6⟩
theorem dt_av {xs : List D} {s : SL} : Dt h V (.l xs) [s.av] ↔ Sl h V s xs := by
  rw [dt_l]
  constructor
  · rintro ⟨t, h1, h2⟩; simp only [List.cons.injEq, and_true] at h1; rw [SL.av_inj h1]; exact h2
  · intro x; exact ⟨s, rfl, x⟩
theorem Sl.chg {s : SL} {xs : List D} (x : Sl h V s xs) (c : Chg M h h') (hM : ∀ A, V A → A ∉ M) : Sl h' V s xs := dt_av.1 (Dt.chg c hM (dt_av.2 x))
theorem Sl.weak {s : SL} {xs : List D} (x : Sl h V s xs) (hW : ∀ A, V A → A < h.next → W A) : Sl h W s xs := dt_av.1 (Dt.weak hW (dt_av.2 x))
theorem Sl.nil (h : Heap) (V : Nat → Prop) (z : Nat) : Sl h V ⟨none, 0, 0, z⟩ [] := ⟨rfl, Nat.le_refl _, fun A hA => by simp [SL.blk] at hA, [], Sees.nilS h z, by simp [De]⟩
theorem Sl.lt {s : SL} {xs : List D} (x : Sl h V s xs) : ∀ A, s.blk = some A → A < h.next := by
  intro A hA
  obtain ⟨vs, h1, _⟩ := x.els
  cases ha : s.a with
  | none => simp [SL.blk, ha] at hA
  | some q => obtain ⟨A', off⟩ := q; simp [SL.blk, ha] at hA; subst hA; exact (h1.2.2 _ off ha).1
mutual
theorem Dt.single : ∀ {d : D} {cs : List AV}, Dt h V d cs → ∀ v ∈ cs, AV.single v = true
  | .b _, _, x => by simp only [Dt] at x; subst x; simp [AV.single]
  | .i _, _, x => by simp only [Dt] at x; subst x; simp [AV.single]
  | .s _, _, x => by simp only [Dt] at x; subst x; simp [AV.single]
  | .l xs, _, x => by
    simp only [Dt] at x
    obtain ⟨s, vs, h1, _⟩ := x
    subst h1; simp [SL.av, AV.single]
  | .t xs, _, x => by
    simp only [Dt] at x
    exact Dp.single x
theorem Dp.single : ∀ {xs : List D} {cs : List AV}, Dp h V xs cs → ∀ v ∈ cs, AV.single v = true
  | [], _, x => by simp only [Dp] at x; subst x; simp
  | d :: r, _, x => by
    simp only [Dp] at x
    obtain ⟨a, b, rfl, h2, h3⟩ := x
    intro v hv
    rcases List.mem_append.1 hv with hv | hv
    · exact Dt.single h2 v hv
    · exact Dp.single h3 v hv
end
theorem De.length {n : Nat} : ∀ {xs : List D} {vs : List AV}, De h V n xs vs → vs.length = xs.length * n
  | [], vs, x => by simp only [De] at x; subst x; simp
  | d :: r, vs, x => by
    simp only [De] at x
    obtain ⟨a, b, rfl, h0, _, h3⟩ := x
    rw [List.length_append, h0, De.length h3, List.length_cons, Nat.succ_mul, Nat.add_comm]
theorem De.at {n : Nat} : ∀ {xs : List D} {vs : List AV}, De h V n xs vs → ∀ (i : Nat) (hi : i < xs.length), ∃ cs, cs.length = n ∧ Dt h V xs[i] cs ∧ ∃ rest, vs.drop (i * n) = cs ++ rest
  | d :: r, vs, x, 0, _ => by
    simp only [De] at x
    obtain ⟨a, b, rfl, h0, h1, h3⟩ := x
    exact ⟨a, h0, h1, b, by simp⟩
  | d :: r, vs, x, i + 1, hi => by
    simp only [De] at x
    obtain ⟨a, b, rfl, h0, h1, h3⟩ := x
    obtain ⟨cs, g1, g2, rest, g3⟩ := De.at h3 i (by simpa using hi)
    refine ⟨cs, g1, g2, rest, ?_⟩
    rw [Nat.succ_mul, List.drop_append, List.drop_eq_nil_of_le (by omega), List.nil_append, h0, Nat.add_sub_cancel]
    exact g3
theorem De.snoc {n : Nat} : ∀ {xs : List D} {vs : List AV}, De h V n xs vs → ∀ {x : D} {cs : List AV}, Dt h V x cs → cs.length = n → De h V n (xs ++ [x]) (vs ++ cs)
  | [], vs, hx, x, cs, h1, h2 => by
    simp only [De] at hx; subst hx
    simp only [List.nil_append, De]
    exact ⟨cs, [], by simp, h2, h1, rfl⟩
  | d :: r, vs, hx, x, cs, h1, h2 => by
    simp only [De] at hx
    obtain ⟨a, b, rfl, h0, h3, h4⟩ := hx
    simp only [List.cons_append, De]
    exact ⟨a, b ++ cs, by simp, h0, h3, De.snoc h4 h1 h2⟩
theorem De.append {n : Nat} : ∀ {xs : List D} {vs : List AV}, De h V n xs vs → ∀ {ys : List D} {ws : List AV}, De h V n ys ws → De h V n (xs ++ ys) (vs ++ ws)
  | [], vs, hx, ys, ws, h1 => by simp only [De] at hx; subst hx; simpa using h1
  | d :: r, vs, hx, ys, ws, h1 => by
    simp only [De] at hx
    obtain ⟨a, b, rfl, h0, h3, h4⟩ := hx
    simp only [List.cons_append, De]
    exact ⟨a, b ++ ws, by simp, h0, h3, De.append h4 h1⟩
theorem De.take {n : Nat} : ∀ {xs : List D} {vs : List AV}, De h V n xs vs → ∀ k, k ≤ xs.length → De h V n (xs.take k) (vs.take (k * n))
  | [], vs, hx, k, hk => by simp only [De] at hx; subst hx; simp [De]
  | d :: r, vs, hx, 0, hk => by simp [De]
  | d :: r, vs, hx, k + 1, hk => by
    simp only [De] at hx
    obtain ⟨a, b, rfl, h0, h3, h4⟩ := hx
    simp only [List.take_succ_cons, De]
    refine ⟨a, b.take (k * n), ?_, h0, h3, De.take h4 k (by simpa using hk)⟩
    rw [List.take_append, List.take_of_length_le (by rw [h0, Nat.succ_mul]; omega), h0, Nat.succ_mul, Nat.add_sub_cancel]
theorem De.drop {n : Nat} : ∀ {xs : List D} {vs : List AV}, De h V n xs vs → ∀ k, k ≤ xs.length → De h V n (xs.drop k) (vs.drop (k * n))
  | [], vs, hx, k, hk => by simp only [De] at hx; subst hx; simp [De]
  | d :: r, vs, hx, 0, hk => by simpa using hx
  | d :: r, vs, hx, k + 1, hk => by
    simp only [De] at hx
    obtain ⟨a, b, rfl, h0, h3, h4⟩ := hx
    have e : (a ++ b).drop ((k + 1) * n) = b.drop (k * n) := by
      rw [List.drop_append, List.drop_eq_nil_of_le (by rw [h0, Nat.succ_mul]; omega), List.nil_append, h0, Nat.succ_mul, Nat.add_sub_cancel]
    rw [List.drop_succ_cons, e]
    exact De.drop h4 k (by simpa using hk)
/-- an element of a slice -/
structure Elt (h : Heap) (V : Nat → Prop) (q : Nat × Nat) (n : Nat) (x : D) (cs : List AV) : Prop where
  len : cs.length = n
  dt : Dt h V x cs
  cells : ∀ j m, j + m ≤ n → h.cells (q.1, q.2 + j) m = some (.agg ((cs.drop j).take m))
  cell : ∀ j, j < n → h.cell (q.1, q.2 + j) = cs[j]?
theorem Sl.elt {s : SL} {xs : List D} (x : Sl h V s xs) {i : Nat} (hi : i < xs.length) : ∃ cs, Elt h V (s.at i s.sz) s.sz xs[i] cs := by
  obtain ⟨vs, hs, he⟩ := x.els
  obtain ⟨cs, h1, h2, rest, h3⟩ := he.at i hi
  have hl : i < s.len := by rw [x.len]; exact hi
  have hvl := he.length
  obtain ⟨g2, g3, g4⟩ := hs
  cases ha : s.a with
  | none => have := g3 ha; omega
  | some q =>
    obtain ⟨A, off⟩ := q
    obtain ⟨_, bs, h5, h6⟩ := g4 A off ha
    have hle : i * s.sz + s.sz ≤ s.len * s.sz := by rw [← Nat.succ_mul]; exact Nat.mul_le_mul_right _ hl
    have hlen : ((bs.drop off).take vs.length).length = vs.length := by rw [h6]
    rw [List.length_take, List.length_drop] at hlen
    have hd : ∀ j, j ≤ s.sz → ((bs.drop (off + i * s.sz + j)).take (s.sz - j)) = cs.drop j := by
      intro j hj
      have e1 : (vs.drop (i * s.sz + j)).take (s.sz - j) = cs.drop j := by
        rw [← List.drop_drop, h3, List.drop_append_of_le_length (by omega), List.take_append_of_le_length (by rw [List.length_drop]; omega), List.take_of_length_le (by rw [List.length_drop]; omega)]
      rw [← e1, ← h6, List.drop_take, List.take_take, List.drop_drop, Nat.min_eq_left (by omega), Nat.add_assoc]
    refine ⟨cs, h1, h2, fun j m hjm => ?_, fun j hj => ?_⟩
    · simp only [SL.at, ha, Option.getD_some, Heap.cells_g, cellsB_row, h5, Option.bind_some]
      rw [takeN_of _ _ (by rw [List.length_drop]; omega)]
      simp only [Option.map_some, Option.some.injEq, AV.agg.injEq]
      rw [← hd j (by omega), List.take_take, Nat.min_eq_left (by omega)]
    · simp only [SL.at, ha, Option.getD_some, Heap.cell_g, cellB_row, h5, Option.bind_some]
      have := congrArg (fun l => l[0]?) (hd j (by omega))
      simp only [List.getElem?_take, List.getElem?_drop, if_pos (show 0 < s.sz - j by omega), Nat.add_zero] at this
      exact this
theorem Sl.isSome {s : SL} {xs : List D} (x : Sl h V s xs) (hl : 0 < xs.length) : s.a.isSome = true := by
  obtain ⟨vs, hs, _⟩ := x.els
  exact hs.isSome (by rw [x.len]; exact hl)
theorem Sl.ix {s : SL} {xs : List D} (x : Sl h V s xs) {i : Nat} (hi : i < xs.length) {β : Type} (n : Nat) (K : Nat × Nat → Option β) : ixK s.a s.len (i : Int) n K = K (s.at i n) :=
  ixK_at (x.isSome (by omega)) (by rw [x.len]; exact hi) K
theorem Elt.whole {q : Nat × Nat} {n : Nat} {x : D} {cs : List AV} (e : Elt h V q n x cs) : h.cells q n = some (.agg cs) := by
  have := e.cells 0 n (by omega)
  rw [List.drop_zero, List.take_of_length_le (by rw [e.len]; exact Nat.le_refl _)] at this
  exact this
theorem Elt.one {q : Nat × Nat} {x : D} {v : AV} (e : Elt h V q 1 x [v]) : h.cell q = some v := e.cell 0 (by omega)
end
end Go.Proofs.YtjeaammlambkeaaDoor.Ai

namespace Go.Proofs.YtjeaammlambkeaaDoor.Ai
/-! slices of one's own, elements of any number of cells -/
def AppN (E : Env) (st e : TypeId) (n W : Nat) : Prop := E.und st = some (.slice e) ∧ (∃ i, E.info e = some i ∧ i.size = n ∧ i.bytes + i.size + 1 ≤ W) ∧ ∃ z, E.zero e = some z ∧ z.cells.length = n
def appNB (E : Env) (st e : TypeId) (n W : Nat) : Bool :=
  match E.und st with
  | some (.slice e') => Nat.beq e' e && (match E.info e with | some i => Nat.beq i.size n && Nat.ble (i.bytes + i.size + 1) W | none => false) && (match E.zero e with | some z => Nat.beq z.cells.length n | none => false)
  | _ => false
theorem AppN.of {E : Env} {st e : TypeId} {n W : Nat} (h : appNB E st e n W = true) : AppN E st e n W := by
  unfold appNB at h
  split at h
  · rename_i e' hu
    simp only [Bool.and_eq_true] at h
    obtain ⟨⟨h1, h2⟩, h3⟩ := h
    have h1 := Nat.eq_of_beq_eq_true h1
    subst h1
    refine ⟨hu, ?_, ?_⟩
    · split at h2
      · rename_i i hi
        simp only [Bool.and_eq_true, Nat.ble_eq] at h2
        exact ⟨i, hi, Nat.eq_of_beq_eq_true h2.1, h2.2⟩
      · cases h2
    · split at h3
      · rename_i z hz; exact ⟨z, hz, Nat.eq_of_beq_eq_true h3⟩
      · cases h3
  · cases h
/-- a slice that grows; its elements show 'xs', over blocks from 'B' on but its own -/
def Ow (B : Nat) (h : Heap) (s : SL) (n : Nat) (xs : List D) : Prop :=
  (s.a = none ∧ s.len = 0 ∧ s.cap = 0 ∧ xs = []) ∨
  ∃ A cs st vs, s.a = some (A, 0) ∧ s.sz = n ∧ B ≤ A ∧ A < h.next ∧ h.g A = some (.row cs st) ∧ s.len = xs.length ∧ cs.take vs.length = vs ∧ De h (fun C => B ≤ C ∧ C ≠ A) n xs vs ∧ s.len ≤ s.cap ∧ (st = .grown ∨ (st = .own ∧ s.cap * n = cs.length))
section
variable {E : Env} {B : Nat} {h h' : Heap} {s : SL} {n : Nat} {xs : List D} {M : List Nat}
theorem Ow.nil (B : Nat) (h : Heap) (z n : Nat) : Ow B h ⟨none, 0, 0, z⟩ n [] := .inl ⟨rfl, rfl, rfl, rfl⟩
theorem Ow.len (x : Ow B h s n xs) : s.len = xs.length := by
  rcases x with ⟨_, h1, _, rfl⟩ | ⟨A, cs, st, vs, _, _, _, _, _, h1, _⟩
  · exact h1
  · exact h1
theorem Ow.ge (x : Ow B h s n xs) : ∀ A, s.blk = some A → B ≤ A ∧ A < h.next := by
  intro A hA
  rcases x with ⟨h1, _⟩ | ⟨A', cs, st, vs, h1, _, h3, h4, _⟩
  · simp [SL.blk, h1] at hA
  · simp [SL.blk, h1] at hA; subst hA; exact ⟨h3, h4⟩
theorem Ow.sl (x : Ow B h s n xs) : Sl h (fun C => B ≤ C) s xs := by
  rcases x with ⟨h1, h2, h3, rfl⟩ | ⟨A, cs, st, vs, h1, h2, h3, h4, h5, h6, h7, h8, h9, h10⟩
  · exact ⟨h2, by omega, fun A hA => by simp [SL.blk, h1] at hA, [], ⟨by simp [h2], fun _ => h2, fun A off ha => by rw [h1] at ha; cases ha⟩, by simp [De]⟩
  · refine ⟨h6, h9, fun C hC => ?_, vs, ⟨?_, fun ha => (by rw [h1] at ha; cases ha), fun A' off ha => ?_⟩, ?_⟩
    · simp [SL.blk, h1] at hC; subst hC; exact h3
    · rw [h8.length, h6, h2]
    · rw [h1] at ha
      simp only [Option.some.injEq, Prod.mk.injEq] at ha
      obtain ⟨rfl, rfl⟩ := ha
      refine ⟨h4, cs, ?_, by rw [List.drop_zero]; exact h7⟩
      rw [h5]
      rcases h10 with rfl | ⟨rfl, _⟩ <;> rfl
    · rw [h2]; exact De.weak (fun C hC _ => hC.1) h8
theorem Ow.chg (x : Ow B h s n xs) (c : Chg M h h') (hM : ∀ A ∈ M, A < B ∨ h.next ≤ A) : Ow B h' s n xs := by
  rcases x with h1 | ⟨A, cs, st, vs, h1, h2, h3, h4, h5, h6, h7, h8, h9⟩
  · exact .inl h1
  · have hno : ∀ C, B ≤ C → C < h.next → C ∉ M := fun C hC hl hm => by rcases hM C hm with q | q <;> omega
    refine .inr ⟨A, cs, st, vs, h1, h2, h3, Nat.lt_of_lt_of_le h4 c.next, by rw [c.g A h4 (hno A h3 h4)]; exact h5, h6, h7, ?_, h9⟩
    have h8' : De h (fun C => (B ≤ C ∧ C ≠ A) ∧ C < h.next) n xs vs := De.weak (fun C hC hl => ⟨hC, hl⟩) h8
    exact De.weak (fun C hC _ => hC.1) (De.chg c (fun C hC => hno C hC.1.1 hC.2) h8')
theorem over_at (cs ws : List AV) (k : Nat) (hk : k + ws.length ≤ cs.length) : over k cs ws = some (cs.take k ++ ws ++ cs.drop (k + ws.length)) := over_many k cs ws hk
/-- one element more: it lies in a slice of its own -/
theorem append_ow {st e : TypeId} {W : Nat} (ha : AppN E st e n W) (hn : 0 < n) (x : Ow B h s n xs) {d : D} {cs : List AV} (hd : Dt h (fun C => B ≤ C ∧ s.blk ≠ some C) d cs) (hcs : cs.length = n) (hB : B ≤ h.next) (hl : (xs.length + 1) * W ≤ 1073741824) :
    ∃ s' h', appendA E st st (.slice s.a s.len s.cap s.sz) (.slice (some (h.next, 0)) 1 1 n) (h.push (.row cs .own)) = some (.slice s'.a s'.len s'.cap s'.sz, h') ∧ Ow B h' s' n (xs ++ [d]) ∧ Chg (s.blk.toList) h h' ∧ (∀ A, s'.blk = some A → s.blk = some A ∨ h.next ≤ A) := by
  obtain ⟨hu, ⟨i, hi, hi1, hi2⟩, ⟨z, hz, hz1⟩⟩ := ha
  have hr : (h.push (.row cs .own)).read h.next 0 (1 * n) = some cs := by
    have : (h.push (.row cs .own)).row h.next = some cs := (Heap.is_push h cs).row
    simp only [Heap.read, this, List.drop_zero, Nat.one_mul]
    rw [takeN_of _ _ (by omega), List.take_of_length_le (by omega)]
  have hlen := x.len
  have hroom : Nat.ble ((s.len + 1) * (i.bytes + i.size + 1)) roomA = true := by
    have h1 : (s.len + 1) * (i.bytes + i.size + 1) ≤ (xs.length + 1) * W := Nat.mul_le_mul (by omega) (by omega)
    simp only [roomA, Nat.ble_eq]; omega
  have hsz : (Nat.beq s.sz i.size || s.a.isNone) = true := by
    rcases x with ⟨h1, _⟩ | ⟨A, cs, st', vs, h1, h2, _⟩
    · simp [h1]
    · simp [hi1, h2]
  have hall : cs.all AV.single = true := by rw [List.all_eq_true]; exact hd.single
  have key : ∀ K, growA (h.push (.row cs .own)) s.a s.len s.cap n 1 cs = K → appendA E st st (.slice s.a s.len s.cap s.sz) (.slice (some (h.next, 0)) 1 1 n) (h.push (.row cs .own)) = K := by
    intro K hK
    have hz2 : Nat.beq z.cells.length i.size = true := by rw [hz1, hi1]; exact Nat.beq_refl _
    have hnl : Nat.beq cs.length (1 * i.size) = true := by rw [hi1, hcs, Nat.one_mul]; exact Nat.beq_refl _
    simp only [appendA, hu, isIntD, isStrD, cond_false, hi, hz, lenOfA, firstCellsA]
    rw [hi1] at hroom hsz hz2 hnl ⊢
    simp only [hr, show Nat.beq 1 0 = false from rfl, cond_false, hroom, hsz, hz2, hnl, hall, Bool.and_self, cond_true]
    exact hK
  have hd0 : Dt h (fun C => (B ≤ C ∧ s.blk ≠ some C) ∧ C < h.next) d cs := hd.weak fun C hC hl => ⟨hC, hl⟩
  rcases x with ⟨h1, h2, h3, rfl⟩ | ⟨A, bs, st', vs, h1, h2, h3, h4, h5, h6, h7, h8, h9, h10⟩
  · have c0 : Chg [] h ((h.push (.row cs .own)).push (.row cs .grown)) := ((Chg.refl [] h).push _).push _
    refine ⟨⟨some (h.next + 1, 0), 1, 1, n⟩, (h.push (.row cs .own)).push (.row cs .grown), key _ (by simp only [growA, h1, h2]; rfl), .inr ⟨h.next + 1, cs, .grown, cs, rfl, rfl, by omega, by simp, g_push_eq _ rfl, rfl, by simp, ?_, Nat.le_refl _, .inl rfl⟩, c0.mono (by simp), fun A hA => .inr (by simp [SL.blk] at hA; omega)⟩
    simp only [List.nil_append, De]
    exact ⟨cs, [], by simp, hcs, Dt.weak (fun C hC _ => ⟨hC.1.1, by omega⟩) (Dt.chg c0 (by simp) hd0), rfl⟩
  · have hvl := h8.length
    have hbl : s.blk = some A := by simp [SL.blk, h1]
    have hcl : vs.length ≤ bs.length := by
      have : (bs.take vs.length).length = vs.length := by rw [h7]
      rw [List.length_take] at this; omega
    have hg : (h.push (.row cs .own)).t.get A = some (.row bs st') := by
      have := g_push_ne (h := h) (A := A) (.row cs .own) (by omega)
      unfold Heap.g at this h5
      rw [this, h5]
    have h8' : De h (fun C => (B ≤ C ∧ C ≠ A) ∧ C < h.next) n xs vs := De.weak (fun C hC hl => ⟨hC, hl⟩) h8
    have hd' : Dt h (fun C => (B ≤ C ∧ C ≠ A) ∧ C < h.next) d cs := Dt.weak (fun C hC hl => ⟨⟨hC.1, fun e => hC.2 (by rw [hbl, e])⟩, hl⟩) hd
    have hall2 := h8'.snoc hd' hcs
    have htk : takeN (s.len * n) bs = some vs := by rw [takeN_of _ _ (by rw [h6]; omega), h6, ← hvl, h7]
    -- a new block
    have fresh : ∀ H : Heap, H.next = h.next + 1 → Chg [A] h H → Ow B (H.push (.row (vs ++ cs) .grown)) ⟨some (h.next + 1, 0), s.len + 1, s.len + 1, n⟩ n (xs ++ [d]) := by
      intro H hH cH
      refine .inr ⟨h.next + 1, vs ++ cs, .grown, vs ++ cs, rfl, rfl, by omega, by simp [hH], g_push_eq _ hH.symm, by simp [h6], List.take_of_length_le (Nat.le_refl _), ?_, Nat.le_refl _, .inl rfl⟩
      exact De.weak (fun C hC _ => ⟨hC.1.1, by omega⟩) (De.chg (cH.push _) (fun C hC => by simp; exact hC.1.2) hall2)
    rcases h10 with rfl | ⟨rfl, h10⟩
    · have cH : Chg [A] h ((h.push (.row cs .own)).put A (.row bs .dead)) := ((Chg.refl [A] h).push _).put (.inl (by simp)) _
      refine ⟨⟨some (h.next + 1, 0), s.len + 1, s.len + 1, n⟩, ((h.push (.row cs .own)).put A (.row bs .dead)).push (.row (vs ++ cs) .grown), key _ ?_, fresh _ rfl cH, (cH.push _).mono (by simp [hbl]), fun C hC => .inr (by simp [SL.blk] at hC; omega)⟩
      simp only [growA, h1, hg, List.drop_zero, htk]; rfl
    · by_cases hc : s.len + 1 ≤ s.cap
      · have hb1 : Nat.ble (s.len + 1) s.cap = true := by simpa using hc
        have hroom2 : s.len * n + cs.length ≤ bs.length := by
          rw [hcs, ← Nat.succ_mul, ← h10]; exact Nat.mul_le_mul_right _ hc
        have hov := over_at bs cs (s.len * n) hroom2
        have cH : Chg [A] h ((h.push (.row cs .own)).put A (.row (bs.take (s.len * n) ++ cs ++ bs.drop (s.len * n + cs.length)) .own)) := ((Chg.refl [A] h).push _).put (.inl (by simp)) _
        have e1 : bs.take (s.len * n) = vs := by rw [h6, ← hvl, h7]
        refine ⟨⟨some (A, 0), s.len + 1, s.cap, n⟩, _, key _ ?_, .inr ⟨A, _, .own, vs ++ cs, rfl, rfl, h3, by simp; omega, g_put_eq _ rfl, by simp [h6], ?_, ?_, hc, .inr ⟨rfl, ?_⟩⟩, cH.mono (by simp [hbl]), fun C hC => .inl (by simp [SL.blk] at hC; rw [hbl, hC])⟩
        · simp only [growA, h1, hg, List.drop_zero, htk, hb1, cond_true, Nat.zero_add, hov]
        · rw [e1, List.append_assoc, ← List.append_assoc, List.take_append_of_le_length (Nat.le_refl _), List.take_of_length_le (Nat.le_refl _)]
        · exact De.weak (fun C hC _ => hC.1) (De.chg cH (fun C hC => by simp; exact hC.1.2) hall2)
        · show s.cap * n = _
          rw [h10]; simp only [List.length_append, List.length_take, List.length_drop]; omega
      · have hb1 : Nat.ble (s.len + 1) s.cap = false := by
          cases hx : Nat.ble (s.len + 1) s.cap with
          | false => rfl
          | true => exact absurd (by simpa using hx) hc
        have cH : Chg [A] h (h.push (.row cs .own)) := (Chg.refl [A] h).push _
        refine ⟨⟨some (h.next + 1, 0), s.len + 1, s.len + 1, n⟩, (h.push (.row cs .own)).push (.row (vs ++ cs) .grown), key _ ?_, fresh _ rfl cH, (cH.push _).mono (by simp [hbl]), fun C hC => .inr (by simp [SL.blk] at hC; omega)⟩
        simp only [growA, h1, hg, List.drop_zero, htk, hb1, cond_false]; rfl
end
end Go.Proofs.YtjeaammlambkeaaDoor.Ai

namespace Go.Proofs.YtjeaammlambkeaaDoor.Ai
/-! rows of one's own -/
def Heap.own (h : Heap) (A : Nat) (cs : List AV) : Prop := h.g A = some (.row cs .own) ∧ A < h.next
section
variable {h h' : Heap} {A : Nat} {cs vs : List AV} {M : List Nat}
theorem own_push (h : Heap) (cs : List AV) : (h.push (.row cs .own)).own h.next cs := ⟨g_push_eq _ rfl, Nat.lt_succ_self _⟩
theorem own_put (x : h.own A cs) (vs : List AV) : (h.put A (.row vs .own)).own A vs := ⟨g_put_eq _ rfl, x.2⟩
theorem Heap.own.chg (x : h.own A cs) (c : Chg M h h') (hM : A ∉ M) : h'.own A cs := ⟨(c.g A x.2 hM).trans x.1, Nat.lt_of_lt_of_le x.2 c.next⟩
theorem Heap.own.cell (x : h.own A cs) (j : Nat) : h.cell (A, j) = cs[j]? := by
  rw [Heap.cell_g, x.1, cellB_own, List.head?_drop]
theorem Heap.own.cells (x : h.own A cs) {j m : Nat} (hj : j + m ≤ cs.length) : h.cells (A, j) m = some (.agg ((cs.drop j).take m)) := by
  rw [Heap.cells_g, x.1, cellsB_own, takeN_of _ _ (by rw [List.length_drop]; omega)]; rfl
theorem Heap.own.store (x : h.own A cs) (hl : vs.length = cs.length) : h.store (A, 0) vs = some (h.put A (.row vs .own)) := by
  rw [Heap.store_g, x.1, storeB_own, over_many 0 cs vs (by omega)]
  simp [List.drop_of_length_le (show cs.length ≤ vs.length by omega)]
theorem Heap.own.store1 (x : h.own A cs) {j : Nat} (hj : j < cs.length) (v : AV) : h.store (A, j) [v] = some (h.put A (.row (cs.set j v) .own)) := by
  rw [Heap.store_g, x.1, storeB_own, over_one _ _ _ hj]; rfl
theorem Heap.own.put (x : h.own A cs) (vs : List AV) : Chg [A] h (h.put A (.row vs .own)) := (Chg.refl [A] h).put (.inl (by simp)) _
theorem chg_push (h : Heap) (b : Blk) : Chg [] h (h.push b) := (Chg.refl [] h).push b
theorem Chg.own (c : Chg M h h') (hA : h.next ≤ A) (vs : Blk) : Chg M h (h'.put A vs) := c.put (.inr hA) vs
theorem jcase_inl {A B β : Type} (p : A × Heap) (f : A → Heap → β) (g : B → β) : jcase (Sum.inl p) f g = f p.1 p.2 := rfl
theorem jcase_inr {A B β : Type} (b : B) (f : A → Heap → β) (g : B → β) : jcase (Sum.inr b : Sum (A × Heap) B) f g = g b := rfl
end
end Go.Proofs.YtjeaammlambkeaaDoor.Ai

namespace Go.Proofs.YtjeaammlambkeaaDoor.Ai
open Go.ChangeShapes Go.WideShapes Go.RowKit
/-! a law's call from a start heap of which some is known -/
theorem law_from {H : Type} {enc : TypeId × Value → H} {P : Program} {w : World} {bs : Nat} {S : List TypeId} (hS : plainB P S = true) {f : FuncId} {ts : List TypeId} (hts : ∀ t ∈ ts, t ∈ S) {l : List VTy} {F : vdens l → Heap → Option (Bool × Heap)} (hF : FnOK P f l (.val (.one .bool)) F)
    {μs : Mu} {hs : Heap} (hrs : HR μs hs w) (hros : Rof hs) {args : Array Value} {ds : List (DataW H)} {ps : List MemPlace}
    (hlaw : ∀ (h : Heap) (vs : List AV), Rof h → HLe hs h → RdArgs P h ts vs ds → ∃ xs h', VTy.tos l xs = vs ∧ F xs h = some (true, h'))
    (hA : DataW.TrodAll enc P w 0 (fun _ => true) true ts args.toList ds ps)
    (hok : ∀ (j : Nat) t v, ts[j]? = some t → args[j]? = some v → Value.okWide P w .any bs t v) :
    Calls P f args w fun e w' => e = .returned (.bool true) ∧ Below w.heap.size w w' := by
  obtain ⟨μ, h, vs, _, hle, hr, hro, hv, hrd⟩ := open_args hS hts hA (fun j t v h1 h2 => hok j t v h1 (by simpa using h2)) μs hs hrs hros
  obtain ⟨xs, h', rfl, hx⟩ := hlaw h vs hro hle hrd
  refine (hF xs h true h' hx μ w args hr hv).2.mono ?_
  rintro e w' ⟨u, rfl, μ', h1, _, h3⟩
  simp only [Ty.to, VTy.to, CTy.to, VR] at h1
  exact ⟨by rw [h1], hro.ext_below h3⟩
end Go.Proofs.YtjeaammlambkeaaDoor.Ai
