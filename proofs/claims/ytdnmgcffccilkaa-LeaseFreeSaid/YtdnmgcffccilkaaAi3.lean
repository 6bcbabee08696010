import Derived.Test.YtdnmgcffccilkaaAi2
/- A verified evaluator for the model of the program: what it evaluates is what the program computes, whatever else the memory holds; part 3. Conditions: no package variables. -/
set_option linter.unusedVariables false
set_option linter.unusedSimpArgs false
namespace Go.Proofs.Ytdnmgcffccilkaa.Ai
open Go.ChangeShapes Go.WideShapes
section
variable {H : Type} {P : Program} {h h' : Heap}
/-! what plain data are, by their types -/
theorem Rd.bool_inv {t : TypeId} {as : List AV} {d : DataW H} (hu : P.underlying t = some .bool) (hx : Rd P h t as d) : ∃ b, as = [.bool b] ∧ d = .lit (.bool b) := by
  cases hx <;> simp_all
theorem Rd.int_inv {t : TypeId} {k : IntKind} {as : List AV} {d : DataW H} (hu : P.underlying t = some (.int k)) (hx : Rd P h t as d) : ∃ n, as = [.int k n] ∧ d = .lit (.int k n) ∧ k.min ≤ n ∧ n ≤ k.max := by
  cases hx with
  | int h1 h2 =>
    rw [hu] at h1; simp only [Option.some.injEq, TypeDesc.int.injEq] at h1; subst h1
    simp only [Lit.wf, Bool.and_eq_true, decide_eq_true_eq] at h2
    exact ⟨_, rfl, rfl, h2.1, h2.2⟩
  | _ => simp_all
theorem Rd.str_inv {t : TypeId} {as : List AV} {d : DataW H} (hu : P.underlying t = some .string) (hx : Rd P h t as d) : ∃ s, as = [.str s] ∧ d = .lit (.string s) ∧ s.length ≤ 9223372036854775807 := by
  cases hx with
  | str h1 h2 => exact ⟨_, rfl, rfl, h2⟩
  | _ => simp_all
theorem Rd.slice_inv {t e : TypeId} {as : List AV} {d : DataW H} (hu : P.underlying t = some (.slice e)) (hx : Rd P h t as d) : (as = [.slice none 0 0 0] ∧ d = .nil) ∨
    ∃ (A : Nat) (ass : List (List AV)) (ds sp : List (DataW H)), as = [.slice (some (A, 0)) ds.length ds.length (P.cellsOf e)] ∧ d = .slice ds sp ∧ h.t.get A = some (.row ass.flatten .ro) ∧ A < h.next ∧ ds.length ≤ 9223372036854775807 ∧ ass.length = ds.length ∧
      (∀ (i : Nat) (a : List AV) (d : DataW H), ass[i]? = some a → ds[i]? = some d → Rd P h e a d) := by
  cases hx with
  | nil h1 => exact .inl ⟨rfl, rfl⟩
  | slice h1 h2 h3 h4 h5 h6 =>
    rw [hu] at h1; simp only [Option.some.injEq, TypeDesc.slice.injEq] at h1; subst h1
    exact .inr ⟨_, _, _, _, rfl, rfl, h2, h3, h4, h5, h6⟩
  | _ => simp_all
theorem Rd.struct_inv {t : TypeId} {fs : Array Field} {as : List AV} {d : DataW H} (hu : P.underlying t = some (.struct fs)) (hx : Rd P h t as d) :
    ∃ (ass : List (List AV)) (ds : List (DataW H)), as = ass.flatten ∧ d = .agg ds ∧ ass.length = fs.size ∧ ds.length = fs.size ∧ (∀ (i : Nat) (f : Field) (a : List AV) (d : DataW H), fs[i]? = some f → ass[i]? = some a → ds[i]? = some d → Rd P h f.type a d) := by
  cases hx with
  | struct h1 h2 h3 h4 =>
    rw [hu] at h1; simp only [Option.some.injEq, TypeDesc.struct.injEq] at h1; subst h1
    exact ⟨_, _, rfl, rfl, h2, h3, h4⟩
  | _ => simp_all
theorem argOf_one {t : TypeId} (h1 : ∀ fs, P.underlying t ≠ some (.struct fs)) (h2 : ∀ n e, P.underlying t ≠ some (.array n e)) (v : AV) : argOf P t [v] = v := by
  unfold argOf
  split
  · rename_i fs hu; exact absurd hu (h1 fs)
  · rename_i n e hu; exact absurd hu (h2 n e)
  · rfl
theorem argOf_struct {t : TypeId} {fs : Array Field} (h1 : P.underlying t = some (.struct fs)) (cs : List AV) : argOf P t cs = .agg cs := by
  unfold argOf; rw [h1]

/-! slices, as what they show -/
/-- where a slice's element lies -/
def SL.at (s : SL) (i n : Nat) : Nat × Nat := ((s.a.getD (0, 0)).1, (s.a.getD (0, 0)).2 + i * n)
theorem ixK_at {β : Type} {s : SL} {i n : Nat} (hs : s.a.isSome = true) (hi : i < s.len) (K : Nat × Nat → Option β) : ixK s.a s.len (i : Int) n K = K (s.at i n) := by
  have hb : Nat.blt i s.len = true := by simpa [Nat.blt_eq] using hi
  obtain ⟨q, hq⟩ := Option.isSome_iff_exists.1 hs
  show (match (Int.ofNat i) with | .ofNat j => bif Nat.blt j s.len then need s.a fun q => K (q.1, q.2 + j * n) else none | .negSucc _ => none) = _
  simp only [hb, cond_true, hq, need_some, SL.at, Option.getD_some]
theorem ixK_z {β : Type} {s : SL} {x : Int} {n : Nat} (hs : s.a.isSome = true) (h0 : 0 ≤ x) (hi : x < s.len) (K : Nat × Nat → Option β) : ixK s.a s.len x n K = K (s.at x.toNat n) := by
  obtain ⟨i, rfl⟩ := Int.eq_ofNat_of_zero_le h0
  exact ixK_at hs (by omega) K
/-- the block's cells, if they may be read -/
def rowB : Option Blk → Option (List AV)
  | some (.row cs .own) => some cs
  | some (.row cs .grown) => some cs
  | some (.row cs .ro) => some cs
  | _ => none
theorem cellB_row (b : Option Blk) (i : Nat) : cellB b i = (rowB b).bind fun cs => cs[i]? := by
  unfold cellB rowB
  split <;> simp [List.head?_drop]
theorem cellsB_row (b : Option Blk) (i n : Nat) : cellsB b i n = (rowB b).bind fun cs => (takeN n (cs.drop i)).map AV.agg := by
  unfold cellsB rowB; split <;> simp
/-- a slice shows these cells -/
def Sees (h : Heap) (s : SL) (vs : List AV) : Prop :=
  vs.length = s.len * s.sz ∧ (s.a = none → s.len = 0) ∧ ∀ A off, s.a = some (A, off) → A < h.next ∧ ∃ cs, rowB (h.g A) = some cs ∧ (cs.drop off).take vs.length = vs
theorem Sees.isSome {s : SL} {vs : List AV} (hx : Sees h s vs) (hl : 0 < s.len) : s.a.isSome = true := by
  cases ha : s.a with
  | none => have := hx.2.1 ha; omega
  | some q => rfl
theorem Sees.cell {s : SL} {vs : List AV} (hx : Sees h s vs) (h1 : s.sz = 1) {i : Nat} (hi : i < s.len) : h.cell (s.at i 1) = vs[i]? := by
  obtain ⟨h2, h3, h4⟩ := hx
  cases ha : s.a with
  | none => have := h3 ha; omega
  | some q =>
    obtain ⟨A, off⟩ := q
    obtain ⟨_, cs, h5, h6⟩ := h4 A off ha
    rw [h1, Nat.mul_one] at h2
    simp only [SL.at, ha, Option.getD_some, Heap.cell_g, cellB_row, h5, Option.bind_some, Nat.mul_one]
    rw [← h6, List.getElem?_take, List.getElem?_drop, if_pos (by omega)]
theorem Sees.cells {s : SL} {vs : List AV} (hx : Sees h s vs) {n : Nat} (h1 : s.sz = n) {i : Nat} (hi : i < s.len) : h.cells (s.at i n) n = some (.agg ((vs.drop (i * n)).take n)) := by
  obtain ⟨h2, h3, h4⟩ := hx
  subst h1
  cases ha : s.a with
  | none => have := h3 ha; omega
  | some q =>
    obtain ⟨A, off⟩ := q
    obtain ⟨_, cs, h5, h6⟩ := h4 A off ha
    have hle : i * s.sz + s.sz ≤ s.len * s.sz := by
      rw [← Nat.succ_mul]; exact Nat.mul_le_mul_right _ hi
    have hlen : ((cs.drop off).take vs.length).length = vs.length := by rw [h6]
    rw [List.length_take, List.length_drop] at hlen
    simp only [SL.at, ha, Option.getD_some, Heap.cells_g, cellsB_row, h5, Option.bind_some]
    have ht : ∀ (n : Nat) (l : List AV), n ≤ l.length → takeN n l = some (l.take n) := by
      intro n
      induction n with
      | zero => intro l _; cases l <;> rfl
      | succ n ih =>
        intro l hl
        cases l with
        | nil => simp at hl
        | cons x r => simp only [takeN, ih r (by simpa using hl), List.take_succ_cons]
    rw [ht _ _ (by rw [List.length_drop]; omega)]
    simp only [Option.map_some, Option.some.injEq, AV.agg.injEq]
    rw [← h6, List.drop_take, List.take_take, List.drop_drop, Nat.min_eq_left (by omega)]
/-- blocks below 'B' stay as they are -/
structure Keep (B : Nat) (h h' : Heap) : Prop where
  g : ∀ A, A < B → h'.g A = h.g A
  next : h.next ≤ h'.next
theorem Keep.refl (B : Nat) (h : Heap) : Keep B h h := ⟨fun _ _ => rfl, Nat.le_refl _⟩
theorem Keep.trans {B : Nat} {a b c : Heap} (x : Keep B a b) (y : Keep B b c) : Keep B a c := ⟨fun A hA => (y.g A hA).trans (x.g A hA), Nat.le_trans x.next y.next⟩
theorem Keep.mono {B C : Nat} {a b : Heap} (x : Keep B a b) (hl : C ≤ B) : Keep C a b := ⟨fun A hA => x.g A (by omega), x.next⟩
theorem Keep.push {B : Nat} {h0 h : Heap} (x : Keep B h0 h) (hl : B ≤ h0.next) (b : Blk) : Keep B h0 (h.push b) := ⟨fun A hA => (g_push_ne b (by have := x.next; omega)).trans (x.g A hA), by have := x.next; simp; omega⟩
theorem Keep.put {B : Nat} {h0 h : Heap} (x : Keep B h0 h) {A : Nat} (hl : B ≤ A) (b : Blk) : Keep B h0 (h.put A b) := ⟨fun C hC => (g_put_ne b (by omega)).trans (x.g C hC), x.next⟩
def SL.under (s : SL) (B : Nat) : Prop := ∀ A off, s.a = some (A, off) → A < B
theorem Sees.under {s : SL} {vs : List AV} (hx : Sees h s vs) : s.under h.next := fun A off ha => (hx.2.2 A off ha).1
theorem Sees.keep {B : Nat} (hk : Keep B h h') {s : SL} {vs : List AV} (hu : s.under B) (hx : Sees h s vs) : Sees h' s vs := by
  refine ⟨hx.1, hx.2.1, fun A off ha => ?_⟩
  obtain ⟨h1, cs, h2, h3⟩ := hx.2.2 A off ha
  exact ⟨Nat.lt_of_lt_of_le h1 hk.next, cs, by rw [hk.g A (hu A off ha)]; exact h2, h3⟩
theorem Sees.nil (h : Heap) : Sees h ⟨none, 0, 0, 0⟩ [] := ⟨rfl, fun _ => rfl, fun A off ha => by simp at ha⟩
theorem Sees.nilS (h : Heap) (sz : Nat) : Sees h ⟨none, 0, 0, sz⟩ [] := ⟨by simp, fun _ => rfl, fun A off ha => by simp at ha⟩
/-- a slice of the arguments -/
theorem Rd.sees {t e : TypeId} {as : List AV} {d : DataW H} (hu : P.underlying t = some (.slice e)) (hl : ∀ a (d : DataW H), Rd P h e a d → a.length = P.cellsOf e) (hx : Rd P h t as d) :
    ∃ (s : SL) (ass : List (List AV)), as = [.slice s.a s.len s.cap s.sz] ∧ ass.length = s.len ∧ s.len ≤ 9223372036854775807 ∧ (s.sz = P.cellsOf e ∨ s.len = 0) ∧ Sees h s ass.flatten ∧ ∀ (i : Nat) (a : List AV), ass[i]? = some a → ∃ d : DataW H, Rd P h e a d := by
  rcases Rd.slice_inv hu hx with ⟨rfl, _⟩ | ⟨A, ass, ds, sp, rfl, _, h1, h2, h3, h4, h5⟩
  · exact ⟨⟨none, 0, 0, 0⟩, [], rfl, rfl, by simp, .inr rfl, Sees.nil h, fun i a ha => by simp at ha⟩
  · have hd : ∀ (i : Nat) (a : List AV), ass[i]? = some a → ∃ d : DataW H, Rd P h e a d := by
      intro i a ha
      have hi : i < ds.length := by have := (List.getElem?_eq_some_iff.1 ha).1; omega
      exact ⟨ds[i], h5 i a _ ha (List.getElem?_eq_getElem hi)⟩
    refine ⟨⟨some (A, 0), ds.length, ds.length, P.cellsOf e⟩, ass, rfl, h4, h3, .inl rfl, ⟨?_, fun ha => by simp at ha, fun A' off ha => ?_⟩, hd⟩
    · have : ∀ (l : List (List AV)), (∀ a ∈ l, a.length = P.cellsOf e) → l.flatten.length = l.length * P.cellsOf e := by
        intro l
        induction l with
        | nil => intro _; simp
        | cons a r ih => intro hl; rw [List.flatten_cons, List.length_append, ih (fun x hx => hl x (by simp [hx])), hl a (by simp), List.length_cons, Nat.succ_mul, Nat.add_comm]
      rw [this ass ?_, h4]
      intro a ha
      obtain ⟨i, hi⟩ := List.mem_iff_getElem?.1 ha
      obtain ⟨d, hd⟩ := hd i a hi
      exact hl a d hd
    · simp only [Option.some.injEq, Prod.mk.injEq] at ha
      obtain ⟨rfl, rfl⟩ := ha
      refine ⟨h2, ass.flatten, ?_, by rw [List.drop_zero, List.take_length]⟩
      show rowB (h.t.get A) = _
      rw [h1]; rfl
theorem flat_of {α : Type} (f : α → AV) : ∀ (ass : List (List AV)), (∀ (i : Nat) (a : List AV), ass[i]? = some a → ∃ x, a = [f x]) → ∃ xs : List α, ass.flatten = xs.map f ∧ xs.length = ass.length
  | [], _ => ⟨[], rfl, rfl⟩
  | a :: r, h => by
    obtain ⟨x, rfl⟩ := h 0 a rfl
    obtain ⟨xs, h1, h2⟩ := flat_of f r fun i a ha => h (i + 1) a (by simpa using ha)
    exact ⟨x :: xs, by simp [h1], by simp [h2]⟩
theorem Rd.bools {t e : TypeId} {as : List AV} {d : DataW H} (hu : P.underlying t = some (.slice e)) (he : P.underlying e = some .bool) (hc : P.cellsOf e = 1) (hx : Rd P h t as d) :
    ∃ (s : SL) (bs : List Bool), as = [.slice s.a s.len s.cap s.sz] ∧ (s.sz = 1 ∨ s.len = 0) ∧ s.len ≤ 9223372036854775807 ∧ bs.length = s.len ∧ Sees h s (bs.map AV.bool) := by
  obtain ⟨s, ass, rfl, h1, h2, h3, h4, h5⟩ := Rd.sees hu (fun a d hd => by obtain ⟨b, rfl, _⟩ := Rd.bool_inv he hd; exact hc.symm) hx
  obtain ⟨bs, h6, h7⟩ := flat_of AV.bool ass fun i a ha => by
    obtain ⟨d, hd⟩ := h5 i a ha
    obtain ⟨b, rfl, _⟩ := Rd.bool_inv he hd
    exact ⟨b, rfl⟩
  exact ⟨s, bs, rfl, by rw [← hc]; exact h3, h2, by omega, h6 ▸ h4⟩
theorem Rd.ints {t e : TypeId} {k : IntKind} {as : List AV} {d : DataW H} (hu : P.underlying t = some (.slice e)) (he : P.underlying e = some (.int k)) (hc : P.cellsOf e = 1) (hx : Rd P h t as d) :
    ∃ (s : SL) (l : List Int), as = [.slice s.a s.len s.cap s.sz] ∧ (s.sz = 1 ∨ s.len = 0) ∧ s.len ≤ 9223372036854775807 ∧ l.length = s.len ∧ Sees h s (l.map (AV.int k)) ∧ ∀ x ∈ l, k.min ≤ x ∧ x ≤ k.max := by
  obtain ⟨s, ass, rfl, h1, h2, h3, h4, h5⟩ := Rd.sees hu (fun a d hd => by obtain ⟨b, rfl, _⟩ := Rd.int_inv he hd; exact hc.symm) hx
  obtain ⟨bs, h6, h7⟩ := flat_of (fun x : { n : Int // k.min ≤ n ∧ n ≤ k.max } => AV.int k x.1) ass fun i a ha => by
    obtain ⟨d, hd⟩ := h5 i a ha
    obtain ⟨b, rfl, _, hb⟩ := Rd.int_inv he hd
    exact ⟨⟨b, hb⟩, rfl⟩
  refine ⟨s, bs.map (·.1), rfl, by rw [← hc]; exact h3, h2, by simp; omega, ?_, ?_⟩
  · rw [List.map_map]; exact h6 ▸ h4
  · intro x hx
    obtain ⟨y, _, rfl⟩ := List.mem_map.1 hx
    exact y.2
theorem RdArgs.cons_inv {t : TypeId} {ts : List TypeId} {vs : List AV} {ds : List (DataW H)} (hx : RdArgs P h (t :: ts) vs ds) : ∃ cs d vs' ds', vs = argOf P t cs :: vs' ∧ ds = d :: ds' ∧ Rd P h t cs d ∧ RdArgs P h ts vs' ds' := by
  match vs, ds with
  | a :: vs', d :: ds' => obtain ⟨⟨cs, rfl, h1⟩, h2⟩ := hx; exact ⟨cs, d, vs', ds', rfl, rfl, h1, h2⟩
  | [], _ => simp [RdArgs] at hx
  | _ :: _, [] => simp [RdArgs] at hx
theorem RdArgs.nil_inv {vs : List AV} {ds : List (DataW H)} (hx : RdArgs P h [] vs ds) : vs = [] ∧ ds = [] := by
  match vs, ds with
  | [], [] => exact ⟨rfl, rfl⟩
  | _ :: _, _ => simp [RdArgs] at hx
  | [], _ :: _ => simp [RdArgs] at hx
end
end Go.Proofs.Ytdnmgcffccilkaa.Ai
