import Derived.Test.YtdnmgcffccilkaaAi2
/- A verified evaluator for the model of the program: what it evaluates is what the program computes, whatever else the memory holds; part 3. Conditions: no package variables. -/
set_option linter.unusedVariables false
set_option linter.unusedSimpArgs false
namespace Go.Proofs.Ytdnmgcffccilkaa.Ai
open Go.ChangeShapes Go.WideShapes
section
variable {H : Type} {P : Program} {h h' : Heap}
/-! what plain data are, by their types -/
theorem Rd.bool_inv {t : TypeId} {as : List AV} {d : DataW H} (hu : P.underlying t = some .bool) (hx : Rd P h t as d) : ∃ b, as = [.bool b] ∧ d = .lit (.bool b) := by
  cases hx <;> simp_all
theorem Rd.int_inv {t : TypeId} {k : IntKind} {as : List AV} {d : DataW H} (hu : P.underlying t = some (.int k)) (hx : Rd P h t as d) : ∃ n, as = [.int k n] ∧ d = .lit (.int k n) ∧ k.min ≤ n ∧ n ≤ k.max := by
  cases hx with
  | int h1 h2 =>
    rw [hu] at h1; simp only [Option.some.injEq, TypeDesc.int.injEq] at h1; subst h1
    simp only [Lit.wf, Bool.and_eq_true, decide_eq_true_eq] at h2
    exact ⟨_, rfl, rfl, h2.1, h2.2⟩
  | _ => simp_all
theorem Rd.str_inv {t : TypeId} {as : List AV} {d : DataW H} (hu : P.underlying t = some .string) (hx : Rd P h t as d) : ∃ s, as = [.str s] ∧ d = .lit (.string s) ∧ s.length ≤ 9223372036854775807 := by
  cases hx with
  | str h1 h2 => exact ⟨_, rfl, rfl, h2⟩
  | _ => simp_all
theorem Rd.slice_inv {t e : TypeId} {as : List AV} {d : DataW H} (hu : P.underlying t = some (.slice e)) (hx : Rd P h t as d) : (as = [.slice none 0 0 0] ∧ d = .nil) ∨
    ∃ (A : Nat) (ass : List (List AV)) (ds sp : List (DataW H)), as = [.slice (some (A, 0)) ds.length ds.length (P.cellsOf e)] ∧ d = .slice ds sp ∧ h.t.get A = some (.row ass.flatten .ro) ∧ A < h.next ∧ ds.length ≤ 9223372036854775807 ∧ ass.length = ds.length ∧
      (∀ (i : Nat) (a : List AV) (d : DataW H), ass[i]? = some a → ds[i]? = some d → Rd P h e a d) := by
  cases hx with
  | nil h1 => exact .inl ⟨rfl, rfl⟩
  | slice h1 h2 h3 h4 h5 h6 =>
    rw [hu] at h1; simp only [Option.some.injEq, TypeDesc.slice.injEq] at h1; subst h1
    exact .inr ⟨_, _, _, _, rfl, rfl, h2, h3, h4, h5, h6⟩
  | _ => simp_all
theorem Rd.struct_inv {t : TypeId} {fs : Array Field} {as : List AV} {d : DataW H} (hu : P.underlying t = some (.struct fs)) (hx : Rd P h t as d) :
    ∃ (ass : List (List AV)) (ds : List (DataW H)), as = ass.flatten ∧ d = .agg ds ∧ ass.length = fs.size ∧ ds.length = fs.size ∧ (∀ (i : Nat) (f : Field) (a : List AV) (d : DataW H), fs[i]? = some f → ass[i]? = some a → ds[i]? = some d → Rd P h f.type a d) := by
  cases hx with
  | struct h1 h2 h3 h4 =>
    rw [hu] at h1; simp only [Option.some.injEq, TypeDesc.struct.injEq] at h1; subst h1
    exact ⟨_, _, rfl, rfl, h2, h3, h4⟩
  | _ => simp_all
theorem argOf_one {t : TypeId} (h1 : ∀ fs, P.underlying t ≠ some (.struct fs)) (h2 : ∀ n e, P.underlying t ≠ some (.array n e)) (v : AV) : argOf P t [v] = v := by
  unfold argOf
  split
  · rename_i fs hu; exact absurd hu (h1 fs)
  · rename_i n e hu; exact absurd hu (h2 n e)
  · rfl
theorem argOf_struct {t : TypeId} {fs : Array Field} (h1 : P.underlying t = some (.struct fs)) (cs : List AV) : argOf P t cs = .agg cs := by
  unfold argOf; rw [h1]

/-! slices, as what they show -/
/-- where a slice's element lies -/
def SL.at (s : SL) (i n : Nat) : Nat × Nat := ((s.a.getD (0, 0)).1, (s.a.getD (0, 0)).2 + i * n)
theorem ixK_at {β : Type} {s : SL} {i n : Nat} (hs : s.a.isSome = true) (hi : i < s.len) (K : Nat × Nat → Option β) : ixK s.a s.len (i : Int) n K = K (s.at i n) := by
  have hb : Nat.blt i s.len = true := by simpa [Nat.blt_eq] using hi
  obtain ⟨q, hq⟩ := Option.isSome_iff_exists.1 hs
  show (match (Int.ofNat i) with | .ofNat j => bif Nat.blt j s.len then need s.a fun q => K (q.1, q.2 + j * n) else none | .negSucc _ => none) = _
  simp only [hb, cond_true, hq, need_some, SL.at, Option.getD_some]
theorem ixK_z {β : Type} {s : SL} {x : Int} {n : Nat} (hs : s.a.isSome = true) (h0 : 0 ≤ x) (hi : x < s.len) (K : Nat × Nat → Option β) : ixK s.a s.len x n K = K (s.at x.toNat n) := by
  obtain ⟨i, rfl⟩ := Int.eq_ofNat_of_zero_le h0
  exact ixK_at hs (by omega) K
/-- the block's cells, if they may be read -/
def rowB : Option Blk → Option (List AV)
  | some (.row cs .own) => some cs
  | some (.row cs .grown) => some cs
  | some (.row cs .ro) => some cs
  | _ => none
theorem cellB_row (b : Option Blk) (i : Nat) : cellB b i = (rowB b).bind fun cs => cs[i]? := by
  unfold cellB rowB
  split <;> simp [List.head?_drop]
theorem cellsB_row (b : Option Blk) (i n : Nat) : cellsB b i n = (rowB b).bind fun cs => (takeN n (cs.drop i)).map AV.agg := by
  unfold cellsB rowB; split <;> simp
/-- a slice shows these cells -/
def Sees (h : Heap) (s : SL) (vs : List AV) : Prop :=
  vs.length = s.len * s.sz ∧ (s.a = none → s.len = 0) ∧ ∀ A off, s.a = some (A, off) → A < h.next ∧ ∃ cs, rowB (h.g A) = some cs ∧ (cs.drop off).take vs.length = vs
theorem Sees.isSome {s : SL} {vs : List AV} (hx : Sees h s vs) (hl : 0 < s.len) : s.a.isSome = true := by
  cases ha : s.a with
  | none => have := hx.2.1 ha; omega
  | some q => rfl
theorem Sees.cell {s : SL} {vs : List AV} (hx : Sees h s vs) (h1 : s.sz = 1) {i : Nat} (hi : i < s.len) : h.cell (s.at i 1) = vs[i]? := by
  obtain ⟨h2, h3, h4⟩ := hx
  cases ha : s.a with
  | none => have := h3 ha; omega
  | some q =>
    obtain ⟨A, off⟩ := q
    obtain ⟨_, cs, h5, h6⟩ := h4 A off ha
    rw [h1, Nat.mul_one] at h2
    simp only [SL.at, ha, Option.getD_some, Heap.cell_g, cellB_row, h5, Option.bind_some, Nat.mul_one]
    rw [← h6, List.getElem?_take, List.getElem?_drop, if_pos (by omega)]
theorem Sees.cells {s : SL} {vs : List AV} (hx : Sees h s vs) {n : Nat} (h1 : s.sz = n) {i : Nat} (hi : i < s.len) : h.cells (s.at i n) n = some (.agg ((vs.drop (i * n)).take n)) := by
  obtain ⟨h2, h3, h4⟩ := hx
  subst h1
  cases ha : s.a with
  | none => have := h3 ha; omega
  | some q =>
    obtain ⟨A, off⟩ := q
    obtain ⟨_, cs, h5, h6⟩ := h4 A off ha
    have hle : i * s.sz + s.sz ≤ s.len * s.sz := by
      rw [← Nat.succ_mul]; exact Nat.mul_le_mul_right _ hi
    have hlen : ((cs.drop off).take vs.length).length = vs.length := by rw [h6]
    rw [List.length_take, List.length_drop] at hlen
    simp only [SL.at, ha, Option.getD_some, Heap.cells_g, cellsB_row, h5, Option.bind_some]
    have ht : ∀ (n : Nat) (l : List AV), n ≤ l.length → takeN n l = some (l.take n) := by
      intro n
      induction n with
      | zero => intro l _; cases l <;> rfl
      | succ n ih =>
        intro l hl
        cases l with
        | nil => simp at hl
        | cons x r => simp only [takeN, ih r (by simpa using hl), List.take_succ_cons]
    rw [ht _ _ (by rw [List.length_drop]; omega)]
    simp only [Option.map_some, Option.some.injEq, AV.agg.injEq]
    rw [← h6, List.drop_take, List.take_take, List.drop_drop, Nat.min_eq_left (by omega)]
/-- blocks below 'B' stay as they are -/
structure Keep (B : Nat) (h h' : Heap) : Prop where
  g : ∀ A, A < B → h'.g A = h.g A
  next : h.next ≤ h'.next
theorem Keep.refl (B : Nat) (h : Heap) : Keep B h h := ⟨fun _ _ => rfl, Nat.le_refl _⟩
theorem Keep.trans {B : Nat} {a b c : Heap} (x : Keep B a b) (y : Keep B b c) : Keep B a c := ⟨fun A hA => (y.g A hA).trans (x.g A hA), Nat.le_trans x.next y.next⟩
theorem Keep.mono {B C : Nat} {a b : Heap} (x : Keep B a b) (hl : C ≤ B) : Keep C a b := ⟨fun A hA => x.g A (by omega), x.next⟩
theorem Keep.push {B : Nat} {h0 h : Heap} (x : Keep B h0 h) (hl : B ≤ h0.next) (b : Blk) : Keep B h0 (h.push b) := ⟨fun A hA => (g_push_ne b (by have := x.next; omega)).trans (x.g A hA), by have := x.next; simp; omega⟩
theorem Keep.put {B : Nat} {h0 h : Heap} (x : Keep B h0 h) {A : Nat} (hl : B ≤ A) (b : Blk) : Keep B h0 (h.put A b) := ⟨fun C hC => (g_put_ne b (by omega)).trans (x.g C hC), x.next⟩
def SL.under (s : SL) (B : Nat) : Prop := ∀ A off, s.a = some (A, off) → A < B
theorem Sees.under {s : SL} {vs : List AV} (hx : Sees h s vs) : s.under h.next := fun A off ha => (hx.2.2 A off ha).1
theorem Sees.keep {B : Nat} (hk : Keep B h h') {s : SL} {vs : List AV} (hu : s.under B) (hx : Sees h s vs) : Sees h' s vs := by
  refine ⟨hx.1, hx.2.1, fun A off ha => ?_⟩
  obtain ⟨h1, cs, h2, h3⟩ := hx.2.2 A off ha
  exact ⟨Nat.lt_of_lt_of_le h1 hk.next, cs, by rw [hk.g A (hu A off ha)]; exact h2, h3⟩
theorem Sees.nil (h : Heap) : Sees h ⟨none, 0, 0, 0⟩ [] := ⟨rfl, fun _ => rfl, fun A off ha => by simp at ha⟩
theorem Sees.nilS (h : Heap) (sz : Nat) : Sees h ⟨none, 0, 0, sz⟩ [] := ⟨by simp, fun _ => rfl, fun A off ha => by simp at ha⟩
/-- a slice of the arguments -/
theorem Rd.sees {t e : TypeId} {as : List AV} {d : DataW H} (hu : P.underlying t = some (.slice e)) (hl : ∀ a (d : DataW H), Rd P h e a d → a.length = P.cellsOf e) (hx : Rd P h t as d) :
    ∃ (s : SL) (ass : List (List AV)), as = [.slice s.a s.len s.cap s.sz] ∧ ass.length = s.len ∧ s.len ≤ 9223372036854775807 ∧ (s.sz = P.cellsOf e ∨ s.len = 0) ∧ Sees h s ass.flatten ∧ ∀ (i : Nat) (a : List AV), ass[i]? = some a → ∃ d : DataW H, Rd P h e a d := by
  rcases Rd.slice_inv hu hx with ⟨rfl, _⟩ | ⟨A, ass, ds, sp, rfl, _, h1, h2, h3, h4, h5⟩
  · exact ⟨⟨none, 0, 0, 0⟩, [], rfl, rfl, by simp, .inr rfl, Sees.nil h, fun i a ha => by simp at ha⟩
  · have hd : ∀ (i : Nat) (a : List AV), ass[i]? = some a → ∃ d : DataW H, Rd P h e a d := by
      intro i a ha
      have hi : i < ds.length := by have := (List.getElem?_eq_some_iff.1 ha).1; omega
      exact ⟨ds[i], h5 i a _ ha (List.getElem?_eq_getElem hi)⟩
    refine ⟨⟨some (A, 0), ds.length, ds.length, P.cellsOf e⟩, ass, rfl, h4, h3, .inl rfl, ⟨?_, fun ha => by simp at ha, fun A' off ha => ?_⟩, hd⟩
    · have : ∀ (l : List (List AV)), (∀ a ∈ l, a.length = P.cellsOf e) → l.flatten.length = l.length * P.cellsOf e := by
        intro l
        induction l with
        | nil => intro _; simp
        | cons a r ih => intro hl; rw [List.flatten_cons, List.length_append, ih (fun x hx => hl x (by simp [hx])), hl a (by simp), List.length_cons, Nat.succ_mul, Nat.add_comm]
      rw [this ass ?_, h4]
      intro a ha
      obtain ⟨i, hi⟩ := List.mem_iff_getElem?.1 ha
      obtain ⟨d, hd⟩ := hd i a hi
      exact hl a d hd
    · simp only [Option.some.injEq, Prod.mk.injEq] at ha
      obtain ⟨rfl, rfl⟩ := ha
      refine ⟨h2, ass.flatten, ?_, by rw [List.drop_zero, List.take_length]⟩
      show rowB (h.t.get A) = _
      rw [h1]; rfl
theorem flat_of {α : Type} (f : α → AV) : ∀ (ass : List (List AV)), (∀ (i : Nat) (a : List AV), ass[i]? = some a → ∃ x, a = [f x]) → ∃ xs : List α, ass.flatten = xs.map f ∧ xs.length = ass.length
  | [], _ => ⟨[], rfl, rfl⟩
  | a :: r, h => by
    obtain ⟨x, rfl⟩ := h 0 a rfl
    obtain ⟨xs, h1, h2⟩ := flat_of f r fun i a ha => h (i + 1) a (by simpa using ha)
    exact ⟨x :: xs, by simp [h1], by simp [h2]⟩
theorem Rd.bools {t e : TypeId} {as : List AV} {d : DataW H} (hu : P.underlying t = some (.slice e)) (he : P.underlying e = some .bool) (hc : P.cellsOf e = 1) (hx : Rd P h t as d) :
    ∃ (s : SL) (bs : List Bool), as = [.slice s.a s.len s.cap s.sz] ∧ (s.sz = 1 ∨ s.len = 0) ∧ s.len ≤ 9223372036854775807 ∧ bs.length = s.len ∧ Sees h s (bs.map AV.bool) := by
  obtain ⟨s, ass, rfl, h1, h2, h3, h4, h5⟩ := Rd.sees hu (fun a d hd => by obtain ⟨b, rfl, _⟩ := Rd.bool_inv he hd; exact hc.symm) hx
  obtain ⟨bs, h6, h7⟩ := flat_of AV.bool ass fun i a ha => by
    obtain ⟨d, hd⟩ := h5 i a ha
    obtain ⟨b, rfl, _⟩ := Rd.bool_inv he hd
    exact ⟨b, rfl⟩
  exact ⟨s, bs, rfl, by rw [← hc]; exact h3, h2, by omega, h6 ▸ h4⟩
theorem Rd.ints {t e : TypeId} {k : IntKind} {as : List AV} {d : DataW H} (hu : P.underlying t = some (.slice e)) (he : P.underlying e = some (.int k)) (hc : P.cellsOf e = 1) (hx : Rd P h t as d) :
    ∃ (s : SL) (l : List Int), as = [.slice s.a s.len s.cap s.sz] ∧ (s.sz = 1 ∨ s.len = 0) ∧ s.len ≤ 9223372036854775807 ∧ l.length = s.len ∧ Sees h s (l.map (AV.int k)) ∧ ∀ x ∈ l, k.min ≤ x ∧ x ≤ k.max := by
  obtain ⟨s, ass, rfl, h1, h2, h3, h4, h5⟩ := Rd.sees hu (fun a d hd => by obtain ⟨b, rfl, _⟩ := Rd.int_inv he hd; exact hc.symm) hx
  obtain ⟨bs, h6, h7⟩ := flat_of (fun x : { n : Int // k.min ≤ n ∧ n ≤ k.max } => AV.int k x.1) ass fun i a ha => by
    obtain ⟨d, hd⟩ := h5 i a ha
    obtain ⟨b, rfl, _, hb⟩ := Rd.int_inv he hd
    exact ⟨⟨b, hb⟩, rfl⟩
  refine ⟨s, bs.map (·.1), rfl, by rw [← hc]; exact h3, h2, by simp; omega, ?_, ?_⟩
  · rw [List.map_map]; exact h6 ▸ h4
  · intro x hx
    obtain ⟨y, _, rfl⟩ := List.mem_map.1 hx
    exact y.2
theorem RdArgs.cons_inv {t : TypeId} {ts : List TypeId} {vs : List AV} {ds : List (DataW H)} (hx : RdArgs P h (t :: ts) vs ds) : ∃ cs d vs' ds', vs = argOf P t cs :: vs' ∧ ds = d :: ds' ∧ Rd P h t cs d ∧ RdArgs P h ts vs' ds' := by
  match vs, ds with
  | a :: vs', d :: ds' => obtain ⟨⟨cs, rfl, h1⟩, h2⟩ := hx; exact ⟨cs, d, vs', ds', rfl, rfl, h1, h2⟩
  | [], _ => simp [RdArgs] at hx
  | _ :: _, [] => simp [RdArgs] at hx
theorem RdArgs.nil_inv {vs : List AV} {ds : List (DataW H)} (hx : RdArgs P h [] vs ds) : vs = [] ∧ ds = [] := by
  match vs, ds with
  | [], [] => exact ⟨rfl, rfl⟩
  | _ :: _, _ => simp [RdArgs] at hx
  | [], _ :: _ => simp [RdArgs] at hx
end
end Go.Proofs.Ytdnmgcffccilkaa.Ai

namespace Go.Proofs.Ytdnmgcffccilkaa.Ai
/-! slices whose elements are one cell each -/
theorem getD_lt {α : Type} (l : List α) (d : α) {n : Nat} (h : n < l.length) : l.getD n d = l[n] := by rw [List.getD_eq_getElem?_getD, List.getElem?_eq_getElem h]; rfl
def SL.av (s : SL) : AV := .slice s.a s.len s.cap s.sz
def SL.blk (s : SL) : Option Nat := s.a.map (·.1)
def One (h : Heap) (s : SL) (vs : List AV) : Prop := s.len = vs.length ∧ (s.sz = 1 ∨ s.len = 0) ∧ Sees h s vs
section
variable {h h' : Heap} {s : SL} {vs : List AV} {B : Nat}
theorem One.ixz {β : Type} (hs : One h s vs) {x : Int} (h0 : 0 ≤ x) (h1 : x < vs.length) (K : Nat × Nat → Option β) : ixK s.a s.len x 1 K = K (s.at x.toNat 1) :=
  ixK_z (hs.2.2.isSome (by have := hs.1; omega)) h0 (by have := hs.1; omega) K
theorem One.cell (hs : One h s vs) {i : Nat} (hi : i < vs.length) : h.cell (s.at i 1) = some vs[i] := by
  have h1 := hs.1
  rw [hs.2.2.cell (by rcases hs.2.1 with h2 | h2 <;> omega) (by omega)]
  exact List.getElem?_eq_getElem hi
theorem One.int {β : Type} {k : IntKind} {l : List Int} (hs : One h s (l.map (AV.int k))) {x : Int} (h0 : 0 ≤ x) (h1 : x < l.length) (K : Int → Option β) :
    (ixK s.a s.len x 1 fun q => bindV (.val (.one (.int k))) (h.cell q) K) = K (l.getD x.toNat 0) := by
  rw [hs.ixz h0 (by simpa using h1), hs.cell (by simp; omega)]
  simp only [List.getElem_map, bindV_some, cast_int, List.getD]
  rw [List.getElem?_eq_getElem (by omega)]; rfl
theorem One.bool {β : Type} {l : List Bool} (hs : One h s (l.map AV.bool)) {x : Int} (h0 : 0 ≤ x) (h1 : x < l.length) (K : Bool → Option β) :
    (ixK s.a s.len x 1 fun q => bindV (.val (.one .bool)) (h.cell q) K) = K (l.getD x.toNat false) := by
  rw [hs.ixz h0 (by simpa using h1), hs.cell (by simp; omega)]
  simp only [List.getElem_map, bindV_some, cast_bool, List.getD]
  rw [List.getElem?_eq_getElem (by omega)]; rfl
theorem One.sl {β : Type} {l : List SL} (hs : One h s (l.map SL.av)) {x : Int} (h0 : 0 ≤ x) (h1 : x < l.length) (K : SL → Option β) :
    (ixK s.a s.len x 1 fun q => bindV (.val (.one .slice)) (h.cell q) K) = K (l.getD x.toNat ⟨none, 0, 0, 0⟩) := by
  rw [hs.ixz h0 (by simpa using h1), hs.cell (by simp; omega)]
  simp only [List.getElem_map, bindV_some, SL.av, cast_slice, List.getD]
  rw [List.getElem?_eq_getElem (by omega)]; rfl
theorem One.keep (hk : Keep B h h') (hu : s.under B) (hs : One h s vs) : One h' s vs := ⟨hs.1, hs.2.1, hs.2.2.keep hk hu⟩
theorem One.nil (h : Heap) : One h ⟨none, 0, 0, 0⟩ [] := ⟨rfl, .inr rfl, Sees.nil h⟩

/-- a slice of one's own, its elements one cell each -/
def Own1 (B : Nat) (h : Heap) (s : SL) (vs : List AV) : Prop :=
  (s.a = none ∧ s.len = 0 ∧ s.cap = 0 ∧ vs = []) ∨
  ∃ A cs st, s.a = some (A, 0) ∧ s.sz = 1 ∧ B ≤ A ∧ A < h.next ∧ h.g A = some (.row cs st) ∧ s.len = vs.length ∧ vs.length ≤ cs.length ∧ cs.take vs.length = vs ∧ s.len ≤ s.cap ∧ (st = .grown ∨ (st = .own ∧ s.cap = cs.length))
theorem Own1.nil (B : Nat) (h : Heap) (z : Nat) : Own1 B h ⟨none, 0, 0, z⟩ [] := .inl ⟨rfl, rfl, rfl, rfl⟩
theorem Own1.len (hs : Own1 B h s vs) : s.len = vs.length := by
  rcases hs with ⟨_, h1, _, rfl⟩ | ⟨A, cs, st, _, _, _, _, _, h1, _⟩
  · exact h1
  · exact h1
theorem Own1.one (hs : Own1 B h s vs) : One h s vs := by
  rcases hs with ⟨h1, h2, h3, rfl⟩ | ⟨A, cs, st, h1, h2, h3, h4, h5, h6, h7, h8, h9⟩
  · exact ⟨h2, .inr h2, by simp [h2], fun _ => h2, fun A off ha => by rw [h1] at ha; cases ha⟩
  · obtain ⟨h0, h9⟩ := h9
    refine ⟨h6, .inl h2, ⟨by rw [h2, h6]; simp, fun ha => (by rw [h1] at ha; cases ha), fun A' off ha => ?_⟩⟩
    rw [h1] at ha
    simp only [Option.some.injEq, Prod.mk.injEq] at ha
    obtain ⟨rfl, rfl⟩ := ha
    refine ⟨h4, cs, ?_, by simpa using h8⟩
    rw [h5]
    rcases h9 with rfl | ⟨rfl, _⟩ <;> rfl
/-- all but one block stay as they are -/
structure But (o : Option Nat) (h h' : Heap) : Prop where
  g : ∀ A, A < h.next → o ≠ some A → h'.g A = h.g A
  next : h.next ≤ h'.next
theorem But.keep {o : Option Nat} (hb : But o h h') (hl : B ≤ h.next) (ho : ∀ A, o = some A → B ≤ A) : Keep B h h' := ⟨fun A hA => hb.g A (by omega) (fun e => by have := ho A e; omega), hb.next⟩
theorem Own1.ge (hs : Own1 B h s vs) : ∀ A, s.blk = some A → B ≤ A ∧ A < h.next := by
  intro A hA
  rcases hs with ⟨h1, _⟩ | ⟨A', cs, st, h1, h2, h3, h4, _⟩
  · simp [SL.blk, h1] at hA
  · simp [SL.blk, h1] at hA; subst hA; exact ⟨h3, h4⟩
theorem Own1.but {o : Option Nat} (hb : But o h h') (hne : ∀ A, s.blk = some A → o ≠ some A) (hs : Own1 B h s vs) : Own1 B h' s vs := by
  rcases hs with h1 | ⟨A, cs, st, h1, h2, h3, h4, h5, h6⟩
  · exact .inl h1
  · exact .inr ⟨A, cs, st, h1, h2, h3, Nat.lt_of_lt_of_le h4 hb.next, by rw [hb.g A h4 (hne A (by simp [SL.blk, h1]))]; exact h5, h6⟩
theorem Own1.push (hs : Own1 B h s vs) (b : Blk) : Own1 B (h.push b) s vs := by
  rcases hs with h1 | ⟨A, cs, st, h1, h2, h3, h4, h5, h6⟩
  · exact .inl h1
  · exact .inr ⟨A, cs, st, h1, h2, h3, by simp; omega, by rw [g_push_ne _ (by omega)]; exact h5, h6⟩
theorem But.push (h : Heap) (o : Option Nat) (b : Blk) : But o h (h.push b) := ⟨fun A hA _ => g_push_ne b (by omega), by simp⟩
theorem But.trans {o : Option Nat} {a b c : Heap} (x : But o a b) (y : But o b c) : But o a c := ⟨fun A hA hne => (y.g A (Nat.lt_of_lt_of_le hA x.next) hne).trans (x.g A hA hne), Nat.le_trans x.next y.next⟩
theorem But.refl (o : Option Nat) (h : Heap) : But o h h := ⟨fun _ _ _ => rfl, Nat.le_refl _⟩

theorem But.step {o o' : Option Nat} {a b c : Heap} (x : But o a b) (ho : o' = o ∨ ∃ A, o' = some A ∧ a.next ≤ A) (y : But o' b c) : But o a c :=
  ⟨fun A hA hne => (y.g A (Nat.lt_of_lt_of_le hA x.next) (by
    rcases ho with rfl | ⟨A', rfl, h⟩
    · exact hne
    · intro e; cases e; omega)).trans (x.g A hA hne), Nat.le_trans x.next y.next⟩
/-- what is known of a slice type whose elements are one cell -/
structure App1 (E : Env) (st e : TypeId) : Prop where
  und : E.und st = some (.slice e)
  info : ∃ i, E.info e = some i ∧ i.size = 1 ∧ i.bytes ≤ 1000
  zero : ∃ z, E.zero e = some z ∧ z.cells.length = 1
theorem App1.of {E : Env} {st e : TypeId} (hu : E.und st = some (.slice e)) (hi : (match E.info e with | some i => Nat.beq i.size 1 && Nat.ble i.bytes 1000 | none => false) = true)
    (hz : (match E.zero e with | some z => Nat.beq z.cells.length 1 | none => false) = true) : App1 E st e := by
  refine ⟨hu, ?_, ?_⟩
  · cases h : E.info e with
    | none => simp [h] at hi
    | some i => simp [h] at hi; exact ⟨i, rfl, hi.1, hi.2⟩
  · cases h : E.zero e with
    | none => simp [h] at hz
    | some z => simp [h] at hz; exact ⟨z, rfl, hz⟩
theorem takeN_of : ∀ (n : Nat) (l : List AV), n ≤ l.length → takeN n l = some (l.take n)
  | 0, l, _ => by cases l <;> rfl
  | n + 1, [], h => by simp at h
  | n + 1, x :: r, h => by simp only [takeN, takeN_of n r (by simpa using h), List.take_succ_cons]
theorem over_one : ∀ (n : Nat) (cs : List AV) (v : AV), n < cs.length → over n cs [v] = some (cs.set n v)
  | 0, c :: cs, v, _ => by rw [over_zero, over_nil]; rfl
  | n + 1, c :: cs, v, h => by rw [over_succ, over_one n cs v (by simpa using h)]; rfl
  | _, [], _, h => by simp at h
theorem append_own1 {E : Env} {st e : TypeId} (ha : App1 E st e) {v : AV} (hv : AV.single v = true) (hs : Own1 B h s vs) (hb : B ≤ h.next) (hl : vs.length ≤ 100000) :
    ∃ s' h', appendA E st st (.slice s.a s.len s.cap s.sz) (.slice (some (h.next, 0)) 1 1 1) (h.push (.row [v] .own)) = some (.slice s'.a s'.len s'.cap s'.sz, h') ∧ Own1 B h' s' (vs ++ [v]) ∧ But s.blk h h' ∧ (s'.blk = s.blk ∨ ∃ A, s'.blk = some A ∧ h.next ≤ A) := by
  obtain ⟨hu, ⟨i, hi, hi1, hi2⟩, ⟨z, hz, hz1⟩⟩ := ha
  have hr : (h.push (.row [v] .own)).read h.next 0 1 = some [v] := by
    have : (h.push (.row [v] .own)).row h.next = some [v] := (Heap.is_push h [v]).row
    simp only [Heap.read, this, List.drop_zero]; rfl
  have hlen := hs.len
  have hroom : Nat.ble ((s.len + 1) * (i.bytes + i.size + 1)) roomA = true := by
    have h1 : (s.len + 1) * (i.bytes + i.size + 1) ≤ 100001 * 1002 := Nat.mul_le_mul (by omega) (by omega)
    simp only [roomA, Nat.ble_eq]; omega
  have hsz : (Nat.beq s.sz i.size || s.a.isNone) = true := by
    rcases hs with ⟨h1, _⟩ | ⟨A, cs, st', h1, h2, _⟩
    · simp [h1]
    · simp [hi1, h2]
  have key : appendA E st st (.slice s.a s.len s.cap s.sz) (.slice (some (h.next, 0)) 1 1 1) (h.push (.row [v] .own)) = growA (h.push (.row [v] .own)) s.a s.len s.cap 1 1 [v] := by
    have hall : List.all [v] AV.single = true := by simp [hv]
    have hz2 : Nat.beq z.cells.length i.size = true := by rw [hz1, hi1]; rfl
    have hnl : Nat.beq (List.length [v]) (1 * i.size) = true := by rw [hi1]; rfl
    simp only [appendA, hu, isIntD, cond_false, hi, hz, lenOfA, firstCellsA, hi1, Nat.one_mul, hr]
    rw [hi1] at hroom hsz hz2
    simp only [show Nat.beq 1 0 = false from rfl, cond_false, hroom, hsz, hz2, hall, show Nat.beq (List.length [v]) 1 = true from rfl, Bool.and_self, cond_true]
  rw [key]
  rcases hs with ⟨h1, h2, h3, rfl⟩ | ⟨A, cs, st', h1, h2, h3, h4, h5, h6, h7, h8, h9⟩
  · refine ⟨⟨some (h.next + 1, 0), 1, 1, 1⟩, (h.push (.row [v] .own)).push (.row [v] .grown), by simp only [growA, h1, h2]; rfl, .inr ⟨h.next + 1, [v], .grown, rfl, rfl, by omega, by simp, g_push_eq _ rfl, rfl, by simp, by simp, by simp, .inl rfl⟩, (But.push h _ _).trans ⟨fun A hA _ => g_push_ne _ (by simp at hA ⊢; omega), by simp⟩, .inr ⟨h.next + 1, rfl, by omega⟩⟩
  · have hg : (h.push (.row [v] .own)).t.get A = some (.row cs st') := by
      have := g_push_ne (h := h) (A := A) (.row [v] .own) (by omega)
      unfold Heap.g at this h5
      rw [this, h5]
    obtain ⟨h0, h9⟩ := h9
    rcases h9 with rfl | ⟨rfl, h10⟩
    · refine ⟨⟨some (h.next + 1, 0), s.len + 1, s.len + 1, 1⟩, ((h.push (.row [v] .own)).put A (.row cs .dead)).push (.row (vs ++ [v]) .grown), ?_, .inr ⟨h.next + 1, vs ++ [v], .grown, rfl, rfl, by omega, by simp, g_push_eq _ rfl, by simp [h6], by simp, List.take_of_length_le (by simp), by simp, .inl rfl⟩, ?_, .inr ⟨h.next + 1, rfl, by omega⟩⟩
      · simp only [growA, h1, hg, Nat.mul_one, List.drop_zero]
        rw [takeN_of _ _ (by omega)]
        simp only [h6, h8]
        rfl
      · refine ⟨fun C hC hne => ?_, by simp; omega⟩
        have hCA : C ≠ A := fun e => hne (by simp [SL.blk, h1, e])
        rw [g_push_ne _ (by simp; omega), g_put_ne _ hCA, g_push_ne _ (by omega)]
    · by_cases hc : s.len + 1 ≤ s.cap
      · have hb1 : Nat.ble (s.len + 1) s.cap = true := by simpa using hc
        refine ⟨⟨some (A, 0), s.len + 1, s.cap, 1⟩, (h.push (.row [v] .own)).put A (.row (cs.set s.len v) .own), ?_, .inr ⟨A, cs.set s.len v, .own, rfl, rfl, h3, by simp; omega, g_put_eq _ rfl, by simp [h6], by simp; omega, ?_, hc, .inr ⟨rfl, by simp [h10]⟩⟩, ?_, .inl (by simp [SL.blk, h1])⟩
        · simp only [growA, h1, hg, Nat.mul_one, List.drop_zero, Nat.zero_add]
          rw [takeN_of _ _ (by omega)]
          simp only [hb1, cond_true, over_one _ _ _ (show s.len < cs.length by omega)]
        · rw [List.length_append, List.length_singleton, List.take_set, h6, List.take_succ_eq_append_getElem (by omega), h8]
          rw [List.set_append_right _ _ (by simp)]
          simp
        · refine ⟨fun C hC hne => ?_, by simp⟩
          have hCA : C ≠ A := fun e => hne (by simp [SL.blk, h1, e])
          rw [g_put_ne _ hCA, g_push_ne _ (by omega)]
      · have hb1 : Nat.ble (s.len + 1) s.cap = false := by
          cases hx : Nat.ble (s.len + 1) s.cap with
          | false => rfl
          | true => exact absurd (by simpa using hx) hc
        refine ⟨⟨some (h.next + 1, 0), s.len + 1, s.len + 1, 1⟩, (h.push (.row [v] .own)).push (.row (vs ++ [v]) .grown), ?_, .inr ⟨h.next + 1, vs ++ [v], .grown, rfl, rfl, by omega, by simp, g_push_eq _ rfl, by simp [h6], by simp, List.take_of_length_le (by simp), by simp, .inl rfl⟩, ?_, .inr ⟨h.next + 1, rfl, by omega⟩⟩
        · simp only [growA, h1, hg, Nat.mul_one, List.drop_zero, Nat.zero_add]
          rw [takeN_of _ _ (by omega)]
          have hb2 := hb1
          rw [h6] at hb2
          simp only [h6, hb2, cond_false, h8]
          rfl
        · refine ⟨fun C hC hne => ?_, by simp; omega⟩
          rw [g_push_ne _ (by simp; omega), g_push_ne _ (by omega)]
/-- a store into a slice of one's own -/
theorem store_own1 (hs : Own1 B h s vs) {i : Nat} (hi : i < vs.length) (v : AV) : ∃ h', h.store (s.at i 1) [v] = some h' ∧ Own1 B h' s (vs.set i v) ∧ But s.blk h h' ∧ h'.next = h.next := by
  rcases hs with ⟨h1, h2, h3, rfl⟩ | ⟨A, cs, st, h1, h2, h3, h4, h5, h6, h7, h8, h9⟩
  · simp at hi
  · have hov := over_one i cs v (by omega)
    have hrow : h.rowW A = some (cs, st) := by
      unfold Heap.g at h5
      simp only [Heap.rowW, h5]
      rcases h9 with ⟨_, rfl | ⟨rfl, _⟩⟩ <;> rfl
    refine ⟨h.put A (.row (cs.set i v) st), ?_, .inr ⟨A, cs.set i v, st, h1, h2, h3, h4, g_put_eq _ rfl, by simpa using h6, by simpa using h7, ?_, ?_⟩, ⟨fun C hC hne => g_put_ne _ (fun e => hne (by simp [SL.blk, h1, e])), Nat.le_refl _⟩, rfl⟩
    · simp only [Heap.store, SL.at, h1, Option.getD_some, Nat.zero_add, Nat.mul_one, hrow, hov]
    · rw [List.length_set, List.take_set, h8]
    · rw [List.length_set]; exact h9
/-- the front of a slice of one's own -/
theorem front_own1 {E : Env} {st e : TypeId} (ha : App1 E st e) (hs : Own1 B h s vs) {n : Nat} (hn : n ≤ vs.length) :
    ∃ s', sliceA E h st (.slice s.a s.len s.cap s.sz) none (some (.int .i64 (n : Int))) = some (.slice s'.a s'.len s'.cap s'.sz) ∧ Own1 B h s' (vs.take n) ∧ s'.blk = s.blk := by
  obtain ⟨hu, ⟨i, hi, hi1, hi2⟩, _⟩ := ha
  have hsz : E.size e = some 1 := by simp [Env.size, hi, hi1]
  rcases hs with ⟨h1, h2, h3, rfl⟩ | ⟨A, cs, st', h1, h2, h3, h4, h5, h6, h7, h8, h0, h9⟩
  · obtain rfl : n = 0 := by simpa using hn
    refine ⟨⟨none, 0, 0, s.sz⟩, ?_, .inl ⟨rfl, rfl, rfl, by simp⟩, by simp [SL.blk, h1]⟩
    simp only [sliceA, hu, h1, h2, h3, hsz, boundA, natOf]
    rfl
  · have hb : Nat.ble n s.cap = true := by simp; omega
    refine ⟨⟨some (A, 0), n, s.cap, 1⟩, ?_, .inr ⟨A, cs, st', rfl, rfl, h3, h4, h5, by simp; omega, by simp; omega, ?_, by simp; omega, h9⟩, by simp [SL.blk, h1]⟩
    · have hnat : natOf (.int .i64 (n : Int)) = some n := rfl
      simp only [sliceA, hu, h1, h2, hsz, show Nat.beq 1 1 = true from rfl, cond_true, boundA, hnat, hb, Nat.zero_mul, Nat.add_zero, Nat.sub_zero]
    · rw [List.length_take, Nat.min_eq_left hn, ← h8, List.take_take, Nat.min_eq_left hn]
/-- make -/
theorem make1 {E : Env} {st e : TypeId} (ha : App1 E st e) (z : AV) (hz : E.zero e = some z) (hz1 : AV.single z = true) (n : Nat) (hn : n ≤ 100000) (h : Heap) :
    makeSliceA E st (.int .i64 (n : Int)) (.int .i64 (n : Int)) h = some (.slice (some (h.next, 0)) n n 1, h.push (.row (List.replicate n z) .own)) ∧ Own1 h.next (h.push (.row (List.replicate n z) .own)) ⟨some (h.next, 0), n, n, 1⟩ (List.replicate n z) := by
  obtain ⟨hu, ⟨i, hi, hi1, hi2⟩, _⟩ := ha
  have hzc : z.cells = [z] := by cases z <;> simp [AV.single] at hz1 <;> rfl
  have hroom : Nat.ble (n * (i.bytes + i.size + 1)) roomA = true := by
    have h1 : n * (i.bytes + i.size + 1) ≤ 100000 * 1002 := Nat.mul_le_mul (by omega) (by omega)
    simp only [roomA, Nat.ble_eq]; omega
  have hrep : ∀ n, repL n [z] = List.replicate n z := by
    intro n
    induction n with
    | zero => rfl
    | succ n ih => simp only [repL, ih, List.singleton_append, List.replicate_succ]
  refine ⟨?_, .inr ⟨h.next, _, .own, rfl, rfl, Nat.le_refl _, by simp, g_push_eq _ rfl, by simp, by simp, by simp, Nat.le_refl _, .inr ⟨rfl, by simp⟩⟩⟩
  have hb : Nat.ble n n = true := by simp
  rw [hi1] at hroom
  simp only [makeSliceA, hu, natOf, hi, hz, hb, hi1, hroom, hzc, List.length_singleton, show Nat.beq 1 1 = true from rfl, Bool.and_self, cond_true, hrep]
end
end Go.Proofs.Ytdnmgcffccilkaa.Ai

namespace Go.Proofs.Ytdnmgcffccilkaa.Ai
section
variable {h h' : Heap} {s x : SL} {vs ws : List AV} {B : Nat}
theorem over_many : ∀ (n : Nat) (cs ws : List AV), n + ws.length ≤ cs.length → over n cs ws = some (cs.take n ++ ws ++ cs.drop (n + ws.length))
  | n, cs, [], h => by rw [over_nil]; simp
  | 0, [], w :: ws, h => by simp at h
  | n + 1, [], w :: ws, h => by simp at h
  | 0, c :: cs, w :: ws, h => by
    rw [over_zero, over_many 0 cs ws (by simpa using h)]
    simp
  | n + 1, c :: cs, w :: ws, h => by
    rw [over_succ, over_many n cs (w :: ws) (by simp at h ⊢; omega)]
    simp only [Option.map_some, List.take_succ_cons, List.cons_append, List.length_cons, Option.some.injEq, List.cons.injEq, true_and]
    rw [show n + 1 + (ws.length + 1) = (n + (ws.length + 1)) + 1 by omega, List.drop_succ_cons]
theorem row_of_rowB (A : Nat) {cs : List AV} (hr : rowB (h.g A) = some cs) : h.row A = some cs := by
  unfold Heap.g at hr
  unfold Heap.row
  revert hr
  cases h.t.get A with
  | none => intro hr; simp [rowB] at hr
  | some b =>
    cases b with
    | row cs' st => cases st <;> simp [rowB]
    | _ => intro hr; simp [rowB] at hr
theorem One.first (hx : One h x ws) : firstCellsA h 1 x.len (.slice x.a x.len x.cap x.sz) = some ws := by
  obtain ⟨h1, h2, h3, h4, h5⟩ := hx
  cases ha : x.a with
  | none =>
    have hl : ws.length = 0 := by have := h4 ha; omega
    have : ws = [] := List.length_eq_zero_iff.1 hl
    subst this; rfl
  | some q =>
    obtain ⟨A, off⟩ := q
    obtain ⟨h6, cs, h7, h8⟩ := h5 A off ha
    have hlen : ((cs.drop off).take ws.length).length = ws.length := by rw [h8]
    rw [List.length_take] at hlen
    simp only [firstCellsA, Heap.read, row_of_rowB A h7, Nat.mul_one]
    rw [takeN_of _ _ (by omega), h1, h8]
theorem append_ownN {E : Env} {st e : TypeId} (ha : App1 E st e) (hx : One h x ws) (hv : ∀ w ∈ ws, AV.single w = true) (hs : Own1 B h s vs) (hb : B ≤ h.next) (hl : vs.length + ws.length ≤ 100000) :
    ∃ s' h', appendA E st st (.slice s.a s.len s.cap s.sz) (.slice x.a x.len x.cap x.sz) h = some (.slice s'.a s'.len s'.cap s'.sz, h') ∧ Own1 B h' s' (vs ++ ws) ∧ But s.blk h h' ∧ (s'.blk = s.blk ∨ ∃ A, s'.blk = some A ∧ h.next ≤ A) := by
  obtain ⟨hu, ⟨i, hi, hi1, hi2⟩, ⟨z, hz, hz1⟩⟩ := ha
  have hlen := hs.len
  have hxl := hx.1
  have hfirst := hx.first
  by_cases hn : ws = []
  · subst hn
    have hx0 : x.len = 0 := by simpa using hxl
    refine ⟨s, h, ?_, by simpa using hs, But.refl _ _, .inl rfl⟩
    rw [hx0] at hfirst
    simp only [appendA, hu, isIntD, cond_false, hi, hz, lenOfA, hi1, hx0, hfirst, show Nat.beq 0 0 = true from rfl, cond_true]
  have hn0 : Nat.beq x.len 0 = false := by
    cases hq : Nat.beq x.len 0 with
    | false => rfl
    | true =>
      have : x.len = 0 := Nat.eq_of_beq_eq_true hq
      exact absurd (List.length_eq_zero_iff.1 (by omega)) hn
  have hpos : 0 < ws.length := List.length_pos_iff.2 hn
  have hroom : Nat.ble ((s.len + x.len) * (i.bytes + i.size + 1)) roomA = true := by
    have h1 : (s.len + x.len) * (i.bytes + i.size + 1) ≤ 100000 * 1002 := Nat.mul_le_mul (by omega) (by omega)
    simp only [roomA, Nat.ble_eq]; omega
  have hsz : (Nat.beq s.sz i.size || s.a.isNone) = true := by
    rcases hs with ⟨h1, _⟩ | ⟨A, cs, st', h1, h2, _⟩
    · simp [h1]
    · simp [hi1, h2]
  have key : appendA E st st (.slice s.a s.len s.cap s.sz) (.slice x.a x.len x.cap x.sz) h = growA h s.a s.len s.cap 1 x.len ws := by
    have hall : List.all ws AV.single = true := by rw [List.all_eq_true]; exact hv
    have hz2 : Nat.beq z.cells.length 1 = true := by rw [hz1]; rfl
    have hnl : Nat.beq (List.length ws) (x.len * 1) = true := by rw [Nat.mul_one, hxl]; exact Nat.beq_refl _
    rw [hi1] at hroom hsz
    simp only [appendA, hu, isIntD, cond_false, hi, hz, lenOfA, hi1, hfirst, hn0, hroom, hsz, hz2, hnl, hall, Bool.and_self, cond_true]
  rw [key]
  rcases hs with ⟨h1, h2, h3, rfl⟩ | ⟨A, cs, st', h1, h2, h3, h4, h5, h6, h7, h8, h0, h9⟩
  · refine ⟨⟨some (h.next, 0), x.len, x.len, 1⟩, h.push (.row ws .grown), by simp only [growA, h1, h2, Nat.zero_add], .inr ⟨h.next, ws, .grown, rfl, rfl, hb, by simp, g_push_eq _ rfl, by simpa using hxl, by simp, by simp, Nat.le_refl _, .inl rfl⟩, But.push h _ _, .inr ⟨h.next, rfl, Nat.le_refl _⟩⟩
  · have hg : h.t.get A = some (.row cs st') := h5
    have ht : takeN vs.length cs = some vs := by rw [takeN_of _ _ (by omega), h8]
    rcases h9 with rfl | ⟨rfl, h10⟩
    · refine ⟨⟨some (h.next, 0), s.len + x.len, s.len + x.len, 1⟩, (h.put A (.row cs .dead)).push (.row (vs ++ ws) .grown), ?_, .inr ⟨h.next, vs ++ ws, .grown, rfl, rfl, hb, by simp, g_push_eq _ rfl, by simp [h6, hxl], by simp, List.take_of_length_le (by simp), Nat.le_refl _, .inl rfl⟩, ?_, .inr ⟨h.next, rfl, Nat.le_refl _⟩⟩
      · simp only [growA, h1, hg, Nat.mul_one, List.drop_zero]
        rw [h6]
        simp only [ht]
      · refine ⟨fun C hC hne => ?_, by simp⟩
        have hCA : C ≠ A := fun e => hne (by simp [SL.blk, h1, e])
        rw [g_push_ne _ (by simp; omega), g_put_ne _ hCA]
    · by_cases hc : s.len + x.len ≤ s.cap
      · have hb1 : Nat.ble (s.len + x.len) s.cap = true := by simpa using hc
        have hov := over_many s.len cs ws (by omega)
        refine ⟨⟨some (A, 0), s.len + x.len, s.cap, 1⟩, h.put A (.row (cs.take s.len ++ ws ++ cs.drop (s.len + ws.length)) .own), ?_, .inr ⟨A, _, .own, rfl, rfl, h3, by simp; omega, g_put_eq _ rfl, by simp [h6, hxl], by simp; omega, ?_, hc, .inr ⟨rfl, ?_⟩⟩, ?_, .inl (by simp [SL.blk, h1])⟩
        · simp only [growA, h1, hg, Nat.mul_one, List.drop_zero, Nat.zero_add]
          rw [h6] at hov hb1 ⊢
          simp only [ht, hb1, cond_true, hov]
        · rw [List.length_append, h6, h8, List.take_append_of_le_length (by simp)]
          rw [List.take_of_length_le (by simp)]
        · simp only [List.length_append, List.length_take, List.length_drop]; omega
        · refine ⟨fun C hC hne => ?_, Nat.le_refl _⟩
          have hCA : C ≠ A := fun e => hne (by simp [SL.blk, h1, e])
          rw [g_put_ne _ hCA]
      · have hb1 : Nat.ble (s.len + x.len) s.cap = false := by
          cases hx : Nat.ble (s.len + x.len) s.cap with
          | false => rfl
          | true => exact absurd (by simpa using hx) hc
        refine ⟨⟨some (h.next, 0), s.len + x.len, s.len + x.len, 1⟩, h.push (.row (vs ++ ws) .grown), ?_, .inr ⟨h.next, vs ++ ws, .grown, rfl, rfl, hb, by simp, g_push_eq _ rfl, by simp [h6, hxl], by simp, List.take_of_length_le (by simp), Nat.le_refl _, .inl rfl⟩, ?_, .inr ⟨h.next, rfl, Nat.le_refl _⟩⟩
        · simp only [growA, h1, hg, Nat.mul_one, List.drop_zero, Nat.zero_add]
          rw [h6] at hb1 ⊢
          simp only [ht, hb1, cond_false]
        · refine ⟨fun C hC hne => ?_, by simp⟩
          rw [g_push_ne _ (by omega)]
end
end Go.Proofs.Ytdnmgcffccilkaa.Ai
