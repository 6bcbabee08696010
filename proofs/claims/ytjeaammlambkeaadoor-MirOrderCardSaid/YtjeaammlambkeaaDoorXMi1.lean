import Derived.Test.YtjeaammlambkeaaDoorAi3
import Derived.Shelf.Strings.OnBuilder
import Derived.Test.YtjeaammlambkeaaDoorProg
/- Functions of the program as plain functions, and what they come to; part 1. -/
set_option linter.unusedVariables false
set_option linter.unusedSimpArgs false
open Go Go.Proofs.YtjeaammlambkeaaDoor.Ai
namespace Go.Proofs.YtjeaammlambkeaaDoor.Mi
/-! orders of lists by their first unlike thing -/
def Lx {α : Type} (lt : α → α → Prop) : List α → List α → Prop
  | _, [] => False
  | [], _ :: _ => True
  | a :: x, b :: y => lt a b ∨ (a = b ∧ Lx lt x y)
structure Ord {α : Type} (lt : α → α → Prop) : Prop where
  irr : ∀ a, ¬ lt a a
  tr : ∀ a b c, lt a b → lt b c → lt a c
  tri : ∀ a b, lt a b ∨ a = b ∨ lt b a
theorem Lx.irr {α : Type} {lt : α → α → Prop} (o : Ord lt) : ∀ l : List α, ¬ Lx lt l l
  | [] => fun h => h
  | a :: l => fun h => by
    rcases h with h | ⟨_, h⟩
    · exact o.irr _ h
    · exact Lx.irr o l h
theorem Lx.tr {α : Type} {lt : α → α → Prop} (o : Ord lt) : ∀ a b c : List α, Lx lt a b → Lx lt b c → Lx lt a c
  | a, [], c, h, _ => by cases a <;> exact absurd h (fun h => h)
  | a, b :: y, [], _, h => absurd h (fun h => h)
  | [], _ :: _, _ :: _, _, _ => trivial
  | a :: x, b :: y, c :: z, h1, h2 => by
    rcases h1 with h1 | ⟨rfl, h1⟩
    · rcases h2 with h2 | ⟨rfl, h2⟩
      · exact .inl (o.tr _ _ _ h1 h2)
      · exact .inl h1
    · rcases h2 with h2 | ⟨rfl, h2⟩
      · exact .inl h2
      · exact .inr ⟨rfl, Lx.tr o x y z h1 h2⟩
theorem Lx.tri {α : Type} {lt : α → α → Prop} (o : Ord lt) : ∀ a b : List α, Lx lt a b ∨ a = b ∨ Lx lt b a
  | [], [] => .inr (.inl rfl)
  | [], _ :: _ => .inl trivial
  | _ :: _, [] => .inr (.inr trivial)
  | a :: x, b :: y => by
    rcases o.tri a b with h | rfl | h
    · exact .inl (.inl h)
    · rcases Lx.tri o x y with h | rfl | h
      · exact .inl (.inr ⟨rfl, h⟩)
      · exact .inr (.inl rfl)
      · exact .inr (.inr (.inr ⟨rfl, h⟩))
    · exact .inr (.inr (.inl h))
theorem Lx.ord {α : Type} {lt : α → α → Prop} (o : Ord lt) : Ord (Lx lt) := ⟨Lx.irr o, Lx.tr o, Lx.tri o⟩
theorem Lx.pre {α : Type} {lt : α → α → Prop} (o : Ord lt) : ∀ l t : List α, ¬ Lx lt (l ++ t) l
  | [], t => by cases t <;> exact fun h => h
  | a :: l, t => fun h => by
    rcases h with h | ⟨_, h⟩
    · exact o.irr _ h
    · exact Lx.pre o l t h
def ltU (a b : UInt8) : Prop := a.toNat < b.toNat
theorem ltU_ord : Ord ltU := ⟨fun a h => by unfold ltU at h; omega, fun a b c h1 h2 => by unfold ltU at *; omega, fun a b => by
  unfold ltU
  rcases Nat.lt_trichotomy a.toNat b.toNat with h | h | h
  · exact .inl h
  · exact .inr (.inl (UInt8.toNat.inj h))
  · exact .inr (.inr h)⟩
abbrev ltB := Lx ltU
theorem ltB_ord : Ord ltB := Lx.ord ltU_ord
theorem bytesLt_iff : ∀ x y : List UInt8, bytesLt x y = true ↔ ltB x y
  | [], [] => by simp [bytesLt, Lx]
  | _ :: _, [] => by simp [bytesLt, Lx]
  | [], _ :: _ => by simp [bytesLt, Lx]
  | a :: x, b :: y => by
    have ih := bytesLt_iff x y
    by_cases h : a.toNat < b.toNat
    · have : Nat.blt a.toNat b.toNat = true := by simpa [Nat.blt_eq] using h
      simp only [bytesLt, this, cond_true, Lx, true_iff]
      exact .inl h
    · have h1 : Nat.blt a.toNat b.toNat = false := by
        cases hq : Nat.blt a.toNat b.toNat with
        | false => rfl
        | true => exact absurd (by simpa [Nat.blt_eq] using hq) h
      by_cases h2 : a.toNat = b.toNat
      · have h3 : Nat.beq a.toNat b.toNat = true := by simpa using h2
        have h4 : a = b := UInt8.toNat.inj h2
        simp only [bytesLt, h1, h3, cond_true, cond_false, Lx]
        rw [ih]
        constructor
        · intro q; exact .inr ⟨h4, q⟩
        · rintro (q | ⟨_, q⟩)
          · exact absurd q h
          · exact q
      · have h3 : Nat.beq a.toNat b.toNat = false := by
          cases hq : Nat.beq a.toNat b.toNat with
          | false => rfl
          | true => exact absurd (by simpa using hq) h2
        simp only [bytesLt, h1, h3, cond_false, Lx, Bool.false_eq_true, false_iff]
        rintro (q | ⟨q, _⟩)
        · exact h q
        · exact h2 (by rw [q])
theorem eqBytes_iff : ∀ x y : List UInt8, eqBytes x y = true ↔ x = y
  | [], [] => by simp [eqBytes]
  | _ :: _, [] => by simp [eqBytes]
  | [], _ :: _ => by simp [eqBytes]
  | a :: x, b :: y => by
    have ih := eqBytes_iff x y
    by_cases h2 : a.toNat = b.toNat
    · have h3 : Nat.beq a.toNat b.toNat = true := by simpa using h2
      have h4 : a = b := UInt8.toNat.inj h2
      simp only [eqBytes, h3, cond_true, ih, List.cons.injEq]
      exact ⟨fun q => ⟨h4, q⟩, fun q => q.2⟩
    · have h3 : Nat.beq a.toNat b.toNat = false := by
        cases hq : Nat.beq a.toNat b.toNat with
        | false => rfl
        | true => exact absurd (by simpa using hq) h2
      simp only [eqBytes, h3, cond_false, Bool.false_eq_true, false_iff, List.cons.injEq, not_and]
      exact fun q => absurd (by rw [q]) h2
theorem eqBytes_dec (x y : List UInt8) : eqBytes x y = decide (x = y) := by
  rw [Bool.eq_iff_iff, eqBytes_iff, decide_eq_true_eq]
theorem eqBytes_refl (x : List UInt8) : eqBytes x x = true := (eqBytes_iff x x).2 rfl
/-- texts, compared -/
def cmp1 (a b : List UInt8) : Int := bif bytesLt a b then -1 else bif bytesLt b a then 1 else 0
def cmpS : List (List UInt8) → List (List UInt8) → Int
  | [], [] => 0
  | [], _ :: _ => -1
  | _ :: _, [] => 1
  | x :: r, y :: s => bif eqInt (cmp1 x y) 0 then cmpS r s else cmp1 x y
abbrev ltS := Lx ltB
theorem ltS_ord : Ord ltS := Lx.ord ltB_ord
theorem cmp1_lt (x y : List UInt8) : cmp1 x y < 0 ↔ ltB x y := by
  unfold cmp1
  cases h : bytesLt x y with
  | true => simp only [cond_true]; exact ⟨fun _ => (bytesLt_iff x y).1 h, fun _ => by decide⟩
  | false =>
    have : ¬ ltB x y := fun q => by rw [← bytesLt_iff, h] at q; cases q
    cases bytesLt y x <;> simp [this]
theorem cmp1_zero (x y : List UInt8) : eqInt (cmp1 x y) 0 = true ↔ x = y := by
  unfold cmp1
  cases h : bytesLt x y with
  | true =>
    simp only [cond_true]
    constructor
    · intro q; cases q
    · rintro rfl; exact absurd ((bytesLt_iff x x).1 h) (ltB_ord.irr x)
  | false =>
    have h1 : ¬ ltB x y := fun q => by rw [← bytesLt_iff, h] at q; cases q
    cases h' : bytesLt y x with
    | true =>
      simp only [cond_true, cond_false]
      constructor
      · intro q; cases q
      · rintro rfl; exact absurd ((bytesLt_iff x x).1 h') (ltB_ord.irr x)
    | false =>
      have h2 : ¬ ltB y x := fun q => by rw [← bytesLt_iff, h'] at q; cases q
      simp only [cond_false]
      constructor
      · intro _
        rcases ltB_ord.tri x y with q | q | q
        · exact absurd q h1
        · exact q
        · exact absurd q h2
      · intro _; rfl
theorem cmpS_lt : ∀ l m, cmpS l m < 0 ↔ ltS l m
  | [], [] => by simp [cmpS, Lx]
  | _ :: _, [] => by simp [cmpS, Lx]
  | [], _ :: _ => by simp [cmpS, Lx]
  | x :: r, y :: s => by
    have ih := cmpS_lt r s
    cases h : eqInt (cmp1 x y) 0 with
    | true =>
      have : x = y := (cmp1_zero x y).1 h
      subst this
      simp only [cmpS, h, cond_true, ih, Lx, true_and]
      constructor
      · exact fun q => .inr q
      · rintro (q | q)
        · exact absurd q (ltB_ord.irr x)
        · exact q
    | false =>
      have : x ≠ y := fun q => by rw [(cmp1_zero x y).2 q] at h; cases h
      simp only [cmpS, h, cond_false, cmp1_lt, Lx, this, false_and, or_false]
/-! paths -/
abbrev PP := Int × List (List UInt8)
def Pre (a b : PP) : Prop := a.1 = b.1 ∧ a.2 <+: b.2
def Ls (a b : PP) : Prop := a.1 < b.1 ∨ (a.1 = b.1 ∧ ltS a.2 b.2)
def Sh (a b : PP) : Prop := Pre a b ∧ ¬ [42] ∈ b.2.drop a.2.length
/-- where a text stands first -/
def posF (x : List UInt8) : List (List UInt8) → Nat
  | [] => 0
  | y :: r => bif eqBytes x y then 0 else posF x r + 1
def fr (a : PP) : PP := (a.1, a.2.take (posF [42] a.2))
theorem posF_no {x y : List UInt8} {r : List (List UInt8)} (h : eqBytes x y = false) : posF x (y :: r) = posF x r + 1 := by
  show (bif eqBytes x y then 0 else posF x r + 1) = _
  rw [h]; rfl
theorem posF_le (x : List UInt8) : ∀ l, posF x l ≤ l.length
  | [] => Nat.le_refl _
  | y :: r => by
    unfold posF
    cases eqBytes x y with
    | true => exact Nat.zero_le _
    | false => exact Nat.succ_le_succ (posF_le x r)
theorem posF_lt (x : List UInt8) : ∀ l (i : Nat) (h : i < l.length), i < posF x l → eqBytes x l[i] = false
  | [], i, h, _ => by simp at h
  | y :: r, i, h, hi => by
    unfold posF at hi
    cases hq : eqBytes x y with
    | true => rw [hq] at hi; exact absurd hi (Nat.not_lt_zero _)
    | false =>
      rw [hq] at hi
      cases i with
      | zero => exact hq
      | succ i => exact posF_lt x r i (by simpa using h) (Nat.lt_of_succ_lt_succ hi)
theorem posF_at (x : List UInt8) : ∀ l (h : posF x l < l.length), eqBytes x l[posF x l] = true
  | [], h => by simp at h
  | y :: r, h => by
    cases hq : eqBytes x y with
    | true =>
      have : posF x (y :: r) = 0 := by unfold posF; rw [hq]; rfl
      simp only [this, List.getElem_cons_zero]; exact hq
    | false =>
      have h1 : posF x (y :: r) = posF x r + 1 := posF_no hq
      have := posF_at x r (by rw [h1] at h; simpa using h)
      simp only [h1, List.getElem_cons_succ]; exact this
theorem posF_not (x : List UInt8) : ∀ l : List (List UInt8), ¬ x ∈ l.take (posF x l)
  | [] => by simp
  | y :: r => by
    cases hq : eqBytes x y with
    | true =>
      have : posF x (y :: r) = 0 := by unfold posF; rw [hq]; rfl
      simp [this]
    | false =>
      have h1 : posF x (y :: r) = posF x r + 1 := posF_no hq
      have h2 : x ≠ y := fun e => by rw [(eqBytes_iff x y).2 e] at hq; cases hq
      rw [h1, List.take_succ_cons, List.mem_cons, not_or]
      exact ⟨h2, posF_not x r⟩
theorem posF_mem (x : List UInt8) : ∀ l : List (List UInt8), x ∈ l ↔ posF x l < l.length
  | [] => by simp
  | y :: r => by
    cases hq : eqBytes x y with
    | true =>
      have : posF x (y :: r) = 0 := by unfold posF; rw [hq]; rfl
      rw [this, (eqBytes_iff x y).1 hq]; simp
    | false =>
      have h1 : posF x (y :: r) = posF x r + 1 := posF_no hq
      have h2 : x ≠ y := fun e => by rw [(eqBytes_iff x y).2 e] at hq; cases hq
      rw [h1, List.mem_cons, posF_mem x r]
      simp [h2]
theorem posF_none (x : List UInt8) (l : List (List UInt8)) (h : ¬ x ∈ l) : posF x l = l.length := by
  have := posF_le x l
  have h1 : ¬ posF x l < l.length := fun q => h ((posF_mem x l).2 q)
  omega
/-! what the law says -/
theorem Pre.refl (a : PP) : Pre a a := ⟨rfl, List.prefix_refl _⟩
theorem Pre.tr {a b c : PP} (h1 : Pre a b) (h2 : Pre b c) : Pre a c := ⟨h1.1.trans h2.1, h1.2.trans h2.2⟩
theorem Pre.same {a b : PP} (h1 : Pre a b) (h2 : Pre b a) : a = b := by
  obtain ⟨e, t, ht⟩ := h1
  obtain ⟨_, t', ht'⟩ := h2
  have hl : t = [] := by
    have h3 := congrArg List.length ht
    have h4 := congrArg List.length ht'
    simp only [List.length_append] at h3 h4
    exact List.length_eq_zero_iff.1 (by omega)
  subst hl
  exact Prod.ext e (by simpa using ht)
theorem Ls.irr (a : PP) : ¬ Ls a a := fun h => by
  rcases h with h | ⟨_, h⟩
  · omega
  · exact ltS_ord.irr _ h
theorem Ls.tr {a b c : PP} (h1 : Ls a b) (h2 : Ls b c) : Ls a c := by
  rcases h1 with h1 | ⟨e1, h1⟩
  · rcases h2 with h2 | ⟨e2, h2⟩
    · exact .inl (by omega)
    · exact .inl (by omega)
  · rcases h2 with h2 | ⟨e2, h2⟩
    · exact .inl (by omega)
    · exact .inr ⟨by omega, ltS_ord.tr _ _ _ h1 h2⟩
theorem Ls.tri (a b : PP) : Ls a b ∨ a = b ∨ Ls b a := by
  rcases Int.lt_trichotomy a.1 b.1 with h | h | h
  · exact .inl (.inl h)
  · rcases ltS_ord.tri a.2 b.2 with h1 | h1 | h1
    · exact .inl (.inr ⟨h, h1⟩)
    · exact .inr (.inl (Prod.ext h h1))
    · exact .inr (.inr (.inr ⟨h.symm, h1⟩))
  · exact .inr (.inr (.inl h))
theorem Pre.not {a b : PP} (h : Pre a b) : ¬ Ls b a := by
  obtain ⟨e, t, ht⟩ := h
  rintro (h | ⟨_, h⟩)
  · omega
  · rw [← ht] at h; exact Lx.pre ltB_ord _ _ h
theorem fr_pre (a : PP) : Pre (fr a) a := ⟨rfl, List.take_prefix _ _⟩
theorem fr_fr (a : PP) : fr (fr a) = fr a := by
  have h : posF [42] (a.2.take (posF [42] a.2)) = (a.2.take (posF [42] a.2)).length := posF_none _ _ (posF_not _ _)
  show (a.1, (a.2.take (posF [42] a.2)).take (posF [42] (a.2.take (posF [42] a.2)))) = _
  rw [h, List.take_length]; rfl
theorem fr_sh (a : PP) : Sh (fr a) (fr (fr a)) := by
  rw [fr_fr]
  exact ⟨Pre.refl _, by simp⟩
theorem posF_app (x : List UInt8) : ∀ l t, posF x l ≤ posF x (l ++ t) ∧ (posF x l < l.length → posF x (l ++ t) = posF x l)
  | [], t => ⟨Nat.zero_le _, fun h => by simp at h⟩
  | y :: r, t => by
    have ih := posF_app x r t
    rw [List.cons_append]
    unfold posF
    cases eqBytes x y with
    | true => exact ⟨Nat.le_refl _, fun _ => rfl⟩
    | false => exact ⟨Nat.succ_le_succ ih.1, fun h => by
        have := ih.2 (by simpa using h)
        show posF x (r ++ t) + 1 = posF x r + 1
        rw [this]⟩
theorem fr_mono {a b : PP} (h : Pre a b) : Pre (fr a) (fr b) := by
  obtain ⟨e, t, ht⟩ := h
  refine ⟨e, ?_⟩
  obtain ⟨h1, h2⟩ := posF_app [42] a.2 t
  rw [ht] at h1 h2
  show a.2.take _ <+: b.2.take _
  have h3 : a.2.take (posF [42] a.2) = b.2.take (posF [42] a.2) := by
    rw [← ht, List.take_append_of_le_length (posF_le [42] a.2)]
  rw [h3]
  exact List.take_prefix_take_left h1
end Go.Proofs.YtjeaammlambkeaaDoor.Mi

namespace Go.Proofs
open Go.Shelf
def Tryd.lays156_ren : Go.Shelf.Ren := ⟨fun | 156 => 27 | 165 => 47 | 166 => 48 | 169 => 49 | 240 => 62 | 241 => 63 | 276 => 71 | 277 => 72 | n => n, fun | 31 => 22 | 9 => 9 | 3 => 3 | 4 => 4 | 0 => 0 | 20 => 20 | 72 => 79 | 76 => 83 | 70 => 76 | 37 => 77 | 75 => 82 | 127 => 96 | 164 => 103 | 5 => 5 | 80 => 85 | n => n, fun | n => n⟩
theorem Tryd.lays156 : Go.Proofs.Lays.n156 Tryd.prog Tryd.lays156_ren := {
  mixed := by kernel_rfl
  f156 := Tryd.func27.trans (congrArg some (by kernel_rfl))
  f165 := Tryd.func47.trans (congrArg some (by kernel_rfl))
  f166 := Tryd.func48.trans (congrArg some (by kernel_rfl))
  f169 := Tryd.func49.trans (congrArg some (by kernel_rfl))
  f240 := Tryd.func62.trans (congrArg some (by kernel_rfl))
  f241 := Tryd.func63.trans (congrArg some (by kernel_rfl))
  f276 := Tryd.func71.trans (congrArg some (by kernel_rfl))
  f277 := Tryd.func72.trans (congrArg some (by kernel_rfl))
  t0 := Tryd.underlying0
  a0 := Tryd.isAgg0
  z0 := Tryd.sizeOf0
  v0 := Tryd.zeroValue0
  t3 := Tryd.underlying3
  a3 := Tryd.isAgg3
  z3 := Tryd.sizeOf3
  v3 := Tryd.zeroValue3
  t4 := Tryd.underlying4
  a4 := Tryd.isAgg4
  z4 := Tryd.sizeOf4
  v4 := Tryd.zeroValue4
  t9 := Tryd.underlying9
  a9 := Tryd.isAgg9
  z9 := Tryd.sizeOf9
  v9 := Tryd.zeroValue9
  t20 := Tryd.underlying20
  a20 := Tryd.isAgg20
  z20 := Tryd.sizeOf20
  v20 := Tryd.zeroValue20
  t31 := Tryd.underlying22
  a31 := Tryd.isAgg22
  z31 := Tryd.sizeOf22
  v31 := Tryd.zeroValue22
  t37 := Tryd.underlying77
  a37 := Tryd.isAgg77
  z37 := Tryd.sizeOf77
  v37 := Tryd.zeroValue77
  t70 := Tryd.underlying76
  a70 := Tryd.isAgg76
  z70 := Tryd.sizeOf76
  v70 := Tryd.zeroValue76
  t72 := Tryd.underlying79
  a72 := Tryd.isAgg79
  z72 := Tryd.sizeOf79
  v72 := Tryd.zeroValue79
  t75 := Tryd.underlying82
  a75 := Tryd.isAgg82
  z75 := Tryd.sizeOf82
  v75 := Tryd.zeroValue82
  t76 := Tryd.underlying83
  a76 := Tryd.isAgg83
  z76 := Tryd.sizeOf83
  v76 := Tryd.zeroValue83
  t127 := Tryd.underlying96
  a127 := Tryd.isAgg96
  z127 := Tryd.sizeOf96
  v127 := Tryd.zeroValue96
  t164 := Tryd.underlying103
  a164 := Tryd.isAgg103
  z164 := Tryd.sizeOf103
  v164 := Tryd.zeroValue103 }
theorem Tryd.Builder_Extra_156 : Builder.Extra Tryd.prog Tryd.lays156_ren := {
  sizeBuilder := by kernel_rfl
  liesBuilder := by kernel_rfl
  t5 := Tryd.underlying5
  a5 := Tryd.isAgg5
  z5 := Tryd.sizeOf5
  v5 := Tryd.zeroValue5
  infoByte := by kernel_rfl
  cellsByte := by kernel_rfl
  sizeByte := by kernel_rfl
  neB5 := by decide }
open Go.RowKit in
/-- No element: the empty string; the world is as it was. (Whatever the slice's address and capacity: a nil slice too.) (LAID: no walk: one application.) -/
theorem Tryd.strings_Join_none (a : Option Addr) (c : Nat) (sep : ByteArray) (w : World) :
    Calls Tryd.prog 27 #[.slice a 0 c, .string sep] w fun e w' => e = .returned (.string ⟨#[]⟩) ∧ w' = w := Any.strings_Join_none Tryd.lays156 Tryd.Builder_Extra_156 a c sep w
open Go.RowKit in
/-- strings.Join: "Join concatenates the elements of its first argument to create a single string. The separator string sep is placed between elements in the resulting string.": HOWEVER MANY ELEMENTS. Below the heap's end the world is as it was. (LAID: no walk: one application.) -/
theorem Tryd.strings_Join (bk o c : Nat) (xs : List ByteArray) (sep : ByteArray) (w : World) (hcells : ∀ (j : Nat) x, xs[j]? = some x → w.cell? ⟨bk, o + j, none⟩ = some (.string x)) (hbk : bk < w.heap.size) (hN : xs.length ≤ 140737488355328) (hcap : xs.length ≤ c) (hlen : (Lib.join (xs.map (·.data.toList)) sep.data.toList).length ≤ 140737488355328) :
    Calls Tryd.prog 27 #[.slice (some ⟨bk, o, none⟩) xs.length c, .string sep] w fun e w' => e = .returned (.string ⟨(Lib.join (xs.map (·.data.toList)) sep.data.toList).toArray⟩) ∧ Below w.heap.size w w' := Any.strings_Join Tryd.lays156 Tryd.Builder_Extra_156 bk o c xs sep w hcells hbk hN hcap hlen
end Go.Proofs

open Go Go.Proofs.YtjeaammlambkeaaDoor.Ai Go.Proofs
open Go.RowKit (Below)
namespace Go.Proofs.YtjeaammlambkeaaDoor.Nj
/-! strings.Join, by the library's contract -/
def strsOf : List AV → Option (List (List UInt8))
  | [] => some []
  | .str s :: r => match strsOf r with
    | some l => some (s :: l)
    | none => none
  | _ :: _ => none
def joinL : List (List UInt8) → List UInt8 → List UInt8
  | [], _ => []
  | [x], _ => x
  | x :: y :: r, sep => x ++ (sep ++ joinL (y :: r) sep)
theorem joinL_eq : ∀ (l : List (List UInt8)) (sep : List UInt8), joinL l sep = Lib.join l sep
  | [], sep => rfl
  | [x], sep => (Lib.join_one x sep).symm
  | x :: y :: r, sep => by
    rw [Lib.join_cons]
    show x ++ (sep ++ joinL (y :: r) sep) = _
    rw [joinL_eq (y :: r) sep, Lib.join_cons]
    simp [Lib.joinTail]
def joinF (s : SL) (sep : List UInt8) (h : Heap) : Option (List UInt8 × Heap) :=
  bif Nat.beq s.len 0 then some ([], h) else
  match s.a with
  | some (A, off) => bif Nat.ble s.len s.cap then
      match h.read A off s.len with
      | some vs => match strsOf vs with
        | some xs => bif Nat.ble xs.length 140737488355328 && Nat.ble (joinL xs sep).length 140737488355328 then some (joinL xs sep, h) else none
        | none => none
      | none => none
    else none
  | none => none
def joinN : List AV → Heap → Option (AV × Heap)
  | [.slice a l c z, .str sep], h => match joinF ⟨a, l, c, z⟩ sep h with
    | some (s, h') => some (.str s, h')
    | none => none
  | _, _ => none
def nat : FuncId → Option (List AV → Heap → Option (AV × Heap)) := fun f => bif Nat.beq f 27 then some joinN else none
theorem strsOf_vrs {μ : Mu} : ∀ {vs : List AV} {xs : List (List UInt8)} {ys : List Value}, strsOf vs = some xs → VRs μ vs ys → ys = xs.map fun s => .string ⟨s.toArray⟩
  | [], xs, ys, h, hv => by simp [strsOf] at h; subst h; simpa [VRs] using hv
  | v :: r, xs, ys, h, hv => by
    cases v with
    | str s =>
      simp only [strsOf] at h
      cases hr : strsOf r with
      | none => simp [hr] at h
      | some l =>
        simp only [hr, Option.some.injEq] at h
        subst h
        simp only [VRs, VR] at hv
        obtain ⟨y, ys', rfl, rfl, h2⟩ := hv
        rw [strsOf_vrs hr h2]; rfl
    | _ => simp [strsOf] at h
theorem env0 : EnvOK (envOf Tryd.prog [] noNative) Tryd.prog := envOf_ok (by kernel_rfl) (by kernel_rfl)
theorem join_ok {s : SL} {sep r : List UInt8} {h h' : Heap} (hx : joinF s sep h = some (r, h')) {μ : Mu} {w : World} {args' : Array Value} (hr : HR μ h w) (hv : VRs μ [.slice s.a s.len s.cap s.sz, .str sep] args'.toList) :
    (callFunc 27 args').run Tryd.prog w = .ok (.enter 27 args') w ∧ Calls Tryd.prog 27 args' w fun e w' => ∃ u, e = .returned u ∧ Post μ h w (.str r) h' u w' := by
  refine ⟨enter_of env0 (fn := Tryd.f27) (by kernel_rfl) (by kernel_rfl) _ _, ?_⟩
  simp only [VRs] at hv
  obtain ⟨y, ys, e1, hy, y2, ys2, e2, hy2, e3⟩ := hv
  subst e2 e3
  simp only [VR] at hy2
  subst hy2
  have ea : args' = #[y, .string ⟨sep.toArray⟩] := by rw [← Array.toList_inj, e1]
  subst ea
  unfold joinF at hx
  cases hb : Nat.beq s.len 0 with
  | true =>
    simp only [hb, cond_true, Option.some.injEq, Prod.mk.injEq] at hx
    obtain ⟨rfl, rfl⟩ := hx
    have hl : s.len = 0 := Nat.eq_of_beq_eq_true hb
    have : ∃ a c, y = .slice a 0 c := by
      cases ha : s.a with
      | none => rw [ha] at hy; simp only [VR] at hy; exact ⟨none, 0, hy.1⟩
      | some q =>
        obtain ⟨A, off⟩ := q
        rw [ha] at hy; simp only [VR] at hy
        obtain ⟨l, a', cap', _, h2, _⟩ := hy
        exact ⟨some a', cap', by rw [h2, hl]⟩
    obtain ⟨a, c, rfl⟩ := this
    refine (Tryd.strings_Join_none a c ⟨sep.toArray⟩ w).mono ?_
    rintro e w' ⟨rfl, rfl⟩
    exact ⟨_, rfl, μ, by simp [VR], hr, Ext.refl μ h w'⟩
  | false =>
    simp only [hb, cond_false] at hx
    cases ha : s.a with
    | none => simp [ha] at hx
    | some q =>
      obtain ⟨A, off⟩ := q
      simp only [ha] at hx
      cases hc : Nat.ble s.len s.cap with
      | false => simp [hc] at hx
      | true =>
        simp only [hc, cond_true] at hx
        cases hrd : h.read A off s.len with
        | none => simp [hrd] at hx
        | some vs =>
          simp only [hrd] at hx
          cases hst : strsOf vs with
          | none => simp [hst] at hx
          | some xs =>
            simp only [hst] at hx
            cases hbd : Nat.ble xs.length 140737488355328 && Nat.ble (joinL xs sep).length 140737488355328 with
            | false => simp [hbd] at hx
            | true =>
              simp only [hbd, cond_true, Option.some.injEq, Prod.mk.injEq] at hx
              obtain ⟨rfl, rfl⟩ := hx
              simp only [Bool.and_eq_true, Nat.ble_eq] at hbd hc
              rw [ha] at hy; simp only [VR] at hy
              obtain ⟨l, a', cap', hA, rfl, h3, h4⟩ := hy
              have hpos : 0 < s.len := by
                rcases Nat.eq_zero_or_pos s.len with h0 | h0
                · rw [h0] at hb; cases hb
                · exact h0
              rcases h4 with ⟨h4, _⟩ | ⟨rfl, h5, h6, h7⟩
              · omega
              · obtain ⟨ys, _, h8, h9, h10⟩ := hr.read (P := Tryd.prog) hA hrd
                have h11 := strsOf_vrs hst h9
                have hxl : xs.length = s.len := by rw [← h8, h11, List.length_map]
                have hmap : (xs.map (fun s => (⟨s.toArray⟩ : ByteArray))).map (·.data.toList) = xs := by
                  rw [List.map_map]; simp [Function.comp_def]
                have := Tryd.strings_Join l.b (l.sh + off) cap' (xs.map fun s => ⟨s.toArray⟩) ⟨sep.toArray⟩ w (fun j x hj => by
                    refine h10 j _ ?_
                    rw [h11]
                    rw [List.getElem?_map] at hj ⊢
                    cases hq : xs[j]? with
                    | none => rw [hq] at hj; simp at hj
                    | some z => rw [hq] at hj; simp only [Option.map_some, Option.some.injEq] at hj ⊢; rw [hj])
                  (hr.dom A l hA).2 (by rw [List.length_map]; exact hbd.1) (by rw [List.length_map]; omega) (by rw [hmap]; rw [← joinL_eq]; exact hbd.2)
                rw [List.length_map, hxl, hmap] at this
                refine this.mono ?_
                rintro e w' ⟨rfl, hbel⟩
                refine ⟨_, rfl, μ, ?_, hr.below hbel, Ext.of_below hbel⟩
                simp only [VR]
                rw [joinL_eq]
theorem natOK {cmp : List TypeId} : NativeOK (envOf Tryd.prog cmp nat) Tryd.prog := by
  intro f g hg args h v h' hx μ w args' hr hv
  have hg' : nat f = some g := hg
  unfold nat at hg'
  cases hf : Nat.beq f 27 with
  | false => simp [hf] at hg'
  | true =>
    simp only [hf, cond_true, Option.some.injEq] at hg'
    subst hg'
    have : f = 27 := Nat.eq_of_beq_eq_true hf
    subst this
    refine .inr ?_
    unfold joinN at hx
    split at hx
    · rename_i a l c z sep
      cases hj : joinF ⟨a, l, c, z⟩ sep h with
      | none => simp [hj] at hx
      | some p =>
        obtain ⟨s, h2⟩ := p
        simp only [hj, Option.some.injEq, Prod.mk.injEq] at hx
        obtain ⟨rfl, rfl⟩ := hx
        exact join_ok hj hr hv
    · cases hx
theorem f27_ok (N : Nat) : FnOK Tryd.prog 27 [(.one .slice), (.one .str)] (.val (.one .str)) (fun x h => joinF x.1 x.2.1 h) := by
  intro xs h r h' hx μ w args' hr hv
  exact join_ok hx hr hv
end Go.Proofs.YtjeaammlambkeaaDoor.Nj

set_option maxRecDepth 100000
open Go Go.Proofs.YtjeaammlambkeaaDoor.Ai Go.Proofs
namespace Go.Proofs.YtjeaammlambkeaaDoor.Mi
noncomputable def E : Env := envOf Tryd.prog [] Nj.nat
theorem envOK : EnvOK E Tryd.prog := envOf_ok (by kernel_rfl) (by kernel_rfl)
theorem natOK : NativeOK E Tryd.prog := Nj.natOK
theorem hmix : Tryd.prog.follows .mixedOrders = true := by kernel_rfl
/- usufruct/usufructlaw16.told -/
noncomputable def f6 (N : Nat) (h : Heap) : Option (Bool × Heap) := some (true, h)
theorem f6_ok (N : Nat) : FnOK Tryd.prog 6 [] (.val (.one .bool)) (fun _ h => f6 N h) :=
  fnOK_told envOK (fn := Tryd.f6) (by kernel_rfl) (by kernel_rfl) (calls_true envOK hmix natOK (fn := Tryd.f6) (by kernel_rfl) (by kernel_rfl) (args := []) VRs.nil (n := 1000) (by kernel_rfl))

/- slices.Equal[[]string,string] -/
noncomputable def f23_l1_b (N : Nat) (go : SL → SL → Bool → Int → Int → Heap → Option (Out × (Bool × Unit) × Heap)) (v0 : SL) (v1 : SL) (v4 : Bool) (v12 : Int) (v13 : Int) (h : Heap) : Option (Out × (Bool × Unit) × Heap) :=
  let x2 : Bool := ltInt v13 v12
  (bif x2 then
   (ixK v0.a v0.len v13 1 fun q3 =>
   (bindV (.val (.one .str)) (h.cell q3) fun (x4 : List UInt8) =>
   (ixK v1.a v1.len v13 1 fun q5 =>
   (bindV (.val (.one .str)) (h.cell q5) fun (x6 : List UInt8) =>
   let x7 : Bool := !eqBytes x4 x6
   (bif x7 then
    some (Out.ret, (false, ()), h)
   else
    let x8 : Int := wrapA .i64 (v13 + 1)
    go v0 v1 v4 v12 x8 h)))))
  else
   some ((Out.exit 0), (v4, ()), h))
noncomputable def f23_l1 (N M : Nat) (v0 : SL) (v1 : SL) (v4 : Bool) (v12 : Int) (v13 : Int) (h : Heap) : Option (Out × (Bool × Unit) × Heap) := iter (fun go s h => f23_l1_b N (fun v0 v1 v4 v12 v13 h => go (v0, v1, v4, v12, v13, ()) h) s.1 s.2.1 s.2.2.1 s.2.2.2.1 s.2.2.2.2.1 h) M (v0, v1, v4, v12, v13, ()) h
theorem f23_l1_succ (N M : Nat) (v0 : SL) (v1 : SL) (v4 : Bool) (v12 : Int) (v13 : Int) (h : Heap) : f23_l1 N (M + 1) v0 v1 v4 v12 v13 h = f23_l1_b N (f23_l1 N M) v0 v1 v4 v12 v13 h := rfl
theorem f23_l1_zero (N : Nat) (v0 : SL) (v1 : SL) (v4 : Bool) (v12 : Int) (v13 : Int) (h : Heap) : f23_l1 N 0 v0 v1 v4 v12 v13 h = none := rfl
noncomputable def f23 (N : Nat) (a0 : SL) (a1 : SL) (h : Heap) : Option (Bool × Heap) :=
  let x1 : Bool := !eqInt (Int.ofNat a0.len) (Int.ofNat a1.len)
  (bif x1 then
   some (false, h)
  else
   (bind3 (f23_l1 N N a0 a1 false (Int.ofNat a0.len) 0 h) fun o9 (j10 : (Bool × Unit)) h11 =>
   (bif eqOut o9 (.exit 0) then
    some (true, h11)
   else
    some (j10.1, h11))))
noncomputable def ann23 : Ann := (.two .n (.two .n (.two (.two .n (.two (.loop [(0, (.one .slice)), (1, (.one .slice)), (4, (.one .bool)), (12, (.one (.int .i64))), (13, (.one (.int .i64)))] [(.exit 0), .ret] [(4, (.one .bool))] .n) .n)) .n)))
theorem f23_ok (N : Nat) : FnOK Tryd.prog 23 [(.one .slice), (.one .slice)] (.val (.one .bool)) (fun x h => f23 N x.1 x.2.1 h) :=
  runK_ok envOK hmix noCalls_ok (N := N) (x := ann23) (fn := Tryd.f23) (c := Tryd.f23.body.getD .skip) (by kernel_rfl) (by kernel_rfl) (by kernel_rfl) (by kernel_rfl) (fun _ _ => by kernel_rfl)

/- usufruct/mir.Prefix -/
noncomputable def f9 (N : Nat) (a0 : (Int × SL × Unit)) (a1 : (Int × SL × Unit)) (h : Heap) : Option (Bool × Heap) :=
  let h1 : Heap := h.push (.row [(.int .i64 a0.1), (.slice a0.2.1.a a0.2.1.len a0.2.1.cap a0.2.1.sz)] .own)
  let h2 : Heap := h1.push (.row [(.int .i64 a1.1), (.slice a1.2.1.a a1.2.1.len a1.2.1.cap a1.2.1.sz)] .own)
  (bindV (.val (.one (.int .i64))) (h2.cell ((h.next, 0).1, (h.next, 0).2 + 0)) fun (x3 : Int) =>
  (bindV (.val (.one (.int .i64))) (h2.cell ((h1.next, 0).1, (h1.next, 0).2 + 0)) fun (x4 : Int) =>
  let x5 : Bool := eqInt x3 x4
  (bif x5 then
   (bindV (.val (.one .slice)) (h2.cell ((h.next, 0).1, (h.next, 0).2 + 1)) fun (x6 : SL) =>
   (bindV (.val (.one .slice)) (h2.cell ((h1.next, 0).1, (h1.next, 0).2 + 1)) fun (x7 : SL) =>
   let x8 : Bool := leInt (Int.ofNat x6.len) (Int.ofNat x7.len)
   (bif x8 then
    (bindV (.val (.one .slice)) (h2.cell ((h.next, 0).1, (h.next, 0).2 + 1)) fun (x9 : SL) =>
    (bindV (.val (.one .slice)) (h2.cell ((h1.next, 0).1, (h1.next, 0).2 + 1)) fun (x10 : SL) =>
    (bindV (.val (.one .slice)) (h2.cell ((h.next, 0).1, (h.next, 0).2 + 1)) fun (x11 : SL) =>
    (bindV (.val (.one .slice)) (sliceA E h2 22 (.slice x10.a x10.len x10.cap x10.sz) none (some (.int .i64 (Int.ofNat x11.len)))) fun (x12 : SL) =>
    (bind2 (f23 N x9 x12 h2) fun (x13 : Bool) h14 =>
    some (x13, h14))))))
   else
    some (false, h2))))
  else
   some (false, h2))))
noncomputable def ann9 : Ann := .n
theorem f9_ok (N : Nat) : FnOK Tryd.prog 9 [(.agg [(.int .i64), .slice]), (.agg [(.int .i64), .slice])] (.val (.one .bool)) (fun x h => f9 N x.1 x.2.1 h) :=
  runK_ok envOK hmix (addCall_ok (f23_ok N) noCalls_ok) (N := N) (x := ann9) (fn := Tryd.f9) (c := Tryd.f9.body.getD .skip) (by kernel_rfl) (by kernel_rfl) (by kernel_rfl) (by kernel_rfl) (fun _ _ => by kernel_rfl)

/- slices.Index[[]string,string] -/
noncomputable def f22_l1_b (N : Nat) (go : SL → List UInt8 → Int → Int → Int → Heap → Option (Out × (Int × Unit) × Heap)) (v0 : SL) (v1 : List UInt8) (v4 : Int) (v7 : Int) (v8 : Int) (h : Heap) : Option (Out × (Int × Unit) × Heap) :=
  let x1 : Bool := ltInt v8 v7
  (bif x1 then
   (ixK v0.a v0.len v8 1 fun q2 =>
   (bindV (.val (.one .str)) (h.cell q2) fun (x3 : List UInt8) =>
   let x4 : Bool := eqBytes v1 x3
   (bif x4 then
    some (Out.ret, (v8, ()), h)
   else
    let x5 : Int := wrapA .i64 (v8 + 1)
    go v0 v1 v4 v7 x5 h)))
  else
   some ((Out.exit 0), (v4, ()), h))
noncomputable def f22_l1 (N M : Nat) (v0 : SL) (v1 : List UInt8) (v4 : Int) (v7 : Int) (v8 : Int) (h : Heap) : Option (Out × (Int × Unit) × Heap) := iter (fun go s h => f22_l1_b N (fun v0 v1 v4 v7 v8 h => go (v0, v1, v4, v7, v8, ()) h) s.1 s.2.1 s.2.2.1 s.2.2.2.1 s.2.2.2.2.1 h) M (v0, v1, v4, v7, v8, ()) h
theorem f22_l1_succ (N M : Nat) (v0 : SL) (v1 : List UInt8) (v4 : Int) (v7 : Int) (v8 : Int) (h : Heap) : f22_l1 N (M + 1) v0 v1 v4 v7 v8 h = f22_l1_b N (f22_l1 N M) v0 v1 v4 v7 v8 h := rfl
theorem f22_l1_zero (N : Nat) (v0 : SL) (v1 : List UInt8) (v4 : Int) (v7 : Int) (v8 : Int) (h : Heap) : f22_l1 N 0 v0 v1 v4 v7 v8 h = none := rfl
noncomputable def f22 (N : Nat) (a0 : SL) (a1 : List UInt8) (h : Heap) : Option (Int × Heap) :=
  (bind3 (f22_l1 N N a0 a1 0 (Int.ofNat a0.len) 0 h) fun o6 (j7 : (Int × Unit)) h8 =>
  (bif eqOut o6 (.exit 0) then
   some ((-1), h8)
  else
   some (j7.1, h8)))
noncomputable def ann22 : Ann := (.two .n (.two (.two .n (.two (.loop [(0, (.one .slice)), (1, (.one .str)), (4, (.one (.int .i64))), (7, (.one (.int .i64))), (8, (.one (.int .i64)))] [(.exit 0), .ret] [(4, (.one (.int .i64)))] .n) .n)) .n))
theorem f22_ok (N : Nat) : FnOK Tryd.prog 22 [(.one .slice), (.one .str)] (.val (.one (.int .i64))) (fun x h => f22 N x.1 x.2.1 h) :=
  runK_ok envOK hmix noCalls_ok (N := N) (x := ann22) (fn := Tryd.f22) (c := Tryd.f22.body.getD .skip) (by kernel_rfl) (by kernel_rfl) (by kernel_rfl) (by kernel_rfl) (fun _ _ => by kernel_rfl)

/- slices.Contains[[]string,string] -/
noncomputable def f24 (N : Nat) (a0 : SL) (a1 : List UInt8) (h : Heap) : Option (Bool × Heap) :=
  (bind2 (f22 N a0 a1 h) fun (x1 : Int) h2 =>
  let x3 : Bool := leInt 0 x1
  some (x3, h2))
noncomputable def ann24 : Ann := .n
theorem f24_ok (N : Nat) : FnOK Tryd.prog 24 [(.one .slice), (.one .str)] (.val (.one .bool)) (fun x h => f24 N x.1 x.2.1 h) :=
  runK_ok envOK hmix (addCall_ok (f22_ok N) noCalls_ok) (N := N) (x := ann24) (fn := Tryd.f24) (c := Tryd.f24.body.getD .skip) (by kernel_rfl) (by kernel_rfl) (by kernel_rfl) (by kernel_rfl) (fun _ _ => by kernel_rfl)

/- usufruct/mir.Shallow -/
noncomputable def f11 (N : Nat) (a0 : (Int × SL × Unit)) (a1 : (Int × SL × Unit)) (h : Heap) : Option (Bool × Heap) :=
  let h1 : Heap := h.push (.row [(.int .i64 a0.1), (.slice a0.2.1.a a0.2.1.len a0.2.1.cap a0.2.1.sz)] .own)
  let h2 : Heap := h1.push (.row [(.int .i64 a1.1), (.slice a1.2.1.a a1.2.1.len a1.2.1.cap a1.2.1.sz)] .own)
  (bindV (.val (.agg [(.int .i64), .slice])) (h2.cells (h.next, 0) 2) fun (x3 : (Int × SL × Unit)) =>
  (bindV (.val (.agg [(.int .i64), .slice])) (h2.cells (h1.next, 0) 2) fun (x4 : (Int × SL × Unit)) =>
  (bind2 (f9 N (x3.1, x3.2.1, ()) (x4.1, x4.2.1, ()) h2) fun (x5 : Bool) h6 =>
  (bif x5 then
   (bindV (.val (.one .slice)) (h6.cell ((h1.next, 0).1, (h1.next, 0).2 + 1)) fun (x7 : SL) =>
   (bindV (.val (.one .slice)) (h6.cell ((h.next, 0).1, (h.next, 0).2 + 1)) fun (x8 : SL) =>
   (bindV (.val (.one .slice)) (sliceA E h6 22 (.slice x7.a x7.len x7.cap x7.sz) (some (.int .i64 (Int.ofNat x8.len))) none) fun (x9 : SL) =>
   (bind2 (f24 N x9 [42] h6) fun (x10 : Bool) h11 =>
   let x12 : Bool := !x10
   some (x12, h11)))))
  else
   some (false, h6)))))
noncomputable def ann11 : Ann := .n
theorem f11_ok (N : Nat) : FnOK Tryd.prog 11 [(.agg [(.int .i64), .slice]), (.agg [(.int .i64), .slice])] (.val (.one .bool)) (fun x h => f11 N x.1 x.2.1 h) :=
  runK_ok envOK hmix (addCall_ok (f24_ok N) (addCall_ok (f9_ok N) noCalls_ok)) (N := N) (x := ann11) (fn := Tryd.f11) (c := Tryd.f11.body.getD .skip) (by kernel_rfl) (by kernel_rfl) (by kernel_rfl) (by kernel_rfl) (fun _ _ => by kernel_rfl)

/- cmp.isNaN[string] -/
noncomputable def f61 (N : Nat) (a0 : List UInt8) (h : Heap) : Option (Bool × Heap) :=
  let x1 : Bool := !eqBytes a0 a0
  some (x1, h)
noncomputable def ann61 : Ann := .n
theorem f61_ok (N : Nat) : FnOK Tryd.prog 61 [(.one .str)] (.val (.one .bool)) (fun x h => f61 N x.1 h) :=
  runK_ok envOK hmix noCalls_ok (N := N) (x := ann61) (fn := Tryd.f61) (c := Tryd.f61.body.getD .skip) (by kernel_rfl) (by kernel_rfl) (by kernel_rfl) (by kernel_rfl) (fun _ _ => by kernel_rfl)

/- cmp.Compare[string] -/
noncomputable def f46 (N : Nat) (a0 : List UInt8) (a1 : List UInt8) (h : Heap) : Option (Int × Heap) :=
  (bind2 (f61 N a0 h) fun (x1 : Bool) h2 =>
  (bind2 (f61 N a1 h2) fun (x3 : Bool) h4 =>
  (bif x1 then
   (bif x3 then
    some (0, h4)
   else
    some ((-1), h4))
  else
   (bif x3 then
    some (1, h4)
   else
    (bindV (.val (.one .bool)) (binStr .lss a0 a1) fun (x5 : Bool) =>
    (bif x5 then
     some ((-1), h4)
    else
     (bindV (.val (.one .bool)) (binStr .gtr a0 a1) fun (x6 : Bool) =>
     (bif x6 then
      some (1, h4)
     else
      some (0, h4)))))))))
noncomputable def ann46 : Ann := .n
theorem f46_ok (N : Nat) : FnOK Tryd.prog 46 [(.one .str), (.one .str)] (.val (.one (.int .i64))) (fun x h => f46 N x.1 x.2.1 h) :=
  runK_ok envOK hmix (addCall_ok (f61_ok N) noCalls_ok) (N := N) (x := ann46) (fn := Tryd.f46) (c := Tryd.f46.body.getD .skip) (by kernel_rfl) (by kernel_rfl) (by kernel_rfl) (by kernel_rfl) (fun _ _ => by kernel_rfl)

/- slices.Compare[[]string,string] -/
noncomputable def f26_l1_b (N : Nat) (go : SL → SL → Int → SL → Int → Int → Heap → Option (Out × (SL × SL × Int × Unit) × Heap)) (v0 : SL) (v1 : SL) (v4 : Int) (v9 : SL) (v10 : Int) (v11 : Int) (h : Heap) : Option (Out × (SL × SL × Int × Unit) × Heap) :=
  let x1 : Bool := ltInt v11 v10
  (bif x1 then
   (ixK v9.a v9.len v11 1 fun q2 =>
   (bindV (.val (.one .str)) (h.cell q2) fun (x3 : List UInt8) =>
   let x4 : Bool := leInt (Int.ofNat v1.len) v11
   (bif x4 then
    some (Out.ret, (v0, v1, 1, ()), h)
   else
    (ixK v1.a v1.len v11 1 fun q5 =>
    (bindV (.val (.one .str)) (h.cell q5) fun (x6 : List UInt8) =>
    (bind2 (f46 N x3 x6 h) fun (x7 : Int) h8 =>
    let x9 : Bool := !eqInt x7 0
    (bif x9 then
     some (Out.ret, (v0, v1, x7, ()), h8)
    else
     let x10 : Int := wrapA .i64 (v11 + 1)
     go v0 v1 v4 v9 v10 x10 h8)))))))
  else
   some ((Out.exit 0), (v0, v1, v4, ()), h))
noncomputable def f26_l1 (N M : Nat) (v0 : SL) (v1 : SL) (v4 : Int) (v9 : SL) (v10 : Int) (v11 : Int) (h : Heap) : Option (Out × (SL × SL × Int × Unit) × Heap) := iter (fun go s h => f26_l1_b N (fun v0 v1 v4 v9 v10 v11 h => go (v0, v1, v4, v9, v10, v11, ()) h) s.1 s.2.1 s.2.2.1 s.2.2.2.1 s.2.2.2.2.1 s.2.2.2.2.2.1 h) M (v0, v1, v4, v9, v10, v11, ()) h
theorem f26_l1_succ (N M : Nat) (v0 : SL) (v1 : SL) (v4 : Int) (v9 : SL) (v10 : Int) (v11 : Int) (h : Heap) : f26_l1 N (M + 1) v0 v1 v4 v9 v10 v11 h = f26_l1_b N (f26_l1 N M) v0 v1 v4 v9 v10 v11 h := rfl
theorem f26_l1_zero (N : Nat) (v0 : SL) (v1 : SL) (v4 : Int) (v9 : SL) (v10 : Int) (v11 : Int) (h : Heap) : f26_l1 N 0 v0 v1 v4 v9 v10 v11 h = none := rfl
noncomputable def f26 (N : Nat) (a0 : SL) (a1 : SL) (h : Heap) : Option (Int × Heap) :=
  (bind3 (f26_l1 N N a0 a1 0 a0 (Int.ofNat a0.len) 0 h) fun o11 (j12 : (SL × SL × Int × Unit)) h13 =>
  (bif eqOut o11 (.exit 0) then
   let x14 : Bool := ltInt (Int.ofNat j12.1.len) (Int.ofNat j12.2.1.len)
   (bif x14 then
    some ((-1), h13)
   else
    some (0, h13))
  else
   some (j12.2.2.1, h13)))
noncomputable def ann26 : Ann := (.two .n (.two (.two .n (.two (.loop [(0, (.one .slice)), (1, (.one .slice)), (4, (.one (.int .i64))), (9, (.one .slice)), (10, (.one (.int .i64))), (11, (.one (.int .i64)))] [(.exit 0), .ret] [(0, (.one .slice)), (1, (.one .slice)), (4, (.one (.int .i64)))] .n) .n)) .n))
theorem f26_ok (N : Nat) : FnOK Tryd.prog 26 [(.one .slice), (.one .slice)] (.val (.one (.int .i64))) (fun x h => f26 N x.1 x.2.1 h) :=
  runK_ok envOK hmix (addCall_ok (f46_ok N) noCalls_ok) (N := N) (x := ann26) (fn := Tryd.f26) (c := Tryd.f26.body.getD .skip) (by kernel_rfl) (by kernel_rfl) (by kernel_rfl) (by kernel_rfl) (fun _ _ => by kernel_rfl)

/- usufruct/mir.Less -/
noncomputable def f14 (N : Nat) (a0 : (Int × SL × Unit)) (a1 : (Int × SL × Unit)) (h : Heap) : Option (Bool × Heap) :=
  let h1 : Heap := h.push (.row [(.int .i64 a0.1), (.slice a0.2.1.a a0.2.1.len a0.2.1.cap a0.2.1.sz)] .own)
  let h2 : Heap := h1.push (.row [(.int .i64 a1.1), (.slice a1.2.1.a a1.2.1.len a1.2.1.cap a1.2.1.sz)] .own)
  (bindV (.val (.one (.int .i64))) (h2.cell ((h.next, 0).1, (h.next, 0).2 + 0)) fun (x3 : Int) =>
  (bindV (.val (.one (.int .i64))) (h2.cell ((h1.next, 0).1, (h1.next, 0).2 + 0)) fun (x4 : Int) =>
  let x5 : Bool := !eqInt x3 x4
  (bif x5 then
   (bindV (.val (.one (.int .i64))) (h2.cell ((h.next, 0).1, (h.next, 0).2 + 0)) fun (x6 : Int) =>
   (bindV (.val (.one (.int .i64))) (h2.cell ((h1.next, 0).1, (h1.next, 0).2 + 0)) fun (x7 : Int) =>
   let x8 : Bool := ltInt x6 x7
   some (x8, h2)))
  else
   (bindV (.val (.one .slice)) (h2.cell ((h.next, 0).1, (h.next, 0).2 + 1)) fun (x9 : SL) =>
   (bindV (.val (.one .slice)) (h2.cell ((h1.next, 0).1, (h1.next, 0).2 + 1)) fun (x10 : SL) =>
   (bind2 (f26 N x9 x10 h2) fun (x11 : Int) h12 =>
   let x13 : Bool := ltInt x11 0
   some (x13, h12)))))))
noncomputable def ann14 : Ann := .n
theorem f14_ok (N : Nat) : FnOK Tryd.prog 14 [(.agg [(.int .i64), .slice]), (.agg [(.int .i64), .slice])] (.val (.one .bool)) (fun x h => f14 N x.1 x.2.1 h) :=
  runK_ok envOK hmix (addCall_ok (f26_ok N) noCalls_ok) (N := N) (x := ann14) (fn := Tryd.f14) (c := Tryd.f14.body.getD .skip) (by kernel_rfl) (by kernel_rfl) (by kernel_rfl) (by kernel_rfl) (fun _ _ => by kernel_rfl)

/- usufruct/mir.Front -/
noncomputable def f7 (N : Nat) (a0 : (Int × SL × Unit)) (h : Heap) : Option ((Int × SL × Unit) × Heap) :=
  let h1 : Heap := h.push (.row [(.int .i64 a0.1), (.slice a0.2.1.a a0.2.1.len a0.2.1.cap a0.2.1.sz)] .own)
  let h2 : Heap := h1.push (.row [(.int .i64 0), (.slice none 0 0 0)] .own)
  (bindV (.val (.one .slice)) (h2.cell ((h.next, 0).1, (h.next, 0).2 + 1)) fun (x3 : SL) =>
  (bind2 (f22 N x3 [42] h2) fun (x4 : Int) h5 =>
  (bind2 (α := (Option (Nat × Nat) × Option (Nat × Nat) × Int × Unit)) (
   let x6 : Bool := ltInt x4 0
   (bif x6 then
    (bindV (.val (.one .slice)) (h5.cell ((h.next, 0).1, (h.next, 0).2 + 1)) fun (x7 : SL) =>
    some (((some (h.next, 0)), (some (h1.next, 0)), (Int.ofNat x7.len), ()), h5))
   else
    some (((some (h.next, 0)), (some (h1.next, 0)), x4, ()), h5))) fun (j8 : (Option (Nat × Nat) × Option (Nat × Nat) × Int × Unit)) h9 =>
  (need j8.1 fun q10 =>
  (bindV (.val (.one (.int .i64))) (h9.cell (q10.1, q10.2 + 0)) fun (x11 : Int) =>
  (need j8.1 fun q12 =>
  (bindV (.val (.one .slice)) (h9.cell (q12.1, q12.2 + 1)) fun (x13 : SL) =>
  (bindV (.val (.one .slice)) (sliceA E h9 22 (.slice x13.a x13.len x13.cap x13.sz) none (some (.int .i64 j8.2.2.1))) fun (x14 : SL) =>
  (bindT (.val (.one .slice)) (appendA E 22 22 (.slice none 0 0 0) (.slice x14.a x14.len x14.cap x14.sz) h9) fun (x15 : SL) h16 =>
  (need j8.2.1 fun q18 =>
  (need (h16.store q18 [(.int .i64 x11), (.slice x15.a x15.len x15.cap x15.sz)]) fun h17 =>
  (guardB (bif (sameO (h9.cell (q12.1, q12.2 + 1)) (.slice x13.a x13.len x13.cap x13.sz)) then (bif (sameO (h16.cell (q10.1, q10.2 + 0)) (.int .i64 x11)) then (bif (sameO (h9.cell (q10.1, q10.2 + 0)) (.int .i64 x11)) then true else false) else false) else false) (
  (need j8.2.1 fun q19 =>
  (bindV (.val (.agg [(.int .i64), .slice])) (h17.cells q19 2) fun (x20 : (Int × SL × Unit)) =>
  some ((x20.1, x20.2.1, ()), h17))))))))))))))))
noncomputable def ann7 : Ann := (.two .n (.two .n (.two (.join [(1, (.one .ptr)), (2, (.one .ptr)), (3, (.one (.int .i64)))] .n) .n)))
theorem f7_ok (N : Nat) : FnOK Tryd.prog 7 [(.agg [(.int .i64), .slice])] (.val (.agg [(.int .i64), .slice])) (fun x h => f7 N x.1 h) :=
  runK_ok envOK hmix (addCall_ok (f22_ok N) noCalls_ok) (N := N) (x := ann7) (fn := Tryd.f7) (c := Tryd.f7.body.getD .skip) (by kernel_rfl) (by kernel_rfl) (by kernel_rfl) (by kernel_rfl) (fun _ _ => by kernel_rfl)

/- usufruct/usufructlaw16.MirOrder -/
noncomputable def f4 (N : Nat) (a0 : (Int × SL × Unit)) (a1 : (Int × SL × Unit)) (a2 : (Int × SL × Unit)) (h : Heap) : Option (Bool × Heap) :=
  let h1 : Heap := h.push (.row [(.int .i64 a0.1), (.slice a0.2.1.a a0.2.1.len a0.2.1.cap a0.2.1.sz)] .own)
  let h2 : Heap := h1.push (.row [(.int .i64 a1.1), (.slice a1.2.1.a a1.2.1.len a1.2.1.cap a1.2.1.sz)] .own)
  let h3 : Heap := h2.push (.row [(.int .i64 a2.1), (.slice a2.2.1.a a2.2.1.len a2.2.1.cap a2.2.1.sz)] .own)
  (need (α := Sum ((Option (Nat × Nat) × Option (Nat × Nat) × Option (Nat × Nat) × Unit) × Heap) (Sum ((Bool × Unit) × Heap) (Empty))) (
   (bind2 (α := (Option (Nat × Nat) × Option (Nat × Nat) × Option (Nat × Nat) × Bool × Unit)) (
    (bindV (.val (.one .slice)) (h3.cell ((h.next, 0).1, (h.next, 0).2 + 1)) fun (x4 : SL) =>
    let x5 : Bool := ltInt 20 (Int.ofNat x4.len)
    (bif x5 then
     some (((some (h.next, 0)), (some (h1.next, 0)), (some (h2.next, 0)), true, ()), h3)
    else
     (bindV (.val (.one .slice)) (h3.cell ((h1.next, 0).1, (h1.next, 0).2 + 1)) fun (x6 : SL) =>
     let x7 : Bool := ltInt 20 (Int.ofNat x6.len)
     (bif x7 then
      some (((some (h.next, 0)), (some (h1.next, 0)), (some (h2.next, 0)), true, ()), h3)
     else
      (bindV (.val (.one .slice)) (h3.cell ((h2.next, 0).1, (h2.next, 0).2 + 1)) fun (x8 : SL) =>
      let x9 : Bool := ltInt 20 (Int.ofNat x8.len)
      some (((some (h.next, 0)), (some (h1.next, 0)), (some (h2.next, 0)), x9, ()), h3))))))) fun (j10 : (Option (Nat × Nat) × Option (Nat × Nat) × Option (Nat × Nat) × Bool × Unit)) h11 =>
   (bif j10.2.2.2.1 then
    (bind2 (f6 N  h11) fun (x12 : Bool) h13 =>
    some (Sum.inr (Sum.inl ((x12, ()), h13))))
   else
    some (Sum.inl ((j10.1, j10.2.1, j10.2.2.1, ()), h11))))) fun j14 =>
  (jcase j14 (fun (j15 : (Option (Nat × Nat) × Option (Nat × Nat) × Option (Nat × Nat) × Unit)) h16 =>
   (bind2 (α := (Option (Nat × Nat) × Option (Nat × Nat) × Option (Nat × Nat) × Bool × Unit)) (
    (need j15.1 fun q18 =>
    (bindV (.val (.agg [(.int .i64), .slice])) (h16.cells q18 2) fun (x19 : (Int × SL × Unit)) =>
    (need j15.2.1 fun q20 =>
    (bindV (.val (.agg [(.int .i64), .slice])) (h16.cells q20 2) fun (x21 : (Int × SL × Unit)) =>
    (bind2 (f9 N (x19.1, x19.2.1, ()) (x21.1, x21.2.1, ()) h16) fun (x22 : Bool) h23 =>
    (bif x22 then
     (need j15.2.1 fun q24 =>
     (bindV (.val (.agg [(.int .i64), .slice])) (h23.cells q24 2) fun (x25 : (Int × SL × Unit)) =>
     (need j15.1 fun q26 =>
     (bindV (.val (.agg [(.int .i64), .slice])) (h23.cells q26 2) fun (x27 : (Int × SL × Unit)) =>
     (bind2 (f9 N (x25.1, x25.2.1, ()) (x27.1, x27.2.1, ()) h23) fun (x28 : Bool) h29 =>
     some ((j15.1, j15.2.1, j15.2.2.1, x28, ()), h29))))))
    else
     some ((j15.1, j15.2.1, j15.2.2.1, false, ()), h23)))))))) fun (j30 : (Option (Nat × Nat) × Option (Nat × Nat) × Option (Nat × Nat) × Bool × Unit)) h31 =>
   (need (α := Sum ((Option (Nat × Nat) × Option (Nat × Nat) × Bool × Unit) × Heap) (Sum ((Bool × Unit) × Heap) (Empty))) (
    (need j30.1 fun q32 =>
    (bindV (.val (.agg [(.int .i64), .slice])) (h31.cells q32 2) fun (x33 : (Int × SL × Unit)) =>
    (need j30.2.1 fun q34 =>
    (bindV (.val (.agg [(.int .i64), .slice])) (h31.cells q34 2) fun (x35 : (Int × SL × Unit)) =>
    (bind2 (f9 N (x33.1, x33.2.1, ()) (x35.1, x35.2.1, ()) h31) fun (x36 : Bool) h37 =>
    (bif x36 then
     (need j30.2.1 fun q38 =>
     (bindV (.val (.agg [(.int .i64), .slice])) (h37.cells q38 2) fun (x39 : (Int × SL × Unit)) =>
     (need j30.2.2.1 fun q40 =>
     (bindV (.val (.agg [(.int .i64), .slice])) (h37.cells q40 2) fun (x41 : (Int × SL × Unit)) =>
     (bind2 (f9 N (x39.1, x39.2.1, ()) (x41.1, x41.2.1, ()) h37) fun (x42 : Bool) h43 =>
     (bif x42 then
      (need j30.1 fun q44 =>
      (bindV (.val (.agg [(.int .i64), .slice])) (h43.cells q44 2) fun (x45 : (Int × SL × Unit)) =>
      (need j30.2.2.1 fun q46 =>
      (bindV (.val (.agg [(.int .i64), .slice])) (h43.cells q46 2) fun (x47 : (Int × SL × Unit)) =>
      (bind2 (f9 N (x45.1, x45.2.1, ()) (x47.1, x47.2.1, ()) h43) fun (x48 : Bool) h49 =>
      let x50 : Bool := !x48
      (bif x50 then
       some (Sum.inr (Sum.inl ((false, ()), h49)))
      else
       (need j30.1 fun q51 =>
       (bindV (.val (.agg [(.int .i64), .slice])) (h49.cells q51 2) fun (x52 : (Int × SL × Unit)) =>
       (need j30.1 fun q53 =>
       (bindV (.val (.agg [(.int .i64), .slice])) (h49.cells q53 2) fun (x54 : (Int × SL × Unit)) =>
       (bind2 (f9 N (x52.1, x52.2.1, ()) (x54.1, x54.2.1, ()) h49) fun (x55 : Bool) h56 =>
       let x57 : Bool := !x55
       (bif x57 then
        some (Sum.inr (Sum.inl ((false, ()), h56)))
       else
        (need j30.1 fun q58 =>
        (bindV (.val (.agg [(.int .i64), .slice])) (h56.cells q58 2) fun (x59 : (Int × SL × Unit)) =>
        (need j30.2.1 fun q60 =>
        (bindV (.val (.agg [(.int .i64), .slice])) (h56.cells q60 2) fun (x61 : (Int × SL × Unit)) =>
        (bind2 (f11 N (x59.1, x59.2.1, ()) (x61.1, x61.2.1, ()) h56) fun (x62 : Bool) h63 =>
        (bif x62 then
         (need j30.1 fun q64 =>
         (bindV (.val (.agg [(.int .i64), .slice])) (h63.cells q64 2) fun (x65 : (Int × SL × Unit)) =>
         (need j30.2.1 fun q66 =>
         (bindV (.val (.agg [(.int .i64), .slice])) (h63.cells q66 2) fun (x67 : (Int × SL × Unit)) =>
         (bind2 (f9 N (x65.1, x65.2.1, ()) (x67.1, x67.2.1, ()) h63) fun (x68 : Bool) h69 =>
         let x70 : Bool := !x68
         (bif x70 then
          some (Sum.inr (Sum.inl ((false, ()), h69)))
         else
          (need j30.1 fun q71 =>
          (bindV (.val (.agg [(.int .i64), .slice])) (h69.cells q71 2) fun (x72 : (Int × SL × Unit)) =>
          (need j30.2.1 fun q73 =>
          (bindV (.val (.agg [(.int .i64), .slice])) (h69.cells q73 2) fun (x74 : (Int × SL × Unit)) =>
          (bind2 (f14 N (x72.1, x72.2.1, ()) (x74.1, x74.2.1, ()) h69) fun (x75 : Bool) h76 =>
          (bif x75 then
           let x77 : Bool := (bif true then j30.2.2.2.1 else !j30.2.2.2.1)
           (bif x77 then
            some (Sum.inr (Sum.inl ((false, ()), h76)))
           else
            (need j30.1 fun q78 =>
            (bindV (.val (.agg [(.int .i64), .slice])) (h76.cells q78 2) fun (x79 : (Int × SL × Unit)) =>
            (need j30.2.1 fun q80 =>
            (bindV (.val (.agg [(.int .i64), .slice])) (h76.cells q80 2) fun (x81 : (Int × SL × Unit)) =>
            (bind2 (f14 N (x79.1, x79.2.1, ()) (x81.1, x81.2.1, ()) h76) fun (x82 : Bool) h83 =>
            (bif x82 then
             (need j30.2.1 fun q84 =>
             (bindV (.val (.agg [(.int .i64), .slice])) (h83.cells q84 2) fun (x85 : (Int × SL × Unit)) =>
             (need j30.1 fun q86 =>
             (bindV (.val (.agg [(.int .i64), .slice])) (h83.cells q86 2) fun (x87 : (Int × SL × Unit)) =>
             (bind2 (f14 N (x85.1, x85.2.1, ()) (x87.1, x87.2.1, ()) h83) fun (x88 : Bool) h89 =>
             (bif x88 then
              some (Sum.inr (Sum.inl ((false, ()), h89)))
             else
              (need j30.1 fun q90 =>
              (bindV (.val (.agg [(.int .i64), .slice])) (h89.cells q90 2) fun (x91 : (Int × SL × Unit)) =>
              (need j30.2.1 fun q92 =>
              (bindV (.val (.agg [(.int .i64), .slice])) (h89.cells q92 2) fun (x93 : (Int × SL × Unit)) =>
              (bind2 (f14 N (x91.1, x91.2.1, ()) (x93.1, x93.2.1, ()) h89) fun (x94 : Bool) h95 =>
              (bif x94 then
               (need j30.2.1 fun q96 =>
               (bindV (.val (.agg [(.int .i64), .slice])) (h95.cells q96 2) fun (x97 : (Int × SL × Unit)) =>
               (need j30.2.2.1 fun q98 =>
               (bindV (.val (.agg [(.int .i64), .slice])) (h95.cells q98 2) fun (x99 : (Int × SL × Unit)) =>
               (bind2 (f14 N (x97.1, x97.2.1, ()) (x99.1, x99.2.1, ()) h95) fun (x100 : Bool) h101 =>
               (bif x100 then
                (need j30.1 fun q102 =>
                (bindV (.val (.agg [(.int .i64), .slice])) (h101.cells q102 2) fun (x103 : (Int × SL × Unit)) =>
                (need j30.2.2.1 fun q104 =>
                (bindV (.val (.agg [(.int .i64), .slice])) (h101.cells q104 2) fun (x105 : (Int × SL × Unit)) =>
                (bind2 (f14 N (x103.1, x103.2.1, ()) (x105.1, x105.2.1, ()) h101) fun (x106 : Bool) h107 =>
                let x108 : Bool := !x106
                (bif x108 then
                 some (Sum.inr (Sum.inl ((false, ()), h107)))
                else
                 some (Sum.inl ((j30.1, j30.2.1, j30.2.2.2.1, ()), h107))))))))
               else
                some (Sum.inl ((j30.1, j30.2.1, j30.2.2.2.1, ()), h101))))))))
              else
               some (Sum.inl ((j30.1, j30.2.1, j30.2.2.2.1, ()), h95))))))))))))))
            else
             (need j30.1 fun q109 =>
             (bindV (.val (.agg [(.int .i64), .slice])) (h83.cells q109 2) fun (x110 : (Int × SL × Unit)) =>
             (need j30.2.1 fun q111 =>
             (bindV (.val (.agg [(.int .i64), .slice])) (h83.cells q111 2) fun (x112 : (Int × SL × Unit)) =>
             (bind2 (f14 N (x110.1, x110.2.1, ()) (x112.1, x112.2.1, ()) h83) fun (x113 : Bool) h114 =>
             (bif x113 then
              (need j30.2.1 fun q115 =>
              (bindV (.val (.agg [(.int .i64), .slice])) (h114.cells q115 2) fun (x116 : (Int × SL × Unit)) =>
              (need j30.2.2.1 fun q117 =>
              (bindV (.val (.agg [(.int .i64), .slice])) (h114.cells q117 2) fun (x118 : (Int × SL × Unit)) =>
              (bind2 (f14 N (x116.1, x116.2.1, ()) (x118.1, x118.2.1, ()) h114) fun (x119 : Bool) h120 =>
              (bif x119 then
               (need j30.1 fun q121 =>
               (bindV (.val (.agg [(.int .i64), .slice])) (h120.cells q121 2) fun (x122 : (Int × SL × Unit)) =>
               (need j30.2.2.1 fun q123 =>
               (bindV (.val (.agg [(.int .i64), .slice])) (h120.cells q123 2) fun (x124 : (Int × SL × Unit)) =>
               (bind2 (f14 N (x122.1, x122.2.1, ()) (x124.1, x124.2.1, ()) h120) fun (x125 : Bool) h126 =>
               let x127 : Bool := !x125
               (bif x127 then
                some (Sum.inr (Sum.inl ((false, ()), h126)))
               else
                some (Sum.inl ((j30.1, j30.2.1, j30.2.2.2.1, ()), h126))))))))
              else
               some (Sum.inl ((j30.1, j30.2.1, j30.2.2.2.1, ()), h120))))))))
             else
              some (Sum.inl ((j30.1, j30.2.1, j30.2.2.2.1, ()), h114)))))))))))))))
          else
           (need j30.2.1 fun q128 =>
           (bindV (.val (.agg [(.int .i64), .slice])) (h76.cells q128 2) fun (x129 : (Int × SL × Unit)) =>
           (need j30.1 fun q130 =>
           (bindV (.val (.agg [(.int .i64), .slice])) (h76.cells q130 2) fun (x131 : (Int × SL × Unit)) =>
           (bind2 (f14 N (x129.1, x129.2.1, ()) (x131.1, x131.2.1, ()) h76) fun (x132 : Bool) h133 =>
           let x134 : Bool := (bif x132 then j30.2.2.2.1 else !j30.2.2.2.1)
           (bif x134 then
            some (Sum.inr (Sum.inl ((false, ()), h133)))
           else
            (need j30.1 fun q135 =>
            (bindV (.val (.agg [(.int .i64), .slice])) (h133.cells q135 2) fun (x136 : (Int × SL × Unit)) =>
            (need j30.2.1 fun q137 =>
            (bindV (.val (.agg [(.int .i64), .slice])) (h133.cells q137 2) fun (x138 : (Int × SL × Unit)) =>
            (bind2 (f14 N (x136.1, x136.2.1, ()) (x138.1, x138.2.1, ()) h133) fun (x139 : Bool) h140 =>
            (bif x139 then
             (need j30.2.1 fun q141 =>
             (bindV (.val (.agg [(.int .i64), .slice])) (h140.cells q141 2) fun (x142 : (Int × SL × Unit)) =>
             (need j30.1 fun q143 =>
             (bindV (.val (.agg [(.int .i64), .slice])) (h140.cells q143 2) fun (x144 : (Int × SL × Unit)) =>
             (bind2 (f14 N (x142.1, x142.2.1, ()) (x144.1, x144.2.1, ()) h140) fun (x145 : Bool) h146 =>
             (bif x145 then
              some (Sum.inr (Sum.inl ((false, ()), h146)))
             else
              (need j30.1 fun q147 =>
              (bindV (.val (.agg [(.int .i64), .slice])) (h146.cells q147 2) fun (x148 : (Int × SL × Unit)) =>
              (need j30.2.1 fun q149 =>
              (bindV (.val (.agg [(.int .i64), .slice])) (h146.cells q149 2) fun (x150 : (Int × SL × Unit)) =>
              (bind2 (f14 N (x148.1, x148.2.1, ()) (x150.1, x150.2.1, ()) h146) fun (x151 : Bool) h152 =>
              (bif x151 then
               (need j30.2.1 fun q153 =>
               (bindV (.val (.agg [(.int .i64), .slice])) (h152.cells q153 2) fun (x154 : (Int × SL × Unit)) =>
               (need j30.2.2.1 fun q155 =>
               (bindV (.val (.agg [(.int .i64), .slice])) (h152.cells q155 2) fun (x156 : (Int × SL × Unit)) =>
               (bind2 (f14 N (x154.1, x154.2.1, ()) (x156.1, x156.2.1, ()) h152) fun (x157 : Bool) h158 =>
               (bif x157 then
                (need j30.1 fun q159 =>
                (bindV (.val (.agg [(.int .i64), .slice])) (h158.cells q159 2) fun (x160 : (Int × SL × Unit)) =>
                (need j30.2.2.1 fun q161 =>
                (bindV (.val (.agg [(.int .i64), .slice])) (h158.cells q161 2) fun (x162 : (Int × SL × Unit)) =>
                (bind2 (f14 N (x160.1, x160.2.1, ()) (x162.1, x162.2.1, ()) h158) fun (x163 : Bool) h164 =>
                let x165 : Bool := !x163
                (bif x165 then
                 some (Sum.inr (Sum.inl ((false, ()), h164)))
                else
                 some (Sum.inl ((j30.1, j30.2.1, j30.2.2.2.1, ()), h164))))))))
               else
                some (Sum.inl ((j30.1, j30.2.1, j30.2.2.2.1, ()), h158))))))))
              else
               some (Sum.inl ((j30.1, j30.2.1, j30.2.2.2.1, ()), h152))))))))))))))
            else
             (need j30.1 fun q166 =>
             (bindV (.val (.agg [(.int .i64), .slice])) (h140.cells q166 2) fun (x167 : (Int × SL × Unit)) =>
             (need j30.2.1 fun q168 =>
             (bindV (.val (.agg [(.int .i64), .slice])) (h140.cells q168 2) fun (x169 : (Int × SL × Unit)) =>
             (bind2 (f14 N (x167.1, x167.2.1, ()) (x169.1, x169.2.1, ()) h140) fun (x170 : Bool) h171 =>
             (bif x170 then
              (need j30.2.1 fun q172 =>
              (bindV (.val (.agg [(.int .i64), .slice])) (h171.cells q172 2) fun (x173 : (Int × SL × Unit)) =>
              (need j30.2.2.1 fun q174 =>
              (bindV (.val (.agg [(.int .i64), .slice])) (h171.cells q174 2) fun (x175 : (Int × SL × Unit)) =>
              (bind2 (f14 N (x173.1, x173.2.1, ()) (x175.1, x175.2.1, ()) h171) fun (x176 : Bool) h177 =>
              (bif x176 then
               (need j30.1 fun q178 =>
               (bindV (.val (.agg [(.int .i64), .slice])) (h177.cells q178 2) fun (x179 : (Int × SL × Unit)) =>
               (need j30.2.2.1 fun q180 =>
               (bindV (.val (.agg [(.int .i64), .slice])) (h177.cells q180 2) fun (x181 : (Int × SL × Unit)) =>
               (bind2 (f14 N (x179.1, x179.2.1, ()) (x181.1, x181.2.1, ()) h177) fun (x182 : Bool) h183 =>
               let x184 : Bool := !x182
               (bif x184 then
                some (Sum.inr (Sum.inl ((false, ()), h183)))
               else
                some (Sum.inl ((j30.1, j30.2.1, j30.2.2.2.1, ()), h183))))))))
              else
               some (Sum.inl ((j30.1, j30.2.1, j30.2.2.2.1, ()), h177))))))))
             else
              some (Sum.inl ((j30.1, j30.2.1, j30.2.2.2.1, ()), h171))))))))))))))))))))))))))))))))
        else
         (need j30.1 fun q185 =>
         (bindV (.val (.agg [(.int .i64), .slice])) (h63.cells q185 2) fun (x186 : (Int × SL × Unit)) =>
         (need j30.2.1 fun q187 =>
         (bindV (.val (.agg [(.int .i64), .slice])) (h63.cells q187 2) fun (x188 : (Int × SL × Unit)) =>
         (bind2 (f14 N (x186.1, x186.2.1, ()) (x188.1, x188.2.1, ()) h63) fun (x189 : Bool) h190 =>
         (bif x189 then
          let x191 : Bool := (bif true then j30.2.2.2.1 else !j30.2.2.2.1)
          (bif x191 then
           some (Sum.inr (Sum.inl ((false, ()), h190)))
          else
           (need j30.1 fun q192 =>
           (bindV (.val (.agg [(.int .i64), .slice])) (h190.cells q192 2) fun (x193 : (Int × SL × Unit)) =>
           (need j30.2.1 fun q194 =>
           (bindV (.val (.agg [(.int .i64), .slice])) (h190.cells q194 2) fun (x195 : (Int × SL × Unit)) =>
           (bind2 (f14 N (x193.1, x193.2.1, ()) (x195.1, x195.2.1, ()) h190) fun (x196 : Bool) h197 =>
           (bif x196 then
            (need j30.2.1 fun q198 =>
            (bindV (.val (.agg [(.int .i64), .slice])) (h197.cells q198 2) fun (x199 : (Int × SL × Unit)) =>
            (need j30.1 fun q200 =>
            (bindV (.val (.agg [(.int .i64), .slice])) (h197.cells q200 2) fun (x201 : (Int × SL × Unit)) =>
            (bind2 (f14 N (x199.1, x199.2.1, ()) (x201.1, x201.2.1, ()) h197) fun (x202 : Bool) h203 =>
            (bif x202 then
             some (Sum.inr (Sum.inl ((false, ()), h203)))
            else
             (need j30.1 fun q204 =>
             (bindV (.val (.agg [(.int .i64), .slice])) (h203.cells q204 2) fun (x205 : (Int × SL × Unit)) =>
             (need j30.2.1 fun q206 =>
             (bindV (.val (.agg [(.int .i64), .slice])) (h203.cells q206 2) fun (x207 : (Int × SL × Unit)) =>
             (bind2 (f14 N (x205.1, x205.2.1, ()) (x207.1, x207.2.1, ()) h203) fun (x208 : Bool) h209 =>
             (bif x208 then
              (need j30.2.1 fun q210 =>
              (bindV (.val (.agg [(.int .i64), .slice])) (h209.cells q210 2) fun (x211 : (Int × SL × Unit)) =>
              (need j30.2.2.1 fun q212 =>
              (bindV (.val (.agg [(.int .i64), .slice])) (h209.cells q212 2) fun (x213 : (Int × SL × Unit)) =>
              (bind2 (f14 N (x211.1, x211.2.1, ()) (x213.1, x213.2.1, ()) h209) fun (x214 : Bool) h215 =>
              (bif x214 then
               (need j30.1 fun q216 =>
               (bindV (.val (.agg [(.int .i64), .slice])) (h215.cells q216 2) fun (x217 : (Int × SL × Unit)) =>
               (need j30.2.2.1 fun q218 =>
               (bindV (.val (.agg [(.int .i64), .slice])) (h215.cells q218 2) fun (x219 : (Int × SL × Unit)) =>
               (bind2 (f14 N (x217.1, x217.2.1, ()) (x219.1, x219.2.1, ()) h215) fun (x220 : Bool) h221 =>
               let x222 : Bool := !x220
               (bif x222 then
                some (Sum.inr (Sum.inl ((false, ()), h221)))
               else
                some (Sum.inl ((j30.1, j30.2.1, j30.2.2.2.1, ()), h221))))))))
              else
               some (Sum.inl ((j30.1, j30.2.1, j30.2.2.2.1, ()), h215))))))))
             else
              some (Sum.inl ((j30.1, j30.2.1, j30.2.2.2.1, ()), h209))))))))))))))
           else
            (need j30.1 fun q223 =>
            (bindV (.val (.agg [(.int .i64), .slice])) (h197.cells q223 2) fun (x224 : (Int × SL × Unit)) =>
            (need j30.2.1 fun q225 =>
            (bindV (.val (.agg [(.int .i64), .slice])) (h197.cells q225 2) fun (x226 : (Int × SL × Unit)) =>
            (bind2 (f14 N (x224.1, x224.2.1, ()) (x226.1, x226.2.1, ()) h197) fun (x227 : Bool) h228 =>
            (bif x227 then
             (need j30.2.1 fun q229 =>
             (bindV (.val (.agg [(.int .i64), .slice])) (h228.cells q229 2) fun (x230 : (Int × SL × Unit)) =>
             (need j30.2.2.1 fun q231 =>
             (bindV (.val (.agg [(.int .i64), .slice])) (h228.cells q231 2) fun (x232 : (Int × SL × Unit)) =>
             (bind2 (f14 N (x230.1, x230.2.1, ()) (x232.1, x232.2.1, ()) h228) fun (x233 : Bool) h234 =>
             (bif x233 then
              (need j30.1 fun q235 =>
              (bindV (.val (.agg [(.int .i64), .slice])) (h234.cells q235 2) fun (x236 : (Int × SL × Unit)) =>
              (need j30.2.2.1 fun q237 =>
              (bindV (.val (.agg [(.int .i64), .slice])) (h234.cells q237 2) fun (x238 : (Int × SL × Unit)) =>
              (bind2 (f14 N (x236.1, x236.2.1, ()) (x238.1, x238.2.1, ()) h234) fun (x239 : Bool) h240 =>
              let x241 : Bool := !x239
              (bif x241 then
               some (Sum.inr (Sum.inl ((false, ()), h240)))
              else
               some (Sum.inl ((j30.1, j30.2.1, j30.2.2.2.1, ()), h240))))))))
             else
              some (Sum.inl ((j30.1, j30.2.1, j30.2.2.2.1, ()), h234))))))))
            else
             some (Sum.inl ((j30.1, j30.2.1, j30.2.2.2.1, ()), h228)))))))))))))))
         else
          (need j30.2.1 fun q242 =>
          (bindV (.val (.agg [(.int .i64), .slice])) (h190.cells q242 2) fun (x243 : (Int × SL × Unit)) =>
          (need j30.1 fun q244 =>
          (bindV (.val (.agg [(.int .i64), .slice])) (h190.cells q244 2) fun (x245 : (Int × SL × Unit)) =>
          (bind2 (f14 N (x243.1, x243.2.1, ()) (x245.1, x245.2.1, ()) h190) fun (x246 : Bool) h247 =>
          let x248 : Bool := (bif x246 then j30.2.2.2.1 else !j30.2.2.2.1)
          (bif x248 then
           some (Sum.inr (Sum.inl ((false, ()), h247)))
          else
           (need j30.1 fun q249 =>
           (bindV (.val (.agg [(.int .i64), .slice])) (h247.cells q249 2) fun (x250 : (Int × SL × Unit)) =>
           (need j30.2.1 fun q251 =>
           (bindV (.val (.agg [(.int .i64), .slice])) (h247.cells q251 2) fun (x252 : (Int × SL × Unit)) =>
           (bind2 (f14 N (x250.1, x250.2.1, ()) (x252.1, x252.2.1, ()) h247) fun (x253 : Bool) h254 =>
           (bif x253 then
            (need j30.2.1 fun q255 =>
            (bindV (.val (.agg [(.int .i64), .slice])) (h254.cells q255 2) fun (x256 : (Int × SL × Unit)) =>
            (need j30.1 fun q257 =>
            (bindV (.val (.agg [(.int .i64), .slice])) (h254.cells q257 2) fun (x258 : (Int × SL × Unit)) =>
            (bind2 (f14 N (x256.1, x256.2.1, ()) (x258.1, x258.2.1, ()) h254) fun (x259 : Bool) h260 =>
            (bif x259 then
             some (Sum.inr (Sum.inl ((false, ()), h260)))
            else
             (need j30.1 fun q261 =>
             (bindV (.val (.agg [(.int .i64), .slice])) (h260.cells q261 2) fun (x262 : (Int × SL × Unit)) =>
             (need j30.2.1 fun q263 =>
             (bindV (.val (.agg [(.int .i64), .slice])) (h260.cells q263 2) fun (x264 : (Int × SL × Unit)) =>
             (bind2 (f14 N (x262.1, x262.2.1, ()) (x264.1, x264.2.1, ()) h260) fun (x265 : Bool) h266 =>
             (bif x265 then
              (need j30.2.1 fun q267 =>
              (bindV (.val (.agg [(.int .i64), .slice])) (h266.cells q267 2) fun (x268 : (Int × SL × Unit)) =>
              (need j30.2.2.1 fun q269 =>
              (bindV (.val (.agg [(.int .i64), .slice])) (h266.cells q269 2) fun (x270 : (Int × SL × Unit)) =>
              (bind2 (f14 N (x268.1, x268.2.1, ()) (x270.1, x270.2.1, ()) h266) fun (x271 : Bool) h272 =>
              (bif x271 then
               (need j30.1 fun q273 =>
               (bindV (.val (.agg [(.int .i64), .slice])) (h272.cells q273 2) fun (x274 : (Int × SL × Unit)) =>
               (need j30.2.2.1 fun q275 =>
               (bindV (.val (.agg [(.int .i64), .slice])) (h272.cells q275 2) fun (x276 : (Int × SL × Unit)) =>
               (bind2 (f14 N (x274.1, x274.2.1, ()) (x276.1, x276.2.1, ()) h272) fun (x277 : Bool) h278 =>
               let x279 : Bool := !x277
               (bif x279 then
                some (Sum.inr (Sum.inl ((false, ()), h278)))
               else
                some (Sum.inl ((j30.1, j30.2.1, j30.2.2.2.1, ()), h278))))))))
              else
               some (Sum.inl ((j30.1, j30.2.1, j30.2.2.2.1, ()), h272))))))))
             else
              some (Sum.inl ((j30.1, j30.2.1, j30.2.2.2.1, ()), h266))))))))))))))
           else
            (need j30.1 fun q280 =>
            (bindV (.val (.agg [(.int .i64), .slice])) (h254.cells q280 2) fun (x281 : (Int × SL × Unit)) =>
            (need j30.2.1 fun q282 =>
            (bindV (.val (.agg [(.int .i64), .slice])) (h254.cells q282 2) fun (x283 : (Int × SL × Unit)) =>
            (bind2 (f14 N (x281.1, x281.2.1, ()) (x283.1, x283.2.1, ()) h254) fun (x284 : Bool) h285 =>
            (bif x284 then
             (need j30.2.1 fun q286 =>
             (bindV (.val (.agg [(.int .i64), .slice])) (h285.cells q286 2) fun (x287 : (Int × SL × Unit)) =>
             (need j30.2.2.1 fun q288 =>
             (bindV (.val (.agg [(.int .i64), .slice])) (h285.cells q288 2) fun (x289 : (Int × SL × Unit)) =>
             (bind2 (f14 N (x287.1, x287.2.1, ()) (x289.1, x289.2.1, ()) h285) fun (x290 : Bool) h291 =>
             (bif x290 then
              (need j30.1 fun q292 =>
              (bindV (.val (.agg [(.int .i64), .slice])) (h291.cells q292 2) fun (x293 : (Int × SL × Unit)) =>
              (need j30.2.2.1 fun q294 =>
              (bindV (.val (.agg [(.int .i64), .slice])) (h291.cells q294 2) fun (x295 : (Int × SL × Unit)) =>
              (bind2 (f14 N (x293.1, x293.2.1, ()) (x295.1, x295.2.1, ()) h291) fun (x296 : Bool) h297 =>
              let x298 : Bool := !x296
              (bif x298 then
               some (Sum.inr (Sum.inl ((false, ()), h297)))
              else
               some (Sum.inl ((j30.1, j30.2.1, j30.2.2.2.1, ()), h297))))))))
             else
              some (Sum.inl ((j30.1, j30.2.1, j30.2.2.2.1, ()), h291))))))))
            else
             some (Sum.inl ((j30.1, j30.2.1, j30.2.2.2.1, ()), h285))))))))))))))))))))))))))))))))))))))))))))
     else
      (need j30.1 fun q299 =>
      (bindV (.val (.agg [(.int .i64), .slice])) (h43.cells q299 2) fun (x300 : (Int × SL × Unit)) =>
      (need j30.1 fun q301 =>
      (bindV (.val (.agg [(.int .i64), .slice])) (h43.cells q301 2) fun (x302 : (Int × SL × Unit)) =>
      (bind2 (f9 N (x300.1, x300.2.1, ()) (x302.1, x302.2.1, ()) h43) fun (x303 : Bool) h304 =>
      let x305 : Bool := !x303
      (bif x305 then
       some (Sum.inr (Sum.inl ((false, ()), h304)))
      else
       (need j30.1 fun q306 =>
       (bindV (.val (.agg [(.int .i64), .slice])) (h304.cells q306 2) fun (x307 : (Int × SL × Unit)) =>
       (need j30.2.1 fun q308 =>
       (bindV (.val (.agg [(.int .i64), .slice])) (h304.cells q308 2) fun (x309 : (Int × SL × Unit)) =>
       (bind2 (f11 N (x307.1, x307.2.1, ()) (x309.1, x309.2.1, ()) h304) fun (x310 : Bool) h311 =>
       (bif x310 then
        (need j30.1 fun q312 =>
        (bindV (.val (.agg [(.int .i64), .slice])) (h311.cells q312 2) fun (x313 : (Int × SL × Unit)) =>
        (need j30.2.1 fun q314 =>
        (bindV (.val (.agg [(.int .i64), .slice])) (h311.cells q314 2) fun (x315 : (Int × SL × Unit)) =>
        (bind2 (f9 N (x313.1, x313.2.1, ()) (x315.1, x315.2.1, ()) h311) fun (x316 : Bool) h317 =>
        let x318 : Bool := !x316
        (bif x318 then
         some (Sum.inr (Sum.inl ((false, ()), h317)))
        else
         (need j30.1 fun q319 =>
         (bindV (.val (.agg [(.int .i64), .slice])) (h317.cells q319 2) fun (x320 : (Int × SL × Unit)) =>
         (need j30.2.1 fun q321 =>
         (bindV (.val (.agg [(.int .i64), .slice])) (h317.cells q321 2) fun (x322 : (Int × SL × Unit)) =>
         (bind2 (f14 N (x320.1, x320.2.1, ()) (x322.1, x322.2.1, ()) h317) fun (x323 : Bool) h324 =>
         (bif x323 then
          let x325 : Bool := (bif true then j30.2.2.2.1 else !j30.2.2.2.1)
          (bif x325 then
           some (Sum.inr (Sum.inl ((false, ()), h324)))
          else
           (need j30.1 fun q326 =>
           (bindV (.val (.agg [(.int .i64), .slice])) (h324.cells q326 2) fun (x327 : (Int × SL × Unit)) =>
           (need j30.2.1 fun q328 =>
           (bindV (.val (.agg [(.int .i64), .slice])) (h324.cells q328 2) fun (x329 : (Int × SL × Unit)) =>
           (bind2 (f14 N (x327.1, x327.2.1, ()) (x329.1, x329.2.1, ()) h324) fun (x330 : Bool) h331 =>
           (bif x330 then
            (need j30.2.1 fun q332 =>
            (bindV (.val (.agg [(.int .i64), .slice])) (h331.cells q332 2) fun (x333 : (Int × SL × Unit)) =>
            (need j30.1 fun q334 =>
            (bindV (.val (.agg [(.int .i64), .slice])) (h331.cells q334 2) fun (x335 : (Int × SL × Unit)) =>
            (bind2 (f14 N (x333.1, x333.2.1, ()) (x335.1, x335.2.1, ()) h331) fun (x336 : Bool) h337 =>
            (bif x336 then
             some (Sum.inr (Sum.inl ((false, ()), h337)))
            else
             (need j30.1 fun q338 =>
             (bindV (.val (.agg [(.int .i64), .slice])) (h337.cells q338 2) fun (x339 : (Int × SL × Unit)) =>
             (need j30.2.1 fun q340 =>
             (bindV (.val (.agg [(.int .i64), .slice])) (h337.cells q340 2) fun (x341 : (Int × SL × Unit)) =>
             (bind2 (f14 N (x339.1, x339.2.1, ()) (x341.1, x341.2.1, ()) h337) fun (x342 : Bool) h343 =>
             (bif x342 then
              (need j30.2.1 fun q344 =>
              (bindV (.val (.agg [(.int .i64), .slice])) (h343.cells q344 2) fun (x345 : (Int × SL × Unit)) =>
              (need j30.2.2.1 fun q346 =>
              (bindV (.val (.agg [(.int .i64), .slice])) (h343.cells q346 2) fun (x347 : (Int × SL × Unit)) =>
              (bind2 (f14 N (x345.1, x345.2.1, ()) (x347.1, x347.2.1, ()) h343) fun (x348 : Bool) h349 =>
              (bif x348 then
               (need j30.1 fun q350 =>
               (bindV (.val (.agg [(.int .i64), .slice])) (h349.cells q350 2) fun (x351 : (Int × SL × Unit)) =>
               (need j30.2.2.1 fun q352 =>
               (bindV (.val (.agg [(.int .i64), .slice])) (h349.cells q352 2) fun (x353 : (Int × SL × Unit)) =>
               (bind2 (f14 N (x351.1, x351.2.1, ()) (x353.1, x353.2.1, ()) h349) fun (x354 : Bool) h355 =>
               let x356 : Bool := !x354
               (bif x356 then
                some (Sum.inr (Sum.inl ((false, ()), h355)))
               else
                some (Sum.inl ((j30.1, j30.2.1, j30.2.2.2.1, ()), h355))))))))
              else
               some (Sum.inl ((j30.1, j30.2.1, j30.2.2.2.1, ()), h349))))))))
             else
              some (Sum.inl ((j30.1, j30.2.1, j30.2.2.2.1, ()), h343))))))))))))))
           else
            (need j30.1 fun q357 =>
            (bindV (.val (.agg [(.int .i64), .slice])) (h331.cells q357 2) fun (x358 : (Int × SL × Unit)) =>
            (need j30.2.1 fun q359 =>
            (bindV (.val (.agg [(.int .i64), .slice])) (h331.cells q359 2) fun (x360 : (Int × SL × Unit)) =>
            (bind2 (f14 N (x358.1, x358.2.1, ()) (x360.1, x360.2.1, ()) h331) fun (x361 : Bool) h362 =>
            (bif x361 then
             (need j30.2.1 fun q363 =>
             (bindV (.val (.agg [(.int .i64), .slice])) (h362.cells q363 2) fun (x364 : (Int × SL × Unit)) =>
             (need j30.2.2.1 fun q365 =>
             (bindV (.val (.agg [(.int .i64), .slice])) (h362.cells q365 2) fun (x366 : (Int × SL × Unit)) =>
             (bind2 (f14 N (x364.1, x364.2.1, ()) (x366.1, x366.2.1, ()) h362) fun (x367 : Bool) h368 =>
             (bif x367 then
              (need j30.1 fun q369 =>
              (bindV (.val (.agg [(.int .i64), .slice])) (h368.cells q369 2) fun (x370 : (Int × SL × Unit)) =>
              (need j30.2.2.1 fun q371 =>
              (bindV (.val (.agg [(.int .i64), .slice])) (h368.cells q371 2) fun (x372 : (Int × SL × Unit)) =>
              (bind2 (f14 N (x370.1, x370.2.1, ()) (x372.1, x372.2.1, ()) h368) fun (x373 : Bool) h374 =>
              let x375 : Bool := !x373
              (bif x375 then
               some (Sum.inr (Sum.inl ((false, ()), h374)))
              else
               some (Sum.inl ((j30.1, j30.2.1, j30.2.2.2.1, ()), h374))))))))
             else
              some (Sum.inl ((j30.1, j30.2.1, j30.2.2.2.1, ()), h368))))))))
            else
             some (Sum.inl ((j30.1, j30.2.1, j30.2.2.2.1, ()), h362)))))))))))))))
         else
          (need j30.2.1 fun q376 =>
          (bindV (.val (.agg [(.int .i64), .slice])) (h324.cells q376 2) fun (x377 : (Int × SL × Unit)) =>
          (need j30.1 fun q378 =>
          (bindV (.val (.agg [(.int .i64), .slice])) (h324.cells q378 2) fun (x379 : (Int × SL × Unit)) =>
          (bind2 (f14 N (x377.1, x377.2.1, ()) (x379.1, x379.2.1, ()) h324) fun (x380 : Bool) h381 =>
          let x382 : Bool := (bif x380 then j30.2.2.2.1 else !j30.2.2.2.1)
          (bif x382 then
           some (Sum.inr (Sum.inl ((false, ()), h381)))
          else
           (need j30.1 fun q383 =>
           (bindV (.val (.agg [(.int .i64), .slice])) (h381.cells q383 2) fun (x384 : (Int × SL × Unit)) =>
           (need j30.2.1 fun q385 =>
           (bindV (.val (.agg [(.int .i64), .slice])) (h381.cells q385 2) fun (x386 : (Int × SL × Unit)) =>
           (bind2 (f14 N (x384.1, x384.2.1, ()) (x386.1, x386.2.1, ()) h381) fun (x387 : Bool) h388 =>
           (bif x387 then
            (need j30.2.1 fun q389 =>
            (bindV (.val (.agg [(.int .i64), .slice])) (h388.cells q389 2) fun (x390 : (Int × SL × Unit)) =>
            (need j30.1 fun q391 =>
            (bindV (.val (.agg [(.int .i64), .slice])) (h388.cells q391 2) fun (x392 : (Int × SL × Unit)) =>
            (bind2 (f14 N (x390.1, x390.2.1, ()) (x392.1, x392.2.1, ()) h388) fun (x393 : Bool) h394 =>
            (bif x393 then
             some (Sum.inr (Sum.inl ((false, ()), h394)))
            else
             (need j30.1 fun q395 =>
             (bindV (.val (.agg [(.int .i64), .slice])) (h394.cells q395 2) fun (x396 : (Int × SL × Unit)) =>
             (need j30.2.1 fun q397 =>
             (bindV (.val (.agg [(.int .i64), .slice])) (h394.cells q397 2) fun (x398 : (Int × SL × Unit)) =>
             (bind2 (f14 N (x396.1, x396.2.1, ()) (x398.1, x398.2.1, ()) h394) fun (x399 : Bool) h400 =>
             (bif x399 then
              (need j30.2.1 fun q401 =>
              (bindV (.val (.agg [(.int .i64), .slice])) (h400.cells q401 2) fun (x402 : (Int × SL × Unit)) =>
              (need j30.2.2.1 fun q403 =>
              (bindV (.val (.agg [(.int .i64), .slice])) (h400.cells q403 2) fun (x404 : (Int × SL × Unit)) =>
              (bind2 (f14 N (x402.1, x402.2.1, ()) (x404.1, x404.2.1, ()) h400) fun (x405 : Bool) h406 =>
              (bif x405 then
               (need j30.1 fun q407 =>
               (bindV (.val (.agg [(.int .i64), .slice])) (h406.cells q407 2) fun (x408 : (Int × SL × Unit)) =>
               (need j30.2.2.1 fun q409 =>
               (bindV (.val (.agg [(.int .i64), .slice])) (h406.cells q409 2) fun (x410 : (Int × SL × Unit)) =>
               (bind2 (f14 N (x408.1, x408.2.1, ()) (x410.1, x410.2.1, ()) h406) fun (x411 : Bool) h412 =>
               let x413 : Bool := !x411
               (bif x413 then
                some (Sum.inr (Sum.inl ((false, ()), h412)))
               else
                some (Sum.inl ((j30.1, j30.2.1, j30.2.2.2.1, ()), h412))))))))
              else
               some (Sum.inl ((j30.1, j30.2.1, j30.2.2.2.1, ()), h406))))))))
             else
              some (Sum.inl ((j30.1, j30.2.1, j30.2.2.2.1, ()), h400))))))))))))))
           else
            (need j30.1 fun q414 =>
            (bindV (.val (.agg [(.int .i64), .slice])) (h388.cells q414 2) fun (x415 : (Int × SL × Unit)) =>
            (need j30.2.1 fun q416 =>
            (bindV (.val (.agg [(.int .i64), .slice])) (h388.cells q416 2) fun (x417 : (Int × SL × Unit)) =>
            (bind2 (f14 N (x415.1, x415.2.1, ()) (x417.1, x417.2.1, ()) h388) fun (x418 : Bool) h419 =>
            (bif x418 then
             (need j30.2.1 fun q420 =>
             (bindV (.val (.agg [(.int .i64), .slice])) (h419.cells q420 2) fun (x421 : (Int × SL × Unit)) =>
             (need j30.2.2.1 fun q422 =>
             (bindV (.val (.agg [(.int .i64), .slice])) (h419.cells q422 2) fun (x423 : (Int × SL × Unit)) =>
             (bind2 (f14 N (x421.1, x421.2.1, ()) (x423.1, x423.2.1, ()) h419) fun (x424 : Bool) h425 =>
             (bif x424 then
              (need j30.1 fun q426 =>
              (bindV (.val (.agg [(.int .i64), .slice])) (h425.cells q426 2) fun (x427 : (Int × SL × Unit)) =>
              (need j30.2.2.1 fun q428 =>
              (bindV (.val (.agg [(.int .i64), .slice])) (h425.cells q428 2) fun (x429 : (Int × SL × Unit)) =>
              (bind2 (f14 N (x427.1, x427.2.1, ()) (x429.1, x429.2.1, ()) h425) fun (x430 : Bool) h431 =>
              let x432 : Bool := !x430
              (bif x432 then
               some (Sum.inr (Sum.inl ((false, ()), h431)))
              else
               some (Sum.inl ((j30.1, j30.2.1, j30.2.2.2.1, ()), h431))))))))
             else
              some (Sum.inl ((j30.1, j30.2.1, j30.2.2.2.1, ()), h425))))))))
            else
             some (Sum.inl ((j30.1, j30.2.1, j30.2.2.2.1, ()), h419))))))))))))))))))))))))))))))))
       else
        (need j30.1 fun q433 =>
        (bindV (.val (.agg [(.int .i64), .slice])) (h311.cells q433 2) fun (x434 : (Int × SL × Unit)) =>
        (need j30.2.1 fun q435 =>
        (bindV (.val (.agg [(.int .i64), .slice])) (h311.cells q435 2) fun (x436 : (Int × SL × Unit)) =>
        (bind2 (f14 N (x434.1, x434.2.1, ()) (x436.1, x436.2.1, ()) h311) fun (x437 : Bool) h438 =>
        (bif x437 then
         let x439 : Bool := (bif true then j30.2.2.2.1 else !j30.2.2.2.1)
         (bif x439 then
          some (Sum.inr (Sum.inl ((false, ()), h438)))
         else
          (need j30.1 fun q440 =>
          (bindV (.val (.agg [(.int .i64), .slice])) (h438.cells q440 2) fun (x441 : (Int × SL × Unit)) =>
          (need j30.2.1 fun q442 =>
          (bindV (.val (.agg [(.int .i64), .slice])) (h438.cells q442 2) fun (x443 : (Int × SL × Unit)) =>
          (bind2 (f14 N (x441.1, x441.2.1, ()) (x443.1, x443.2.1, ()) h438) fun (x444 : Bool) h445 =>
          (bif x444 then
           (need j30.2.1 fun q446 =>
           (bindV (.val (.agg [(.int .i64), .slice])) (h445.cells q446 2) fun (x447 : (Int × SL × Unit)) =>
           (need j30.1 fun q448 =>
           (bindV (.val (.agg [(.int .i64), .slice])) (h445.cells q448 2) fun (x449 : (Int × SL × Unit)) =>
           (bind2 (f14 N (x447.1, x447.2.1, ()) (x449.1, x449.2.1, ()) h445) fun (x450 : Bool) h451 =>
           (bif x450 then
            some (Sum.inr (Sum.inl ((false, ()), h451)))
           else
            (need j30.1 fun q452 =>
            (bindV (.val (.agg [(.int .i64), .slice])) (h451.cells q452 2) fun (x453 : (Int × SL × Unit)) =>
            (need j30.2.1 fun q454 =>
            (bindV (.val (.agg [(.int .i64), .slice])) (h451.cells q454 2) fun (x455 : (Int × SL × Unit)) =>
            (bind2 (f14 N (x453.1, x453.2.1, ()) (x455.1, x455.2.1, ()) h451) fun (x456 : Bool) h457 =>
            (bif x456 then
             (need j30.2.1 fun q458 =>
             (bindV (.val (.agg [(.int .i64), .slice])) (h457.cells q458 2) fun (x459 : (Int × SL × Unit)) =>
             (need j30.2.2.1 fun q460 =>
             (bindV (.val (.agg [(.int .i64), .slice])) (h457.cells q460 2) fun (x461 : (Int × SL × Unit)) =>
             (bind2 (f14 N (x459.1, x459.2.1, ()) (x461.1, x461.2.1, ()) h457) fun (x462 : Bool) h463 =>
             (bif x462 then
              (need j30.1 fun q464 =>
              (bindV (.val (.agg [(.int .i64), .slice])) (h463.cells q464 2) fun (x465 : (Int × SL × Unit)) =>
              (need j30.2.2.1 fun q466 =>
              (bindV (.val (.agg [(.int .i64), .slice])) (h463.cells q466 2) fun (x467 : (Int × SL × Unit)) =>
              (bind2 (f14 N (x465.1, x465.2.1, ()) (x467.1, x467.2.1, ()) h463) fun (x468 : Bool) h469 =>
              let x470 : Bool := !x468
              (bif x470 then
               some (Sum.inr (Sum.inl ((false, ()), h469)))
              else
               some (Sum.inl ((j30.1, j30.2.1, j30.2.2.2.1, ()), h469))))))))
             else
              some (Sum.inl ((j30.1, j30.2.1, j30.2.2.2.1, ()), h463))))))))
            else
             some (Sum.inl ((j30.1, j30.2.1, j30.2.2.2.1, ()), h457))))))))))))))
          else
           (need j30.1 fun q471 =>
           (bindV (.val (.agg [(.int .i64), .slice])) (h445.cells q471 2) fun (x472 : (Int × SL × Unit)) =>
           (need j30.2.1 fun q473 =>
           (bindV (.val (.agg [(.int .i64), .slice])) (h445.cells q473 2) fun (x474 : (Int × SL × Unit)) =>
           (bind2 (f14 N (x472.1, x472.2.1, ()) (x474.1, x474.2.1, ()) h445) fun (x475 : Bool) h476 =>
           (bif x475 then
            (need j30.2.1 fun q477 =>
            (bindV (.val (.agg [(.int .i64), .slice])) (h476.cells q477 2) fun (x478 : (Int × SL × Unit)) =>
            (need j30.2.2.1 fun q479 =>
            (bindV (.val (.agg [(.int .i64), .slice])) (h476.cells q479 2) fun (x480 : (Int × SL × Unit)) =>
            (bind2 (f14 N (x478.1, x478.2.1, ()) (x480.1, x480.2.1, ()) h476) fun (x481 : Bool) h482 =>
            (bif x481 then
             (need j30.1 fun q483 =>
             (bindV (.val (.agg [(.int .i64), .slice])) (h482.cells q483 2) fun (x484 : (Int × SL × Unit)) =>
             (need j30.2.2.1 fun q485 =>
             (bindV (.val (.agg [(.int .i64), .slice])) (h482.cells q485 2) fun (x486 : (Int × SL × Unit)) =>
             (bind2 (f14 N (x484.1, x484.2.1, ()) (x486.1, x486.2.1, ()) h482) fun (x487 : Bool) h488 =>
             let x489 : Bool := !x487
             (bif x489 then
              some (Sum.inr (Sum.inl ((false, ()), h488)))
             else
              some (Sum.inl ((j30.1, j30.2.1, j30.2.2.2.1, ()), h488))))))))
            else
             some (Sum.inl ((j30.1, j30.2.1, j30.2.2.2.1, ()), h482))))))))
           else
            some (Sum.inl ((j30.1, j30.2.1, j30.2.2.2.1, ()), h476)))))))))))))))
        else
         (need j30.2.1 fun q490 =>
         (bindV (.val (.agg [(.int .i64), .slice])) (h438.cells q490 2) fun (x491 : (Int × SL × Unit)) =>
         (need j30.1 fun q492 =>
         (bindV (.val (.agg [(.int .i64), .slice])) (h438.cells q492 2) fun (x493 : (Int × SL × Unit)) =>
         (bind2 (f14 N (x491.1, x491.2.1, ()) (x493.1, x493.2.1, ()) h438) fun (x494 : Bool) h495 =>
         let x496 : Bool := (bif x494 then j30.2.2.2.1 else !j30.2.2.2.1)
         (bif x496 then
          some (Sum.inr (Sum.inl ((false, ()), h495)))
         else
          (need j30.1 fun q497 =>
          (bindV (.val (.agg [(.int .i64), .slice])) (h495.cells q497 2) fun (x498 : (Int × SL × Unit)) =>
          (need j30.2.1 fun q499 =>
          (bindV (.val (.agg [(.int .i64), .slice])) (h495.cells q499 2) fun (x500 : (Int × SL × Unit)) =>
          (bind2 (f14 N (x498.1, x498.2.1, ()) (x500.1, x500.2.1, ()) h495) fun (x501 : Bool) h502 =>
          (bif x501 then
           (need j30.2.1 fun q503 =>
           (bindV (.val (.agg [(.int .i64), .slice])) (h502.cells q503 2) fun (x504 : (Int × SL × Unit)) =>
           (need j30.1 fun q505 =>
           (bindV (.val (.agg [(.int .i64), .slice])) (h502.cells q505 2) fun (x506 : (Int × SL × Unit)) =>
           (bind2 (f14 N (x504.1, x504.2.1, ()) (x506.1, x506.2.1, ()) h502) fun (x507 : Bool) h508 =>
           (bif x507 then
            some (Sum.inr (Sum.inl ((false, ()), h508)))
           else
            (need j30.1 fun q509 =>
            (bindV (.val (.agg [(.int .i64), .slice])) (h508.cells q509 2) fun (x510 : (Int × SL × Unit)) =>
            (need j30.2.1 fun q511 =>
            (bindV (.val (.agg [(.int .i64), .slice])) (h508.cells q511 2) fun (x512 : (Int × SL × Unit)) =>
            (bind2 (f14 N (x510.1, x510.2.1, ()) (x512.1, x512.2.1, ()) h508) fun (x513 : Bool) h514 =>
            (bif x513 then
             (need j30.2.1 fun q515 =>
             (bindV (.val (.agg [(.int .i64), .slice])) (h514.cells q515 2) fun (x516 : (Int × SL × Unit)) =>
             (need j30.2.2.1 fun q517 =>
             (bindV (.val (.agg [(.int .i64), .slice])) (h514.cells q517 2) fun (x518 : (Int × SL × Unit)) =>
             (bind2 (f14 N (x516.1, x516.2.1, ()) (x518.1, x518.2.1, ()) h514) fun (x519 : Bool) h520 =>
             (bif x519 then
              (need j30.1 fun q521 =>
              (bindV (.val (.agg [(.int .i64), .slice])) (h520.cells q521 2) fun (x522 : (Int × SL × Unit)) =>
              (need j30.2.2.1 fun q523 =>
              (bindV (.val (.agg [(.int .i64), .slice])) (h520.cells q523 2) fun (x524 : (Int × SL × Unit)) =>
              (bind2 (f14 N (x522.1, x522.2.1, ()) (x524.1, x524.2.1, ()) h520) fun (x525 : Bool) h526 =>
              let x527 : Bool := !x525
              (bif x527 then
               some (Sum.inr (Sum.inl ((false, ()), h526)))
              else
               some (Sum.inl ((j30.1, j30.2.1, j30.2.2.2.1, ()), h526))))))))
             else
              some (Sum.inl ((j30.1, j30.2.1, j30.2.2.2.1, ()), h520))))))))
            else
             some (Sum.inl ((j30.1, j30.2.1, j30.2.2.2.1, ()), h514))))))))))))))
          else
           (need j30.1 fun q528 =>
           (bindV (.val (.agg [(.int .i64), .slice])) (h502.cells q528 2) fun (x529 : (Int × SL × Unit)) =>
           (need j30.2.1 fun q530 =>
           (bindV (.val (.agg [(.int .i64), .slice])) (h502.cells q530 2) fun (x531 : (Int × SL × Unit)) =>
           (bind2 (f14 N (x529.1, x529.2.1, ()) (x531.1, x531.2.1, ()) h502) fun (x532 : Bool) h533 =>
           (bif x532 then
            (need j30.2.1 fun q534 =>
            (bindV (.val (.agg [(.int .i64), .slice])) (h533.cells q534 2) fun (x535 : (Int × SL × Unit)) =>
            (need j30.2.2.1 fun q536 =>
            (bindV (.val (.agg [(.int .i64), .slice])) (h533.cells q536 2) fun (x537 : (Int × SL × Unit)) =>
            (bind2 (f14 N (x535.1, x535.2.1, ()) (x537.1, x537.2.1, ()) h533) fun (x538 : Bool) h539 =>
            (bif x538 then
             (need j30.1 fun q540 =>
             (bindV (.val (.agg [(.int .i64), .slice])) (h539.cells q540 2) fun (x541 : (Int × SL × Unit)) =>
             (need j30.2.2.1 fun q542 =>
             (bindV (.val (.agg [(.int .i64), .slice])) (h539.cells q542 2) fun (x543 : (Int × SL × Unit)) =>
             (bind2 (f14 N (x541.1, x541.2.1, ()) (x543.1, x543.2.1, ()) h539) fun (x544 : Bool) h545 =>
             let x546 : Bool := !x544
             (bif x546 then
              some (Sum.inr (Sum.inl ((false, ()), h545)))
             else
              some (Sum.inl ((j30.1, j30.2.1, j30.2.2.2.1, ()), h545))))))))
            else
             some (Sum.inl ((j30.1, j30.2.1, j30.2.2.2.1, ()), h539))))))))
           else
            some (Sum.inl ((j30.1, j30.2.1, j30.2.2.2.1, ()), h533))))))))))))))))))))))))))))))))))))))))))))
    else
     (need j30.1 fun q547 =>
     (bindV (.val (.agg [(.int .i64), .slice])) (h37.cells q547 2) fun (x548 : (Int × SL × Unit)) =>
     (need j30.1 fun q549 =>
     (bindV (.val (.agg [(.int .i64), .slice])) (h37.cells q549 2) fun (x550 : (Int × SL × Unit)) =>
     (bind2 (f9 N (x548.1, x548.2.1, ()) (x550.1, x550.2.1, ()) h37) fun (x551 : Bool) h552 =>
     let x553 : Bool := !x551
     (bif x553 then
      some (Sum.inr (Sum.inl ((false, ()), h552)))
     else
      (need j30.1 fun q554 =>
      (bindV (.val (.agg [(.int .i64), .slice])) (h552.cells q554 2) fun (x555 : (Int × SL × Unit)) =>
      (need j30.2.1 fun q556 =>
      (bindV (.val (.agg [(.int .i64), .slice])) (h552.cells q556 2) fun (x557 : (Int × SL × Unit)) =>
      (bind2 (f11 N (x555.1, x555.2.1, ()) (x557.1, x557.2.1, ()) h552) fun (x558 : Bool) h559 =>
      (bif x558 then
       (need j30.1 fun q560 =>
       (bindV (.val (.agg [(.int .i64), .slice])) (h559.cells q560 2) fun (x561 : (Int × SL × Unit)) =>
       (need j30.2.1 fun q562 =>
       (bindV (.val (.agg [(.int .i64), .slice])) (h559.cells q562 2) fun (x563 : (Int × SL × Unit)) =>
       (bind2 (f9 N (x561.1, x561.2.1, ()) (x563.1, x563.2.1, ()) h559) fun (x564 : Bool) h565 =>
       let x566 : Bool := !x564
       (bif x566 then
        some (Sum.inr (Sum.inl ((false, ()), h565)))
       else
        (need j30.1 fun q567 =>
        (bindV (.val (.agg [(.int .i64), .slice])) (h565.cells q567 2) fun (x568 : (Int × SL × Unit)) =>
        (need j30.2.1 fun q569 =>
        (bindV (.val (.agg [(.int .i64), .slice])) (h565.cells q569 2) fun (x570 : (Int × SL × Unit)) =>
        (bind2 (f14 N (x568.1, x568.2.1, ()) (x570.1, x570.2.1, ()) h565) fun (x571 : Bool) h572 =>
        (bif x571 then
         let x573 : Bool := (bif true then j30.2.2.2.1 else !j30.2.2.2.1)
         (bif x573 then
          some (Sum.inr (Sum.inl ((false, ()), h572)))
         else
          (need j30.1 fun q574 =>
          (bindV (.val (.agg [(.int .i64), .slice])) (h572.cells q574 2) fun (x575 : (Int × SL × Unit)) =>
          (need j30.2.1 fun q576 =>
          (bindV (.val (.agg [(.int .i64), .slice])) (h572.cells q576 2) fun (x577 : (Int × SL × Unit)) =>
          (bind2 (f14 N (x575.1, x575.2.1, ()) (x577.1, x577.2.1, ()) h572) fun (x578 : Bool) h579 =>
          (bif x578 then
           (need j30.2.1 fun q580 =>
           (bindV (.val (.agg [(.int .i64), .slice])) (h579.cells q580 2) fun (x581 : (Int × SL × Unit)) =>
           (need j30.1 fun q582 =>
           (bindV (.val (.agg [(.int .i64), .slice])) (h579.cells q582 2) fun (x583 : (Int × SL × Unit)) =>
           (bind2 (f14 N (x581.1, x581.2.1, ()) (x583.1, x583.2.1, ()) h579) fun (x584 : Bool) h585 =>
           (bif x584 then
            some (Sum.inr (Sum.inl ((false, ()), h585)))
           else
            (need j30.1 fun q586 =>
            (bindV (.val (.agg [(.int .i64), .slice])) (h585.cells q586 2) fun (x587 : (Int × SL × Unit)) =>
            (need j30.2.1 fun q588 =>
            (bindV (.val (.agg [(.int .i64), .slice])) (h585.cells q588 2) fun (x589 : (Int × SL × Unit)) =>
            (bind2 (f14 N (x587.1, x587.2.1, ()) (x589.1, x589.2.1, ()) h585) fun (x590 : Bool) h591 =>
            (bif x590 then
             (need j30.2.1 fun q592 =>
             (bindV (.val (.agg [(.int .i64), .slice])) (h591.cells q592 2) fun (x593 : (Int × SL × Unit)) =>
             (need j30.2.2.1 fun q594 =>
             (bindV (.val (.agg [(.int .i64), .slice])) (h591.cells q594 2) fun (x595 : (Int × SL × Unit)) =>
             (bind2 (f14 N (x593.1, x593.2.1, ()) (x595.1, x595.2.1, ()) h591) fun (x596 : Bool) h597 =>
             (bif x596 then
              (need j30.1 fun q598 =>
              (bindV (.val (.agg [(.int .i64), .slice])) (h597.cells q598 2) fun (x599 : (Int × SL × Unit)) =>
              (need j30.2.2.1 fun q600 =>
              (bindV (.val (.agg [(.int .i64), .slice])) (h597.cells q600 2) fun (x601 : (Int × SL × Unit)) =>
              (bind2 (f14 N (x599.1, x599.2.1, ()) (x601.1, x601.2.1, ()) h597) fun (x602 : Bool) h603 =>
              let x604 : Bool := !x602
              (bif x604 then
               some (Sum.inr (Sum.inl ((false, ()), h603)))
              else
               some (Sum.inl ((j30.1, j30.2.1, j30.2.2.2.1, ()), h603))))))))
             else
              some (Sum.inl ((j30.1, j30.2.1, j30.2.2.2.1, ()), h597))))))))
            else
             some (Sum.inl ((j30.1, j30.2.1, j30.2.2.2.1, ()), h591))))))))))))))
          else
           (need j30.1 fun q605 =>
           (bindV (.val (.agg [(.int .i64), .slice])) (h579.cells q605 2) fun (x606 : (Int × SL × Unit)) =>
           (need j30.2.1 fun q607 =>
           (bindV (.val (.agg [(.int .i64), .slice])) (h579.cells q607 2) fun (x608 : (Int × SL × Unit)) =>
           (bind2 (f14 N (x606.1, x606.2.1, ()) (x608.1, x608.2.1, ()) h579) fun (x609 : Bool) h610 =>
           (bif x609 then
            (need j30.2.1 fun q611 =>
            (bindV (.val (.agg [(.int .i64), .slice])) (h610.cells q611 2) fun (x612 : (Int × SL × Unit)) =>
            (need j30.2.2.1 fun q613 =>
            (bindV (.val (.agg [(.int .i64), .slice])) (h610.cells q613 2) fun (x614 : (Int × SL × Unit)) =>
            (bind2 (f14 N (x612.1, x612.2.1, ()) (x614.1, x614.2.1, ()) h610) fun (x615 : Bool) h616 =>
            (bif x615 then
             (need j30.1 fun q617 =>
             (bindV (.val (.agg [(.int .i64), .slice])) (h616.cells q617 2) fun (x618 : (Int × SL × Unit)) =>
             (need j30.2.2.1 fun q619 =>
             (bindV (.val (.agg [(.int .i64), .slice])) (h616.cells q619 2) fun (x620 : (Int × SL × Unit)) =>
             (bind2 (f14 N (x618.1, x618.2.1, ()) (x620.1, x620.2.1, ()) h616) fun (x621 : Bool) h622 =>
             let x623 : Bool := !x621
             (bif x623 then
              some (Sum.inr (Sum.inl ((false, ()), h622)))
             else
              some (Sum.inl ((j30.1, j30.2.1, j30.2.2.2.1, ()), h622))))))))
            else
             some (Sum.inl ((j30.1, j30.2.1, j30.2.2.2.1, ()), h616))))))))
           else
            some (Sum.inl ((j30.1, j30.2.1, j30.2.2.2.1, ()), h610)))))))))))))))
        else
         (need j30.2.1 fun q624 =>
         (bindV (.val (.agg [(.int .i64), .slice])) (h572.cells q624 2) fun (x625 : (Int × SL × Unit)) =>
         (need j30.1 fun q626 =>
         (bindV (.val (.agg [(.int .i64), .slice])) (h572.cells q626 2) fun (x627 : (Int × SL × Unit)) =>
         (bind2 (f14 N (x625.1, x625.2.1, ()) (x627.1, x627.2.1, ()) h572) fun (x628 : Bool) h629 =>
         let x630 : Bool := (bif x628 then j30.2.2.2.1 else !j30.2.2.2.1)
         (bif x630 then
          some (Sum.inr (Sum.inl ((false, ()), h629)))
         else
          (need j30.1 fun q631 =>
          (bindV (.val (.agg [(.int .i64), .slice])) (h629.cells q631 2) fun (x632 : (Int × SL × Unit)) =>
          (need j30.2.1 fun q633 =>
          (bindV (.val (.agg [(.int .i64), .slice])) (h629.cells q633 2) fun (x634 : (Int × SL × Unit)) =>
          (bind2 (f14 N (x632.1, x632.2.1, ()) (x634.1, x634.2.1, ()) h629) fun (x635 : Bool) h636 =>
          (bif x635 then
           (need j30.2.1 fun q637 =>
           (bindV (.val (.agg [(.int .i64), .slice])) (h636.cells q637 2) fun (x638 : (Int × SL × Unit)) =>
           (need j30.1 fun q639 =>
           (bindV (.val (.agg [(.int .i64), .slice])) (h636.cells q639 2) fun (x640 : (Int × SL × Unit)) =>
           (bind2 (f14 N (x638.1, x638.2.1, ()) (x640.1, x640.2.1, ()) h636) fun (x641 : Bool) h642 =>
           (bif x641 then
            some (Sum.inr (Sum.inl ((false, ()), h642)))
           else
            (need j30.1 fun q643 =>
            (bindV (.val (.agg [(.int .i64), .slice])) (h642.cells q643 2) fun (x644 : (Int × SL × Unit)) =>
            (need j30.2.1 fun q645 =>
            (bindV (.val (.agg [(.int .i64), .slice])) (h642.cells q645 2) fun (x646 : (Int × SL × Unit)) =>
            (bind2 (f14 N (x644.1, x644.2.1, ()) (x646.1, x646.2.1, ()) h642) fun (x647 : Bool) h648 =>
            (bif x647 then
             (need j30.2.1 fun q649 =>
             (bindV (.val (.agg [(.int .i64), .slice])) (h648.cells q649 2) fun (x650 : (Int × SL × Unit)) =>
             (need j30.2.2.1 fun q651 =>
             (bindV (.val (.agg [(.int .i64), .slice])) (h648.cells q651 2) fun (x652 : (Int × SL × Unit)) =>
             (bind2 (f14 N (x650.1, x650.2.1, ()) (x652.1, x652.2.1, ()) h648) fun (x653 : Bool) h654 =>
             (bif x653 then
              (need j30.1 fun q655 =>
              (bindV (.val (.agg [(.int .i64), .slice])) (h654.cells q655 2) fun (x656 : (Int × SL × Unit)) =>
              (need j30.2.2.1 fun q657 =>
              (bindV (.val (.agg [(.int .i64), .slice])) (h654.cells q657 2) fun (x658 : (Int × SL × Unit)) =>
              (bind2 (f14 N (x656.1, x656.2.1, ()) (x658.1, x658.2.1, ()) h654) fun (x659 : Bool) h660 =>
              let x661 : Bool := !x659
              (bif x661 then
               some (Sum.inr (Sum.inl ((false, ()), h660)))
              else
               some (Sum.inl ((j30.1, j30.2.1, j30.2.2.2.1, ()), h660))))))))
             else
              some (Sum.inl ((j30.1, j30.2.1, j30.2.2.2.1, ()), h654))))))))
            else
             some (Sum.inl ((j30.1, j30.2.1, j30.2.2.2.1, ()), h648))))))))))))))
          else
           (need j30.1 fun q662 =>
           (bindV (.val (.agg [(.int .i64), .slice])) (h636.cells q662 2) fun (x663 : (Int × SL × Unit)) =>
           (need j30.2.1 fun q664 =>
           (bindV (.val (.agg [(.int .i64), .slice])) (h636.cells q664 2) fun (x665 : (Int × SL × Unit)) =>
           (bind2 (f14 N (x663.1, x663.2.1, ()) (x665.1, x665.2.1, ()) h636) fun (x666 : Bool) h667 =>
           (bif x666 then
            (need j30.2.1 fun q668 =>
            (bindV (.val (.agg [(.int .i64), .slice])) (h667.cells q668 2) fun (x669 : (Int × SL × Unit)) =>
            (need j30.2.2.1 fun q670 =>
            (bindV (.val (.agg [(.int .i64), .slice])) (h667.cells q670 2) fun (x671 : (Int × SL × Unit)) =>
            (bind2 (f14 N (x669.1, x669.2.1, ()) (x671.1, x671.2.1, ()) h667) fun (x672 : Bool) h673 =>
            (bif x672 then
             (need j30.1 fun q674 =>
             (bindV (.val (.agg [(.int .i64), .slice])) (h673.cells q674 2) fun (x675 : (Int × SL × Unit)) =>
             (need j30.2.2.1 fun q676 =>
             (bindV (.val (.agg [(.int .i64), .slice])) (h673.cells q676 2) fun (x677 : (Int × SL × Unit)) =>
             (bind2 (f14 N (x675.1, x675.2.1, ()) (x677.1, x677.2.1, ()) h673) fun (x678 : Bool) h679 =>
             let x680 : Bool := !x678
             (bif x680 then
              some (Sum.inr (Sum.inl ((false, ()), h679)))
             else
              some (Sum.inl ((j30.1, j30.2.1, j30.2.2.2.1, ()), h679))))))))
            else
             some (Sum.inl ((j30.1, j30.2.1, j30.2.2.2.1, ()), h673))))))))
           else
            some (Sum.inl ((j30.1, j30.2.1, j30.2.2.2.1, ()), h667))))))))))))))))))))))))))))))))
      else
       (need j30.1 fun q681 =>
       (bindV (.val (.agg [(.int .i64), .slice])) (h559.cells q681 2) fun (x682 : (Int × SL × Unit)) =>
       (need j30.2.1 fun q683 =>
       (bindV (.val (.agg [(.int .i64), .slice])) (h559.cells q683 2) fun (x684 : (Int × SL × Unit)) =>
       (bind2 (f14 N (x682.1, x682.2.1, ()) (x684.1, x684.2.1, ()) h559) fun (x685 : Bool) h686 =>
       (bif x685 then
        let x687 : Bool := (bif true then j30.2.2.2.1 else !j30.2.2.2.1)
        (bif x687 then
         some (Sum.inr (Sum.inl ((false, ()), h686)))
        else
         (need j30.1 fun q688 =>
         (bindV (.val (.agg [(.int .i64), .slice])) (h686.cells q688 2) fun (x689 : (Int × SL × Unit)) =>
         (need j30.2.1 fun q690 =>
         (bindV (.val (.agg [(.int .i64), .slice])) (h686.cells q690 2) fun (x691 : (Int × SL × Unit)) =>
         (bind2 (f14 N (x689.1, x689.2.1, ()) (x691.1, x691.2.1, ()) h686) fun (x692 : Bool) h693 =>
         (bif x692 then
          (need j30.2.1 fun q694 =>
          (bindV (.val (.agg [(.int .i64), .slice])) (h693.cells q694 2) fun (x695 : (Int × SL × Unit)) =>
          (need j30.1 fun q696 =>
          (bindV (.val (.agg [(.int .i64), .slice])) (h693.cells q696 2) fun (x697 : (Int × SL × Unit)) =>
          (bind2 (f14 N (x695.1, x695.2.1, ()) (x697.1, x697.2.1, ()) h693) fun (x698 : Bool) h699 =>
          (bif x698 then
           some (Sum.inr (Sum.inl ((false, ()), h699)))
          else
           (need j30.1 fun q700 =>
           (bindV (.val (.agg [(.int .i64), .slice])) (h699.cells q700 2) fun (x701 : (Int × SL × Unit)) =>
           (need j30.2.1 fun q702 =>
           (bindV (.val (.agg [(.int .i64), .slice])) (h699.cells q702 2) fun (x703 : (Int × SL × Unit)) =>
           (bind2 (f14 N (x701.1, x701.2.1, ()) (x703.1, x703.2.1, ()) h699) fun (x704 : Bool) h705 =>
           (bif x704 then
            (need j30.2.1 fun q706 =>
            (bindV (.val (.agg [(.int .i64), .slice])) (h705.cells q706 2) fun (x707 : (Int × SL × Unit)) =>
            (need j30.2.2.1 fun q708 =>
            (bindV (.val (.agg [(.int .i64), .slice])) (h705.cells q708 2) fun (x709 : (Int × SL × Unit)) =>
            (bind2 (f14 N (x707.1, x707.2.1, ()) (x709.1, x709.2.1, ()) h705) fun (x710 : Bool) h711 =>
            (bif x710 then
             (need j30.1 fun q712 =>
             (bindV (.val (.agg [(.int .i64), .slice])) (h711.cells q712 2) fun (x713 : (Int × SL × Unit)) =>
             (need j30.2.2.1 fun q714 =>
             (bindV (.val (.agg [(.int .i64), .slice])) (h711.cells q714 2) fun (x715 : (Int × SL × Unit)) =>
             (bind2 (f14 N (x713.1, x713.2.1, ()) (x715.1, x715.2.1, ()) h711) fun (x716 : Bool) h717 =>
             let x718 : Bool := !x716
             (bif x718 then
              some (Sum.inr (Sum.inl ((false, ()), h717)))
             else
              some (Sum.inl ((j30.1, j30.2.1, j30.2.2.2.1, ()), h717))))))))
            else
             some (Sum.inl ((j30.1, j30.2.1, j30.2.2.2.1, ()), h711))))))))
           else
            some (Sum.inl ((j30.1, j30.2.1, j30.2.2.2.1, ()), h705))))))))))))))
         else
          (need j30.1 fun q719 =>
          (bindV (.val (.agg [(.int .i64), .slice])) (h693.cells q719 2) fun (x720 : (Int × SL × Unit)) =>
          (need j30.2.1 fun q721 =>
          (bindV (.val (.agg [(.int .i64), .slice])) (h693.cells q721 2) fun (x722 : (Int × SL × Unit)) =>
          (bind2 (f14 N (x720.1, x720.2.1, ()) (x722.1, x722.2.1, ()) h693) fun (x723 : Bool) h724 =>
          (bif x723 then
           (need j30.2.1 fun q725 =>
           (bindV (.val (.agg [(.int .i64), .slice])) (h724.cells q725 2) fun (x726 : (Int × SL × Unit)) =>
           (need j30.2.2.1 fun q727 =>
           (bindV (.val (.agg [(.int .i64), .slice])) (h724.cells q727 2) fun (x728 : (Int × SL × Unit)) =>
           (bind2 (f14 N (x726.1, x726.2.1, ()) (x728.1, x728.2.1, ()) h724) fun (x729 : Bool) h730 =>
           (bif x729 then
            (need j30.1 fun q731 =>
            (bindV (.val (.agg [(.int .i64), .slice])) (h730.cells q731 2) fun (x732 : (Int × SL × Unit)) =>
            (need j30.2.2.1 fun q733 =>
            (bindV (.val (.agg [(.int .i64), .slice])) (h730.cells q733 2) fun (x734 : (Int × SL × Unit)) =>
            (bind2 (f14 N (x732.1, x732.2.1, ()) (x734.1, x734.2.1, ()) h730) fun (x735 : Bool) h736 =>
            let x737 : Bool := !x735
            (bif x737 then
             some (Sum.inr (Sum.inl ((false, ()), h736)))
            else
             some (Sum.inl ((j30.1, j30.2.1, j30.2.2.2.1, ()), h736))))))))
           else
            some (Sum.inl ((j30.1, j30.2.1, j30.2.2.2.1, ()), h730))))))))
          else
           some (Sum.inl ((j30.1, j30.2.1, j30.2.2.2.1, ()), h724)))))))))))))))
       else
        (need j30.2.1 fun q738 =>
        (bindV (.val (.agg [(.int .i64), .slice])) (h686.cells q738 2) fun (x739 : (Int × SL × Unit)) =>
        (need j30.1 fun q740 =>
        (bindV (.val (.agg [(.int .i64), .slice])) (h686.cells q740 2) fun (x741 : (Int × SL × Unit)) =>
        (bind2 (f14 N (x739.1, x739.2.1, ()) (x741.1, x741.2.1, ()) h686) fun (x742 : Bool) h743 =>
        let x744 : Bool := (bif x742 then j30.2.2.2.1 else !j30.2.2.2.1)
        (bif x744 then
         some (Sum.inr (Sum.inl ((false, ()), h743)))
        else
         (need j30.1 fun q745 =>
         (bindV (.val (.agg [(.int .i64), .slice])) (h743.cells q745 2) fun (x746 : (Int × SL × Unit)) =>
         (need j30.2.1 fun q747 =>
         (bindV (.val (.agg [(.int .i64), .slice])) (h743.cells q747 2) fun (x748 : (Int × SL × Unit)) =>
         (bind2 (f14 N (x746.1, x746.2.1, ()) (x748.1, x748.2.1, ()) h743) fun (x749 : Bool) h750 =>
         (bif x749 then
          (need j30.2.1 fun q751 =>
          (bindV (.val (.agg [(.int .i64), .slice])) (h750.cells q751 2) fun (x752 : (Int × SL × Unit)) =>
          (need j30.1 fun q753 =>
          (bindV (.val (.agg [(.int .i64), .slice])) (h750.cells q753 2) fun (x754 : (Int × SL × Unit)) =>
          (bind2 (f14 N (x752.1, x752.2.1, ()) (x754.1, x754.2.1, ()) h750) fun (x755 : Bool) h756 =>
          (bif x755 then
           some (Sum.inr (Sum.inl ((false, ()), h756)))
          else
           (need j30.1 fun q757 =>
           (bindV (.val (.agg [(.int .i64), .slice])) (h756.cells q757 2) fun (x758 : (Int × SL × Unit)) =>
           (need j30.2.1 fun q759 =>
           (bindV (.val (.agg [(.int .i64), .slice])) (h756.cells q759 2) fun (x760 : (Int × SL × Unit)) =>
           (bind2 (f14 N (x758.1, x758.2.1, ()) (x760.1, x760.2.1, ()) h756) fun (x761 : Bool) h762 =>
           (bif x761 then
            (need j30.2.1 fun q763 =>
            (bindV (.val (.agg [(.int .i64), .slice])) (h762.cells q763 2) fun (x764 : (Int × SL × Unit)) =>
            (need j30.2.2.1 fun q765 =>
            (bindV (.val (.agg [(.int .i64), .slice])) (h762.cells q765 2) fun (x766 : (Int × SL × Unit)) =>
            (bind2 (f14 N (x764.1, x764.2.1, ()) (x766.1, x766.2.1, ()) h762) fun (x767 : Bool) h768 =>
            (bif x767 then
             (need j30.1 fun q769 =>
             (bindV (.val (.agg [(.int .i64), .slice])) (h768.cells q769 2) fun (x770 : (Int × SL × Unit)) =>
             (need j30.2.2.1 fun q771 =>
             (bindV (.val (.agg [(.int .i64), .slice])) (h768.cells q771 2) fun (x772 : (Int × SL × Unit)) =>
             (bind2 (f14 N (x770.1, x770.2.1, ()) (x772.1, x772.2.1, ()) h768) fun (x773 : Bool) h774 =>
             let x775 : Bool := !x773
             (bif x775 then
              some (Sum.inr (Sum.inl ((false, ()), h774)))
             else
              some (Sum.inl ((j30.1, j30.2.1, j30.2.2.2.1, ()), h774))))))))
            else
             some (Sum.inl ((j30.1, j30.2.1, j30.2.2.2.1, ()), h768))))))))
           else
            some (Sum.inl ((j30.1, j30.2.1, j30.2.2.2.1, ()), h762))))))))))))))
         else
          (need j30.1 fun q776 =>
          (bindV (.val (.agg [(.int .i64), .slice])) (h750.cells q776 2) fun (x777 : (Int × SL × Unit)) =>
          (need j30.2.1 fun q778 =>
          (bindV (.val (.agg [(.int .i64), .slice])) (h750.cells q778 2) fun (x779 : (Int × SL × Unit)) =>
          (bind2 (f14 N (x777.1, x777.2.1, ()) (x779.1, x779.2.1, ()) h750) fun (x780 : Bool) h781 =>
          (bif x780 then
           (need j30.2.1 fun q782 =>
           (bindV (.val (.agg [(.int .i64), .slice])) (h781.cells q782 2) fun (x783 : (Int × SL × Unit)) =>
           (need j30.2.2.1 fun q784 =>
           (bindV (.val (.agg [(.int .i64), .slice])) (h781.cells q784 2) fun (x785 : (Int × SL × Unit)) =>
           (bind2 (f14 N (x783.1, x783.2.1, ()) (x785.1, x785.2.1, ()) h781) fun (x786 : Bool) h787 =>
           (bif x786 then
            (need j30.1 fun q788 =>
            (bindV (.val (.agg [(.int .i64), .slice])) (h787.cells q788 2) fun (x789 : (Int × SL × Unit)) =>
            (need j30.2.2.1 fun q790 =>
            (bindV (.val (.agg [(.int .i64), .slice])) (h787.cells q790 2) fun (x791 : (Int × SL × Unit)) =>
            (bind2 (f14 N (x789.1, x789.2.1, ()) (x791.1, x791.2.1, ()) h787) fun (x792 : Bool) h793 =>
            let x794 : Bool := !x792
            (bif x794 then
             some (Sum.inr (Sum.inl ((false, ()), h793)))
            else
             some (Sum.inl ((j30.1, j30.2.1, j30.2.2.2.1, ()), h793))))))))
           else
            some (Sum.inl ((j30.1, j30.2.1, j30.2.2.2.1, ()), h787))))))))
          else
           some (Sum.inl ((j30.1, j30.2.1, j30.2.2.2.1, ()), h781))))))))))))))))))))))))))))))))))))))))))))) fun j795 =>
   (jcase j795 (fun (j796 : (Option (Nat × Nat) × Option (Nat × Nat) × Bool × Unit)) h797 =>
    (need j796.1 fun q799 =>
    (bindV (.val (.agg [(.int .i64), .slice])) (h797.cells q799 2) fun (x800 : (Int × SL × Unit)) =>
    (bind2 (f7 N (x800.1, x800.2.1, ()) h797) fun (x801 : (Int × SL × Unit)) h802 =>
    let h803 : Heap := h802.push (.row [(.int .i64 0), (.slice none 0 0 0)] .own)
    (need (h803.store (h802.next, 0) [(.int .i64 x801.1), (.slice x801.2.1.a x801.2.1.len x801.2.1.cap x801.2.1.sz)]) fun h804 =>
    (bind2 (f6 N  h804) fun (x805 : Bool) h806 =>
    (bif x805 then
     (bindV (.val (.agg [(.int .i64), .slice])) (h806.cells (h802.next, 0) 2) fun (x807 : (Int × SL × Unit)) =>
     (need j796.1 fun q808 =>
     (bindV (.val (.agg [(.int .i64), .slice])) (h806.cells q808 2) fun (x809 : (Int × SL × Unit)) =>
     (bind2 (f9 N (x807.1, x807.2.1, ()) (x809.1, x809.2.1, ()) h806) fun (x810 : Bool) h811 =>
     (bif x810 then
      (bindV (.val (.agg [(.int .i64), .slice])) (h811.cells (h802.next, 0) 2) fun (x812 : (Int × SL × Unit)) =>
      (bindV (.val (.agg [(.int .i64), .slice])) (h811.cells (h802.next, 0) 2) fun (x813 : (Int × SL × Unit)) =>
      (bind2 (f7 N (x813.1, x813.2.1, ()) h811) fun (x814 : (Int × SL × Unit)) h815 =>
      (bind2 (f11 N (x812.1, x812.2.1, ()) (x814.1, x814.2.1, ()) h815) fun (x816 : Bool) h817 =>
      (bif x816 then
       (need j796.1 fun q818 =>
       (bindV (.val (.agg [(.int .i64), .slice])) (h817.cells q818 2) fun (x819 : (Int × SL × Unit)) =>
       (need j796.2.1 fun q820 =>
       (bindV (.val (.agg [(.int .i64), .slice])) (h817.cells q820 2) fun (x821 : (Int × SL × Unit)) =>
       (bind2 (f9 N (x819.1, x819.2.1, ()) (x821.1, x821.2.1, ()) h817) fun (x822 : Bool) h823 =>
       let x824 : Bool := !x822
       (bif x824 then
        (need j796.1 fun q825 =>
        (bindV (.val (.agg [(.int .i64), .slice])) (h823.cells q825 2) fun (x826 : (Int × SL × Unit)) =>
        (need j796.2.1 fun q827 =>
        (bindV (.val (.agg [(.int .i64), .slice])) (h823.cells q827 2) fun (x828 : (Int × SL × Unit)) =>
        (bind2 (f9 N (x826.1, x826.2.1, ()) (x828.1, x828.2.1, ()) h823) fun (x829 : Bool) h830 =>
        let x831 : Bool := !x829
        (bif x831 then
         (guardB (bif (needB j796.2.1 fun q => sameO (h823.cells q 2) (.agg [(.int .i64 x828.1), (.slice x828.2.1.a x828.2.1.len x828.2.1.cap x828.2.1.sz)])) then (bif (needB j796.1 fun q => sameO (h823.cells q 2) (.agg [(.int .i64 x826.1), (.slice x826.2.1.a x826.2.1.len x826.2.1.cap x826.2.1.sz)])) then (bif (needB j796.2.1 fun q => sameO (h817.cells q 2) (.agg [(.int .i64 x821.1), (.slice x821.2.1.a x821.2.1.len x821.2.1.cap x821.2.1.sz)])) then (bif (needB j796.1 fun q => sameO (h817.cells q 2) (.agg [(.int .i64 x819.1), (.slice x819.2.1.a x819.2.1.len x819.2.1.cap x819.2.1.sz)])) then (bif (sameO (h811.cells (h802.next, 0) 2) (.agg [(.int .i64 x813.1), (.slice x813.2.1.a x813.2.1.len x813.2.1.cap x813.2.1.sz)])) then (bif (sameO (h815.cells (h802.next, 0) 2) (.agg [(.int .i64 x812.1), (.slice x812.2.1.a x812.2.1.len x812.2.1.cap x812.2.1.sz)])) then (bif (sameO (h811.cells (h802.next, 0) 2) (.agg [(.int .i64 x812.1), (.slice x812.2.1.a x812.2.1.len x812.2.1.cap x812.2.1.sz)])) then (bif (needB j796.1 fun q => sameO (h806.cells q 2) (.agg [(.int .i64 x809.1), (.slice x809.2.1.a x809.2.1.len x809.2.1.cap x809.2.1.sz)])) then (bif (sameO (h806.cells (h802.next, 0) 2) (.agg [(.int .i64 x807.1), (.slice x807.2.1.a x807.2.1.len x807.2.1.cap x807.2.1.sz)])) then true else false) else false) else false) else false) else false) else false) else false) else false) else false) (
         some (true, h830)))
        else
         (need j796.2.1 fun q832 =>
         (bindV (.val (.agg [(.int .i64), .slice])) (h830.cells q832 2) fun (x833 : (Int × SL × Unit)) =>
         (need j796.1 fun q834 =>
         (bindV (.val (.agg [(.int .i64), .slice])) (h830.cells q834 2) fun (x835 : (Int × SL × Unit)) =>
         (bind2 (f14 N (x833.1, x833.2.1, ()) (x835.1, x835.2.1, ()) h830) fun (x836 : Bool) h837 =>
         let x838 : Bool := !x836
         (bif x838 then
          (guardB (bif (needB j796.1 fun q => sameO (h830.cells q 2) (.agg [(.int .i64 x835.1), (.slice x835.2.1.a x835.2.1.len x835.2.1.cap x835.2.1.sz)])) then (bif (needB j796.2.1 fun q => sameO (h830.cells q 2) (.agg [(.int .i64 x833.1), (.slice x833.2.1.a x833.2.1.len x833.2.1.cap x833.2.1.sz)])) then (bif (needB j796.2.1 fun q => sameO (h823.cells q 2) (.agg [(.int .i64 x828.1), (.slice x828.2.1.a x828.2.1.len x828.2.1.cap x828.2.1.sz)])) then (bif (needB j796.1 fun q => sameO (h823.cells q 2) (.agg [(.int .i64 x826.1), (.slice x826.2.1.a x826.2.1.len x826.2.1.cap x826.2.1.sz)])) then (bif (needB j796.2.1 fun q => sameO (h817.cells q 2) (.agg [(.int .i64 x821.1), (.slice x821.2.1.a x821.2.1.len x821.2.1.cap x821.2.1.sz)])) then (bif (needB j796.1 fun q => sameO (h817.cells q 2) (.agg [(.int .i64 x819.1), (.slice x819.2.1.a x819.2.1.len x819.2.1.cap x819.2.1.sz)])) then (bif (sameO (h811.cells (h802.next, 0) 2) (.agg [(.int .i64 x813.1), (.slice x813.2.1.a x813.2.1.len x813.2.1.cap x813.2.1.sz)])) then (bif (sameO (h815.cells (h802.next, 0) 2) (.agg [(.int .i64 x812.1), (.slice x812.2.1.a x812.2.1.len x812.2.1.cap x812.2.1.sz)])) then (bif (sameO (h811.cells (h802.next, 0) 2) (.agg [(.int .i64 x812.1), (.slice x812.2.1.a x812.2.1.len x812.2.1.cap x812.2.1.sz)])) then (bif (needB j796.1 fun q => sameO (h806.cells q 2) (.agg [(.int .i64 x809.1), (.slice x809.2.1.a x809.2.1.len x809.2.1.cap x809.2.1.sz)])) then (bif (sameO (h806.cells (h802.next, 0) 2) (.agg [(.int .i64 x807.1), (.slice x807.2.1.a x807.2.1.len x807.2.1.cap x807.2.1.sz)])) then true else false) else false) else false) else false) else false) else false) else false) else false) else false) else false) else false) (
          some (true, h837)))
         else
          (guardB (bif (needB j796.1 fun q => sameO (h830.cells q 2) (.agg [(.int .i64 x835.1), (.slice x835.2.1.a x835.2.1.len x835.2.1.cap x835.2.1.sz)])) then (bif (needB j796.2.1 fun q => sameO (h830.cells q 2) (.agg [(.int .i64 x833.1), (.slice x833.2.1.a x833.2.1.len x833.2.1.cap x833.2.1.sz)])) then (bif (needB j796.2.1 fun q => sameO (h823.cells q 2) (.agg [(.int .i64 x828.1), (.slice x828.2.1.a x828.2.1.len x828.2.1.cap x828.2.1.sz)])) then (bif (needB j796.1 fun q => sameO (h823.cells q 2) (.agg [(.int .i64 x826.1), (.slice x826.2.1.a x826.2.1.len x826.2.1.cap x826.2.1.sz)])) then (bif (needB j796.2.1 fun q => sameO (h817.cells q 2) (.agg [(.int .i64 x821.1), (.slice x821.2.1.a x821.2.1.len x821.2.1.cap x821.2.1.sz)])) then (bif (needB j796.1 fun q => sameO (h817.cells q 2) (.agg [(.int .i64 x819.1), (.slice x819.2.1.a x819.2.1.len x819.2.1.cap x819.2.1.sz)])) then (bif (sameO (h811.cells (h802.next, 0) 2) (.agg [(.int .i64 x813.1), (.slice x813.2.1.a x813.2.1.len x813.2.1.cap x813.2.1.sz)])) then (bif (sameO (h815.cells (h802.next, 0) 2) (.agg [(.int .i64 x812.1), (.slice x812.2.1.a x812.2.1.len x812.2.1.cap x812.2.1.sz)])) then (bif (sameO (h811.cells (h802.next, 0) 2) (.agg [(.int .i64 x812.1), (.slice x812.2.1.a x812.2.1.len x812.2.1.cap x812.2.1.sz)])) then (bif (needB j796.1 fun q => sameO (h806.cells q 2) (.agg [(.int .i64 x809.1), (.slice x809.2.1.a x809.2.1.len x809.2.1.cap x809.2.1.sz)])) then (bif (sameO (h806.cells (h802.next, 0) 2) (.agg [(.int .i64 x807.1), (.slice x807.2.1.a x807.2.1.len x807.2.1.cap x807.2.1.sz)])) then true else false) else false) else false) else false) else false) else false) else false) else false) else false) else false) else false) (
          some (j796.2.2.1, h837)))))))))))))))
       else
        (bindV (.val (.agg [(.int .i64), .slice])) (h823.cells (h802.next, 0) 2) fun (x839 : (Int × SL × Unit)) =>
        (need j796.2.1 fun q840 =>
        (bindV (.val (.agg [(.int .i64), .slice])) (h823.cells q840 2) fun (x841 : (Int × SL × Unit)) =>
        (bind2 (f7 N (x841.1, x841.2.1, ()) h823) fun (x842 : (Int × SL × Unit)) h843 =>
        (bind2 (f9 N (x839.1, x839.2.1, ()) (x842.1, x842.2.1, ()) h843) fun (x844 : Bool) h845 =>
        (bif x844 then
         (need j796.1 fun q846 =>
         (bindV (.val (.agg [(.int .i64), .slice])) (h845.cells q846 2) fun (x847 : (Int × SL × Unit)) =>
         (need j796.2.1 fun q848 =>
         (bindV (.val (.agg [(.int .i64), .slice])) (h845.cells q848 2) fun (x849 : (Int × SL × Unit)) =>
         (bind2 (f9 N (x847.1, x847.2.1, ()) (x849.1, x849.2.1, ()) h845) fun (x850 : Bool) h851 =>
         let x852 : Bool := !x850
         (bif x852 then
          (guardB (bif (needB j796.2.1 fun q => sameO (h845.cells q 2) (.agg [(.int .i64 x849.1), (.slice x849.2.1.a x849.2.1.len x849.2.1.cap x849.2.1.sz)])) then (bif (needB j796.1 fun q => sameO (h845.cells q 2) (.agg [(.int .i64 x847.1), (.slice x847.2.1.a x847.2.1.len x847.2.1.cap x847.2.1.sz)])) then (bif (needB j796.2.1 fun q => sameO (h823.cells q 2) (.agg [(.int .i64 x841.1), (.slice x841.2.1.a x841.2.1.len x841.2.1.cap x841.2.1.sz)])) then (bif (sameO (h843.cells (h802.next, 0) 2) (.agg [(.int .i64 x839.1), (.slice x839.2.1.a x839.2.1.len x839.2.1.cap x839.2.1.sz)])) then (bif (sameO (h823.cells (h802.next, 0) 2) (.agg [(.int .i64 x839.1), (.slice x839.2.1.a x839.2.1.len x839.2.1.cap x839.2.1.sz)])) then (bif (needB j796.2.1 fun q => sameO (h817.cells q 2) (.agg [(.int .i64 x821.1), (.slice x821.2.1.a x821.2.1.len x821.2.1.cap x821.2.1.sz)])) then (bif (needB j796.1 fun q => sameO (h817.cells q 2) (.agg [(.int .i64 x819.1), (.slice x819.2.1.a x819.2.1.len x819.2.1.cap x819.2.1.sz)])) then (bif (sameO (h811.cells (h802.next, 0) 2) (.agg [(.int .i64 x813.1), (.slice x813.2.1.a x813.2.1.len x813.2.1.cap x813.2.1.sz)])) then (bif (sameO (h815.cells (h802.next, 0) 2) (.agg [(.int .i64 x812.1), (.slice x812.2.1.a x812.2.1.len x812.2.1.cap x812.2.1.sz)])) then (bif (sameO (h811.cells (h802.next, 0) 2) (.agg [(.int .i64 x812.1), (.slice x812.2.1.a x812.2.1.len x812.2.1.cap x812.2.1.sz)])) then (bif (needB j796.1 fun q => sameO (h806.cells q 2) (.agg [(.int .i64 x809.1), (.slice x809.2.1.a x809.2.1.len x809.2.1.cap x809.2.1.sz)])) then (bif (sameO (h806.cells (h802.next, 0) 2) (.agg [(.int .i64 x807.1), (.slice x807.2.1.a x807.2.1.len x807.2.1.cap x807.2.1.sz)])) then true else false) else false) else false) else false) else false) else false) else false) else false) else false) else false) else false) else false) (
          some (true, h851)))
         else
          (need j796.2.1 fun q853 =>
          (bindV (.val (.agg [(.int .i64), .slice])) (h851.cells q853 2) fun (x854 : (Int × SL × Unit)) =>
          (need j796.1 fun q855 =>
          (bindV (.val (.agg [(.int .i64), .slice])) (h851.cells q855 2) fun (x856 : (Int × SL × Unit)) =>
          (bind2 (f14 N (x854.1, x854.2.1, ()) (x856.1, x856.2.1, ()) h851) fun (x857 : Bool) h858 =>
          let x859 : Bool := !x857
          (bif x859 then
           (guardB (bif (needB j796.1 fun q => sameO (h851.cells q 2) (.agg [(.int .i64 x856.1), (.slice x856.2.1.a x856.2.1.len x856.2.1.cap x856.2.1.sz)])) then (bif (needB j796.2.1 fun q => sameO (h851.cells q 2) (.agg [(.int .i64 x854.1), (.slice x854.2.1.a x854.2.1.len x854.2.1.cap x854.2.1.sz)])) then (bif (needB j796.2.1 fun q => sameO (h845.cells q 2) (.agg [(.int .i64 x849.1), (.slice x849.2.1.a x849.2.1.len x849.2.1.cap x849.2.1.sz)])) then (bif (needB j796.1 fun q => sameO (h845.cells q 2) (.agg [(.int .i64 x847.1), (.slice x847.2.1.a x847.2.1.len x847.2.1.cap x847.2.1.sz)])) then (bif (needB j796.2.1 fun q => sameO (h823.cells q 2) (.agg [(.int .i64 x841.1), (.slice x841.2.1.a x841.2.1.len x841.2.1.cap x841.2.1.sz)])) then (bif (sameO (h843.cells (h802.next, 0) 2) (.agg [(.int .i64 x839.1), (.slice x839.2.1.a x839.2.1.len x839.2.1.cap x839.2.1.sz)])) then (bif (sameO (h823.cells (h802.next, 0) 2) (.agg [(.int .i64 x839.1), (.slice x839.2.1.a x839.2.1.len x839.2.1.cap x839.2.1.sz)])) then (bif (needB j796.2.1 fun q => sameO (h817.cells q 2) (.agg [(.int .i64 x821.1), (.slice x821.2.1.a x821.2.1.len x821.2.1.cap x821.2.1.sz)])) then (bif (needB j796.1 fun q => sameO (h817.cells q 2) (.agg [(.int .i64 x819.1), (.slice x819.2.1.a x819.2.1.len x819.2.1.cap x819.2.1.sz)])) then (bif (sameO (h811.cells (h802.next, 0) 2) (.agg [(.int .i64 x813.1), (.slice x813.2.1.a x813.2.1.len x813.2.1.cap x813.2.1.sz)])) then (bif (sameO (h815.cells (h802.next, 0) 2) (.agg [(.int .i64 x812.1), (.slice x812.2.1.a x812.2.1.len x812.2.1.cap x812.2.1.sz)])) then (bif (sameO (h811.cells (h802.next, 0) 2) (.agg [(.int .i64 x812.1), (.slice x812.2.1.a x812.2.1.len x812.2.1.cap x812.2.1.sz)])) then (bif (needB j796.1 fun q => sameO (h806.cells q 2) (.agg [(.int .i64 x809.1), (.slice x809.2.1.a x809.2.1.len x809.2.1.cap x809.2.1.sz)])) then (bif (sameO (h806.cells (h802.next, 0) 2) (.agg [(.int .i64 x807.1), (.slice x807.2.1.a x807.2.1.len x807.2.1.cap x807.2.1.sz)])) then true else false) else false) else false) else false) else false) else false) else false) else false) else false) else false) else false) else false) else false) else false) (
           some (true, h858)))
          else
           (guardB (bif (needB j796.1 fun q => sameO (h851.cells q 2) (.agg [(.int .i64 x856.1), (.slice x856.2.1.a x856.2.1.len x856.2.1.cap x856.2.1.sz)])) then (bif (needB j796.2.1 fun q => sameO (h851.cells q 2) (.agg [(.int .i64 x854.1), (.slice x854.2.1.a x854.2.1.len x854.2.1.cap x854.2.1.sz)])) then (bif (needB j796.2.1 fun q => sameO (h845.cells q 2) (.agg [(.int .i64 x849.1), (.slice x849.2.1.a x849.2.1.len x849.2.1.cap x849.2.1.sz)])) then (bif (needB j796.1 fun q => sameO (h845.cells q 2) (.agg [(.int .i64 x847.1), (.slice x847.2.1.a x847.2.1.len x847.2.1.cap x847.2.1.sz)])) then (bif (needB j796.2.1 fun q => sameO (h823.cells q 2) (.agg [(.int .i64 x841.1), (.slice x841.2.1.a x841.2.1.len x841.2.1.cap x841.2.1.sz)])) then (bif (sameO (h843.cells (h802.next, 0) 2) (.agg [(.int .i64 x839.1), (.slice x839.2.1.a x839.2.1.len x839.2.1.cap x839.2.1.sz)])) then (bif (sameO (h823.cells (h802.next, 0) 2) (.agg [(.int .i64 x839.1), (.slice x839.2.1.a x839.2.1.len x839.2.1.cap x839.2.1.sz)])) then (bif (needB j796.2.1 fun q => sameO (h817.cells q 2) (.agg [(.int .i64 x821.1), (.slice x821.2.1.a x821.2.1.len x821.2.1.cap x821.2.1.sz)])) then (bif (needB j796.1 fun q => sameO (h817.cells q 2) (.agg [(.int .i64 x819.1), (.slice x819.2.1.a x819.2.1.len x819.2.1.cap x819.2.1.sz)])) then (bif (sameO (h811.cells (h802.next, 0) 2) (.agg [(.int .i64 x813.1), (.slice x813.2.1.a x813.2.1.len x813.2.1.cap x813.2.1.sz)])) then (bif (sameO (h815.cells (h802.next, 0) 2) (.agg [(.int .i64 x812.1), (.slice x812.2.1.a x812.2.1.len x812.2.1.cap x812.2.1.sz)])) then (bif (sameO (h811.cells (h802.next, 0) 2) (.agg [(.int .i64 x812.1), (.slice x812.2.1.a x812.2.1.len x812.2.1.cap x812.2.1.sz)])) then (bif (needB j796.1 fun q => sameO (h806.cells q 2) (.agg [(.int .i64 x809.1), (.slice x809.2.1.a x809.2.1.len x809.2.1.cap x809.2.1.sz)])) then (bif (sameO (h806.cells (h802.next, 0) 2) (.agg [(.int .i64 x807.1), (.slice x807.2.1.a x807.2.1.len x807.2.1.cap x807.2.1.sz)])) then true else false) else false) else false) else false) else false) else false) else false) else false) else false) else false) else false) else false) else false) else false) (
           some (j796.2.2.1, h858)))))))))))))))
        else
         (guardB (bif (needB j796.2.1 fun q => sameO (h823.cells q 2) (.agg [(.int .i64 x841.1), (.slice x841.2.1.a x841.2.1.len x841.2.1.cap x841.2.1.sz)])) then (bif (sameO (h843.cells (h802.next, 0) 2) (.agg [(.int .i64 x839.1), (.slice x839.2.1.a x839.2.1.len x839.2.1.cap x839.2.1.sz)])) then (bif (sameO (h823.cells (h802.next, 0) 2) (.agg [(.int .i64 x839.1), (.slice x839.2.1.a x839.2.1.len x839.2.1.cap x839.2.1.sz)])) then (bif (needB j796.2.1 fun q => sameO (h817.cells q 2) (.agg [(.int .i64 x821.1), (.slice x821.2.1.a x821.2.1.len x821.2.1.cap x821.2.1.sz)])) then (bif (needB j796.1 fun q => sameO (h817.cells q 2) (.agg [(.int .i64 x819.1), (.slice x819.2.1.a x819.2.1.len x819.2.1.cap x819.2.1.sz)])) then (bif (sameO (h811.cells (h802.next, 0) 2) (.agg [(.int .i64 x813.1), (.slice x813.2.1.a x813.2.1.len x813.2.1.cap x813.2.1.sz)])) then (bif (sameO (h815.cells (h802.next, 0) 2) (.agg [(.int .i64 x812.1), (.slice x812.2.1.a x812.2.1.len x812.2.1.cap x812.2.1.sz)])) then (bif (sameO (h811.cells (h802.next, 0) 2) (.agg [(.int .i64 x812.1), (.slice x812.2.1.a x812.2.1.len x812.2.1.cap x812.2.1.sz)])) then (bif (needB j796.1 fun q => sameO (h806.cells q 2) (.agg [(.int .i64 x809.1), (.slice x809.2.1.a x809.2.1.len x809.2.1.cap x809.2.1.sz)])) then (bif (sameO (h806.cells (h802.next, 0) 2) (.agg [(.int .i64 x807.1), (.slice x807.2.1.a x807.2.1.len x807.2.1.cap x807.2.1.sz)])) then true else false) else false) else false) else false) else false) else false) else false) else false) else false) else false) (
         some (false, h845)))))))))))))))
      else
       (guardB (bif (sameO (h811.cells (h802.next, 0) 2) (.agg [(.int .i64 x813.1), (.slice x813.2.1.a x813.2.1.len x813.2.1.cap x813.2.1.sz)])) then (bif (sameO (h815.cells (h802.next, 0) 2) (.agg [(.int .i64 x812.1), (.slice x812.2.1.a x812.2.1.len x812.2.1.cap x812.2.1.sz)])) then (bif (sameO (h811.cells (h802.next, 0) 2) (.agg [(.int .i64 x812.1), (.slice x812.2.1.a x812.2.1.len x812.2.1.cap x812.2.1.sz)])) then (bif (needB j796.1 fun q => sameO (h806.cells q 2) (.agg [(.int .i64 x809.1), (.slice x809.2.1.a x809.2.1.len x809.2.1.cap x809.2.1.sz)])) then (bif (sameO (h806.cells (h802.next, 0) 2) (.agg [(.int .i64 x807.1), (.slice x807.2.1.a x807.2.1.len x807.2.1.cap x807.2.1.sz)])) then true else false) else false) else false) else false) else false) (
       some (false, h817))))))))
     else
      (guardB (bif (needB j796.1 fun q => sameO (h806.cells q 2) (.agg [(.int .i64 x809.1), (.slice x809.2.1.a x809.2.1.len x809.2.1.cap x809.2.1.sz)])) then (bif (sameO (h806.cells (h802.next, 0) 2) (.agg [(.int .i64 x807.1), (.slice x807.2.1.a x807.2.1.len x807.2.1.cap x807.2.1.sz)])) then true else false) else false) (
      some (false, h811))))))))
    else
     (guardB true (
     some (false, h806)))))))))) fun j798 =>
   (jcase j798 (fun (j860 : (Bool × Unit)) h861 =>
    some (j860.1, h861)) fun _ =>
   none))))) fun j17 =>
  (jcase j17 (fun (j863 : (Bool × Unit)) h864 =>
   some (j863.1, h864)) fun _ =>
  none)))
noncomputable def ann4 : Ann := (.two .n (.two (.joinO [(.norm, [(3, (.one .ptr)), (4, (.one .ptr)), (5, (.one .ptr))]), (.ret, [(6, (.one .bool))])] (.two (.join [(3, (.one .ptr)), (4, (.one .ptr)), (5, (.one .ptr)), (24, (.one .bool))] .n) .n)) (.two (.join [(3, (.one .ptr)), (4, (.one .ptr)), (5, (.one .ptr)), (7, (.one .bool))] .n) (.two (.joinO [(.norm, [(3, (.one .ptr)), (4, (.one .ptr)), (7, (.one .bool))]), (.ret, [(6, (.one .bool))])] .n) .n))))
theorem f4_ok (N : Nat) : FnOK Tryd.prog 4 [(.agg [(.int .i64), .slice]), (.agg [(.int .i64), .slice]), (.agg [(.int .i64), .slice])] (.val (.one .bool)) (fun x h => f4 N x.1 x.2.1 x.2.2.1 h) :=
  runK_ok envOK hmix (addCall_ok (f14_ok N) (addCall_ok (f11_ok N) (addCall_ok (f9_ok N) (addCall_ok (f7_ok N) (addCall_ok (f6_ok N) noCalls_ok))))) (N := N) (x := ann4) (fn := Tryd.f4) (c := Tryd.f4.body.getD .skip) (by kernel_rfl) (by kernel_rfl) (by kernel_rfl) (by kernel_rfl) (fun _ _ => by kernel_rfl)
end Go.Proofs.YtjeaammlambkeaaDoor.Mi

open Go Go.Proofs.YtjeaammlambkeaaDoor.Ai Go.Proofs
namespace Go.Proofs.YtjeaammlambkeaaDoor.Mi
variable {h h' : Heap} {s t : SL} {l m : List (List UInt8)} {N : Nat} {p q : Int × SL × Unit}
/-- a slice of texts -/
structure Stp (h : Heap) (s : SL) (l : List (List UInt8)) : Prop where
  one : One h s (l.map AV.str)
  cap : s.len ≤ s.cap
  nil : s.a = none → s.cap = 0
  sz : s.a = none ∨ s.sz = 1
  small : l.length ≤ 20
theorem Stp.len (x : Stp h s l) : s.len = l.length := by rw [x.one.1, List.length_map]
theorem Stp.keep (x : Stp h s l) (hk : Keep h.next h h') : Stp h' s l := ⟨x.one.keep hk x.one.2.2.under, x.cap, x.nil, x.sz, x.small⟩
theorem Stp.str {β : Type} (x : Stp h s l) {i : Int} (h0 : 0 ≤ i) (h1 : i < l.length) (K : List UInt8 → Option β) :
    (ixK s.a s.len i 1 fun q => bindV (.val (.one .str)) (h.cell q) K) = K (l.getD i.toNat []) := by
  rw [x.one.ixz h0 (by simpa using h1), x.one.cell (by simp; omega)]
  simp only [List.getElem_map, bindV_some, cast_str, List.getD]
  rw [List.getElem?_eq_getElem (by omega)]; rfl
def SL.hi (s : SL) (n : Nat) : SL := ⟨s.a, n, s.cap, s.sz⟩
def SL.lo (s : SL) (n : Nat) : SL := ⟨s.a.map fun q => (q.1, q.2 + n * s.sz), s.len - n, s.cap - n, s.sz⟩
theorem und22 : E.und 22 = some (.slice 9) := by kernel_rfl
theorem size9 : E.size 9 = some 1 := by kernel_rfl
theorem app22 : App1 E 22 9 := App1.of und22 (by kernel_rfl) (by kernel_rfl)
theorem Stp.sees (x : Stp h s l) : Sees h s (l.map AV.str) := x.one.2.2
theorem Stp.hiOk (x : Stp h s l) {n : Nat} (hn : n ≤ l.length) : sliceA E h 22 (.slice s.a s.len s.cap s.sz) none (some (.int .i64 (n : Int))) = some (.slice (SL.hi s n).a (SL.hi s n).len (SL.hi s n).cap (SL.hi s n).sz) ∧ Stp h (SL.hi s n) (l.take n) := by
  have hl := x.len
  have hc := x.cap
  have hb : Nat.ble n s.cap = true := by simp; omega
  have hnat : natOf (.int .i64 (n : Int)) = some n := rfl
  obtain ⟨h1, h2, h3⟩ := x.sees
  constructor
  · unfold SL.hi
    cases ha : s.a with
    | none => simp only [sliceA, und22, size9, boundA, hnat, hb, cond_true, Nat.sub_zero]
    | some q =>
      obtain ⟨A, off⟩ := q
      have hz : s.sz = 1 := by
        rcases x.sz with h9 | h9
        · rw [ha] at h9; cases h9
        · exact h9
      rw [hz]
      simp only [sliceA, und22, size9, show Nat.beq 1 1 = true from rfl, cond_true, boundA, hnat, hb, Nat.zero_mul, Nat.add_zero, Nat.sub_zero]
  · have hlen : (l.take n).length = n := by rw [List.length_take]; omega
    refine ⟨⟨by rw [List.length_map, hlen]; rfl, ?_, ?_, fun ha => ?_, fun A off ha => ?_⟩, by show n ≤ s.cap; omega, x.nil, x.sz, by have := x.small; omega⟩
    · rcases x.sz with h | h
      · right; have := x.nil h; show n = 0; omega
      · left; exact h
    · rw [List.length_map, hlen]
      show n = n * s.sz
      rcases x.sz with h | h
      · have := x.nil h
        have : n = 0 := by omega
        rw [this, Nat.zero_mul]
      · rw [h, Nat.mul_one]
    · have := x.nil ha; show n = 0; omega
    · obtain ⟨h4, cs, h5, h6⟩ := h3 A off ha
      refine ⟨h4, cs, h5, ?_⟩
      rw [List.length_map] at h6
      rw [List.length_map, hlen, List.map_take, ← h6, List.take_take, Nat.min_eq_left hn]
theorem Stp.loOk (x : Stp h s l) {n : Nat} (hn : n ≤ l.length) : sliceA E h 22 (.slice s.a s.len s.cap s.sz) (some (.int .i64 (n : Int))) none = some (.slice (SL.lo s n).a (SL.lo s n).len (SL.lo s n).cap (SL.lo s n).sz) ∧ Stp h (SL.lo s n) (l.drop n) := by
  have hl := x.len
  have hc := x.cap
  have hb : Nat.ble n s.len = true := by simp; omega
  have hnat : natOf (.int .i64 (n : Int)) = some n := rfl
  obtain ⟨h1, h2, h3⟩ := x.sees
  constructor
  · unfold SL.lo
    cases ha : s.a with
    | none => simp only [sliceA, und22, size9, boundA, hnat, hb, cond_true, Option.map_none]
    | some q =>
      obtain ⟨A, off⟩ := q
      have hz : s.sz = 1 := by
        rcases x.sz with h9 | h9
        · rw [ha] at h9; cases h9
        · exact h9
      rw [hz]
      simp only [sliceA, und22, size9, show Nat.beq 1 1 = true from rfl, cond_true, boundA, hnat, hb, Option.map_some]
  · have hlen : (l.drop n).length = s.len - n := by rw [List.length_drop]; omega
    refine ⟨⟨by rw [List.length_map, hlen]; rfl, ?_, ?_, fun ha => ?_, fun A off ha => ?_⟩, by show s.len - n ≤ s.cap - n; omega, fun ha => ?_, ?_, by have := x.small; rw [List.length_drop]; omega⟩
    · rcases x.sz with h | h
      · right; have := x.nil h; show s.len - n = 0; omega
      · left; exact h
    · rw [List.length_map, hlen]
      show s.len - n = (s.len - n) * s.sz
      rcases x.sz with h | h
      · have := x.nil h
        have : s.len - n = 0 := by omega
        rw [this, Nat.zero_mul]
      · rw [h, Nat.mul_one]
    · have : s.a = none := by simpa [SL.lo] using ha
      have := x.nil this; show s.len - n = 0; omega
    · have ha' : s.a.map (fun q => (q.1, q.2 + n * s.sz)) = some (A, off) := ha
      cases hq : s.a with
      | none => rw [hq] at ha'; simp at ha'
      | some q =>
        obtain ⟨A', off'⟩ := q
        rw [hq] at ha'
        simp only [Option.map_some, Option.some.injEq, Prod.mk.injEq] at ha'
        obtain ⟨rfl, rfl⟩ := ha'
        have hz : s.sz = 1 := by
          rcases x.sz with h9 | h9
          · rw [hq] at h9; cases h9
          · exact h9
        obtain ⟨h4, cs, h5, h6⟩ := h3 A' off' hq
        refine ⟨h4, cs, h5, ?_⟩
        rw [List.length_map] at h6
        rw [List.length_map, hlen, hz, Nat.mul_one, List.map_drop, ← h6, List.drop_take, List.drop_drop, hl]
    · have : s.a = none := by simpa [SL.lo] using ha
      have := x.nil this; show s.cap - n = 0; omega
    · rcases x.sz with h | h
      · left; show s.a.map _ = none; rw [h]; rfl
      · right; exact h
/-! the library's functions -/
theorem equal_loop (x : Stp h s l) (y : Stp h t m) (hlm : l.length = m.length) : ∀ (M i : Nat), i ≤ l.length → l.length - i < M →
    f23_l1 N M s t false (Int.ofNat l.length) (i : Int) h = if l.drop i = m.drop i then some ((Out.exit 0), (false, ()), h) else some (Out.ret, (false, ()), h)
  | 0, i, hi, hM => by omega
  | M + 1, i, hi, hM => by
    have h20 := x.small
    rw [f23_l1_succ, f23_l1_b]
    by_cases hlt : i < l.length
    · have e1 : ltInt (i : Int) (Int.ofNat l.length) = true := by rw [ltInt_dec]; simp only [decide_eq_true_eq]; exact Int.ofNat_lt.2 hlt
      have hg1 : l.drop i = l.getD i [] :: l.drop (i + 1) := by rw [getD_lt _ _ hlt]; exact List.drop_eq_getElem_cons hlt
      have hg2 : m.drop i = m.getD i [] :: m.drop (i + 1) := by rw [getD_lt _ _ (by omega)]; exact List.drop_eq_getElem_cons (by omega)
      simp only [e1, cond_true]
      rw [x.str (by omega) (by omega), y.str (by omega) (by omega)]
      simp only [Int.toNat_natCast]
      rw [eqBytes_dec]
      by_cases he : l.getD i [] = m.getD i []
      · have hd : decide (l.getD i [] = m.getD i []) = true := by simpa using he
        rw [hd]
        simp only [Bool.not_true, cond_false]
        rw [wrapA_small (by omega) (by omega)]
        have := equal_loop x y hlm M (i + 1) (by omega) (by omega)
        rw [show ((i : Int) + 1) = ((i + 1 : Nat) : Int) by omega, this, hg1, hg2, he]
        simp only [List.cons.injEq, true_and]
      · have hd : decide (l.getD i [] = m.getD i []) = false := by simpa using he
        rw [hd]
        simp only [Bool.not_false, cond_true]
        rw [hg1, hg2, if_neg (by simp only [List.cons.injEq, he, false_and, not_false_eq_true])]
    · have e1 : ltInt (i : Int) (Int.ofNat l.length) = false := by rw [ltInt_dec]; simp only [decide_eq_false_iff_not]; intro q; exact hlt (Int.ofNat_lt.1 q)
      have : i = l.length := by omega
      simp only [e1, cond_false]
      rw [List.drop_eq_nil_of_le (by omega), List.drop_eq_nil_of_le (by omega), if_pos rfl]
theorem equal_spec (hN : 30 ≤ N) (x : Stp h s l) (y : Stp h t m) : f23 N s t h = some (decide (l = m), h) := by
  have h20 := x.small
  unfold f23
  rw [x.len, y.len]
  by_cases hlm : l.length = m.length
  · have e1 : eqInt (Int.ofNat l.length) (Int.ofNat m.length) = true := by rw [eqInt_dec]; simp only [decide_eq_true_eq]; rw [hlm]
    simp only [e1, Bool.not_true, cond_false]
    have := equal_loop (N := N) x y hlm N 0 (by omega) (by omega)
    rw [show (0 : Int) = ((0 : Nat) : Int) from rfl, this, List.drop_zero, List.drop_zero]
    by_cases he : l = m
    · rw [if_pos he]
      simp only [bind3_some, show eqOut (.exit 0) (.exit 0) = true from rfl, cond_true, he, decide_true]
    · rw [if_neg he]
      simp only [bind3_some, show eqOut .ret (.exit 0) = false from rfl, cond_false, he, decide_false]
  · have e1 : eqInt (Int.ofNat l.length) (Int.ofNat m.length) = false := by rw [eqInt_dec]; simp only [decide_eq_false_iff_not]; intro q; exact hlm (Int.ofNat.inj q)
    have he : l ≠ m := fun q => hlm (by rw [q])
    simp only [e1, Bool.not_false, cond_true, he, decide_false]
theorem index_loop (x : Stp h s l) (v : List UInt8) : ∀ (M i : Nat), i ≤ posF v l → l.length - i < M →
    f22_l1 N M s v 0 (Int.ofNat l.length) (i : Int) h = if posF v l < l.length then some (Out.ret, ((posF v l : Int), ()), h) else some ((Out.exit 0), (0, ()), h)
  | 0, i, hi, hM => by omega
  | M + 1, i, hi, hM => by
    have h20 := x.small
    have hle := posF_le v l
    rw [f22_l1_succ, f22_l1_b]
    by_cases hlt : i < l.length
    · have e1 : ltInt (i : Int) (Int.ofNat l.length) = true := by rw [ltInt_dec]; simp only [decide_eq_true_eq]; exact Int.ofNat_lt.2 hlt
      simp only [e1, cond_true]
      rw [x.str (by omega) (by omega)]
      simp only [Int.toNat_natCast]
      rw [getD_lt _ _ hlt]
      by_cases hp : i < posF v l
      · rw [posF_lt v l i hlt hp]
        simp only [cond_false]
        rw [wrapA_small (by omega) (by omega)]
        exact index_loop x v M (i + 1) hp (by omega)
      · have : i = posF v l := by omega
        subst this
        rw [posF_at v l hlt, if_pos hlt]
        simp only [cond_true]
    · have e1 : ltInt (i : Int) (Int.ofNat l.length) = false := by rw [ltInt_dec]; simp only [decide_eq_false_iff_not]; intro q; exact hlt (Int.ofNat_lt.1 q)
      simp only [e1, cond_false]
      rw [if_neg (by omega)]
theorem index_spec (hN : 30 ≤ N) (x : Stp h s l) (v : List UInt8) : f22 N s v h = some ((if posF v l < l.length then (posF v l : Int) else -1), h) := by
  have h20 := x.small
  unfold f22
  rw [x.len]
  have : f22_l1 N N s v 0 (Int.ofNat l.length) 0 h = _ := index_loop (N := N) x v N 0 (by omega) (by omega)
  rw [this]
  by_cases hp : posF v l < l.length
  · rw [if_pos hp, if_pos hp]; rfl
  · rw [if_neg hp, if_neg hp]; rfl
theorem contains_spec (hN : 30 ≤ N) (x : Stp h s l) (v : List UInt8) : f24 N s v h = some (decide (v ∈ l), h) := by
  unfold f24
  rw [index_spec hN x v]
  simp only [bind2_some]
  rw [leInt_dec]
  by_cases hp : posF v l < l.length
  · have := (posF_mem v l).2 hp
    rw [if_pos hp]
    simp only [this, decide_true, show (0 : Int) ≤ (posF v l : Int) by omega]
  · have : ¬ v ∈ l := fun q => hp ((posF_mem v l).1 q)
    rw [if_neg hp]
    simp only [this, decide_false, show ¬ (0 : Int) ≤ -1 by omega]
theorem cmp_spec (a b : List UInt8) : f46 N a b h = some (cmp1 a b, h) := by
  have e : ∀ x : List UInt8, f61 N x h = some (false, h) := fun x => by unfold f61; simp only [eqBytes_refl, Bool.not_true]
  unfold f46 cmp1
  simp only [e, bind2_some, cond_false]
  show (bindV _ (some (.bool (bytesLt a b))) _) = _
  simp only [bindV_some, cast_bool]
  cases bytesLt a b with
  | true => rfl
  | false =>
    simp only [cond_false]
    show (bindV _ (some (.bool (bytesLt b a))) _) = _
    simp only [bindV_some, cast_bool]
    cases bytesLt b a <;> rfl
theorem compare_loop (x : Stp h s l) (y : Stp h t m) : ∀ (M i : Nat), i ≤ l.length → i ≤ m.length → l.length - i < M →
    ∃ o j, f26_l1 N M s t 0 s (Int.ofNat l.length) (i : Int) h = some (o, j, h) ∧ ((o = Out.ret ∧ j.2.2.1 = cmpS (l.drop i) (m.drop i)) ∨ (o = Out.exit 0 ∧ j.1 = s ∧ j.2.1 = t ∧ cmpS (l.drop i) (m.drop i) = if l.length < m.length then -1 else 0))
  | 0, i, hi, hj, hM => by omega
  | M + 1, i, hi, hj, hM => by
    have h20 := x.small
    rw [f26_l1_succ, f26_l1_b]
    by_cases hlt : i < l.length
    · have e1 : ltInt (i : Int) (Int.ofNat l.length) = true := by rw [ltInt_dec]; simp only [decide_eq_true_eq]; exact Int.ofNat_lt.2 hlt
      have hg1 : l.drop i = l.getD i [] :: l.drop (i + 1) := by rw [getD_lt _ _ hlt]; exact List.drop_eq_getElem_cons hlt
      simp only [e1, cond_true]
      rw [x.str (by omega) (by omega), y.len]
      simp only [Int.toNat_natCast]
      by_cases hm : i < m.length
      · have e2 : leInt (Int.ofNat m.length) (i : Int) = false := by rw [leInt_dec]; simp only [decide_eq_false_iff_not]; intro q; have := Int.ofNat_le.1 q; omega
        have hg2 : m.drop i = m.getD i [] :: m.drop (i + 1) := by rw [getD_lt _ _ (by omega)]; exact List.drop_eq_getElem_cons (by omega)
        simp only [e2, cond_false]
        have hy := fun (K : List UInt8 → Option (Out × (SL × SL × Int × Unit) × Heap)) => y.str (i := (i : Int)) (by omega) (by omega) K
        rw [y.len] at hy
        rw [hy]
        simp only [Int.toNat_natCast, cmp_spec, bind2_some]
        rw [hg1, hg2]
        cases he : eqInt (cmp1 (l.getD i []) (m.getD i [])) 0 with
        | true =>
          simp only [Bool.not_true, cond_false]
          rw [wrapA_small (by omega) (by omega)]
          obtain ⟨o, j, h1, h2⟩ := compare_loop x y M (i + 1) (by omega) (by omega) (by omega)
          refine ⟨o, j, h1, ?_⟩
          rw [cmpS, he, cond_true]
          exact h2
        | false =>
          simp only [Bool.not_false, cond_true]
          refine ⟨_, _, rfl, .inl ⟨rfl, ?_⟩⟩
          rw [cmpS, he, cond_false]
      · have e2 : leInt (Int.ofNat m.length) (i : Int) = true := by rw [leInt_dec]; simp only [decide_eq_true_eq]; exact Int.ofNat_le.2 (by omega)
        simp only [e2, cond_true]
        refine ⟨_, _, rfl, .inl ⟨rfl, ?_⟩⟩
        rw [hg1, show m.drop i = [] from List.drop_eq_nil_of_le (by omega)]; rfl
    · have e1 : ltInt (i : Int) (Int.ofNat l.length) = false := by rw [ltInt_dec]; simp only [decide_eq_false_iff_not]; intro q; exact hlt (Int.ofNat_lt.1 q)
      simp only [e1, cond_false]
      refine ⟨_, _, rfl, .inr ⟨rfl, rfl, rfl, ?_⟩⟩
      rw [List.drop_eq_nil_of_le (by omega)]
      by_cases hm : l.length < m.length
      · rw [if_pos hm, List.drop_eq_getElem_cons (by omega : i < m.length)]; rfl
      · rw [if_neg hm, List.drop_eq_nil_of_le (by omega)]; rfl
theorem compare_spec (hN : 30 ≤ N) (x : Stp h s l) (y : Stp h t m) : f26 N s t h = some (cmpS l m, h) := by
  have h20 := x.small
  unfold f26
  rw [x.len]
  obtain ⟨o, j, h1, h2⟩ := compare_loop (N := N) x y N 0 (by omega) (by omega) (by omega)
  have h1 : f26_l1 N N s t 0 s (Int.ofNat l.length) 0 h = _ := h1
  rw [h1]
  simp only [bind3_some]
  rw [List.drop_zero, List.drop_zero] at h2
  rcases h2 with ⟨rfl, h2⟩ | ⟨rfl, h2, h3, h4⟩
  · simp only [show eqOut .ret (.exit 0) = false from rfl, cond_false, h2]
  · simp only [show eqOut (.exit 0) (.exit 0) = true from rfl, cond_true, h2, h3, x.len, y.len]
    rw [h4, ltInt_dec]
    by_cases hm : l.length < m.length
    · have : decide (Int.ofNat l.length < Int.ofNat m.length) = true := by simp only [decide_eq_true_eq]; exact Int.ofNat_lt.2 hm
      rw [this, if_pos hm]; rfl
    · have : decide (Int.ofNat l.length < Int.ofNat m.length) = false := by simp only [decide_eq_false_iff_not]; intro q; exact hm (Int.ofNat_lt.1 q)
      rw [this, if_neg hm]; rfl
end Go.Proofs.YtjeaammlambkeaaDoor.Mi

open Go Go.Proofs.YtjeaammlambkeaaDoor.Ai Go.Proofs
namespace Go.Proofs.YtjeaammlambkeaaDoor.Mi
variable {h h' : Heap} {N : Nat} {p q : Int × SL × Unit} {a b : PP} {A B : Nat} {v0 v1 : AV}
/-- a path -/
structure Pa (h : Heap) (p : Int × SL × Unit) (a : PP) : Prop where
  i : p.1 = a.1
  s : Stp h p.2.1 a.2
theorem Pa.keep (x : Pa h p a) (hk : Keep h.next h h') : Pa h' p a := ⟨x.i, x.s.keep hk⟩
/-- a block of two cells -/
structure Has (h : Heap) (A : Nat) (v0 v1 : AV) : Prop where
  g : h.g A = some (.row [v0, v1] .own)
  lt : A < h.next
theorem Has.keep (x : Has h A v0 v1) (hk : Keep h.next h h') : Has h' A v0 v1 := ⟨by rw [hk.g A x.lt]; exact x.g, Nat.lt_of_lt_of_le x.lt hk.next⟩
theorem Has.push (x : Has h A v0 v1) (b : Blk) : Has (h.push b) A v0 v1 := x.keep ((Keep.refl h.next h).push (Nat.le_refl _) b)
theorem Has.new (h : Heap) (v0 v1 : AV) : Has (h.push (.row [v0, v1] .own)) h.next v0 v1 := ⟨g_push_eq _ rfl, by simp⟩
theorem Has.c0 (x : Has h A v0 v1) : h.cell ((A, 0).1, (A, 0).2 + 0) = some v0 := by
  rw [Heap.cell_g, x.g]; rfl
theorem Has.c1 (x : Has h A v0 v1) : h.cell ((A, 0).1, (A, 0).2 + 1) = some v1 := by
  rw [Heap.cell_g, x.g]; rfl
theorem Has.cs (x : Has h A v0 v1) : h.cells (A, 0) 2 = some (.agg [v0, v1]) := by
  rw [Heap.cells_g, x.g]; rfl
def HP (h : Heap) (A : Nat) (p : Int × SL × Unit) : Prop := Has h A (.int .i64 p.1) (.slice p.2.1.a p.2.1.len p.2.1.cap p.2.1.sz)
theorem HP.path {β : Type} (x : HP h A p) (K : (Int × SL × Unit) → Option β) : bindV (.val (.agg [(.int .i64), .slice])) (h.cells (A, 0) 2) K = K p := by
  rw [Has.cs x]; rfl
def sv (s : SL) : AV := .slice s.a s.len s.cap s.sz
def k2 (p q : Int × SL × Unit) (h : Heap) : Heap := (h.push (.row [.int .i64 p.1, .slice p.2.1.a p.2.1.len p.2.1.cap p.2.1.sz] .own)).push (.row [.int .i64 q.1, .slice q.2.1.a q.2.1.len q.2.1.cap q.2.1.sz] .own)
theorem k2_keep (p q : Int × SL × Unit) (h : Heap) : Keep h.next h (k2 p q h) :=
  ((Keep.refl h.next h).push (Nat.le_refl _) _).push (Nat.le_refl _) _
theorem k2_p (p q : Int × SL × Unit) (h : Heap) : Has (k2 p q h) h.next (.int .i64 p.1) (.slice p.2.1.a p.2.1.len p.2.1.cap p.2.1.sz) := (Has.new h _ _).push _
theorem k2_q (p q : Int × SL × Unit) (h : Heap) : Has (k2 p q h) (h.next + 1) (.int .i64 q.1) (.slice q.2.1.a q.2.1.len q.2.1.cap q.2.1.sz) := Has.new _ _ _
noncomputable def prB (a b : PP) : Bool := @decide (Pre a b) (Classical.propDecidable _)
noncomputable def shB (a b : PP) : Bool := @decide (Sh a b) (Classical.propDecidable _)
noncomputable def lsB (a b : PP) : Bool := @decide (Ls a b) (Classical.propDecidable _)
theorem prB_t (h : Pre a b) : prB a b = true := by unfold prB; exact @decide_eq_true _ (Classical.propDecidable _) h
theorem prB_f (h : ¬ Pre a b) : prB a b = false := by unfold prB; exact @decide_eq_false _ (Classical.propDecidable _) h
theorem shB_t (h : Sh a b) : shB a b = true := by unfold shB; exact @decide_eq_true _ (Classical.propDecidable _) h
theorem shB_f (h : ¬ Sh a b) : shB a b = false := by unfold shB; exact @decide_eq_false _ (Classical.propDecidable _) h
theorem lsB_t (h : Ls a b) : lsB a b = true := by unfold lsB; exact @decide_eq_true _ (Classical.propDecidable _) h
theorem lsB_f (h : ¬ Ls a b) : lsB a b = false := by unfold lsB; exact @decide_eq_false _ (Classical.propDecidable _) h
theorem prefix_spec (hN : 30 ≤ N) (x : Pa h p a) (y : Pa h q b) : f9 N p q h = some (prB a b, k2 p q h) := by
  have hk := k2_keep p q h
  have P := k2_p p q h
  have Q := k2_q p q h
  have xs := x.s.keep hk
  have ys := y.s.keep hk
  have hlx := x.s.len
  have hly := y.s.len
  have Qc0 : (k2 p q h).cell (((h.push (.row [.int .i64 p.1, .slice p.2.1.a p.2.1.len p.2.1.cap p.2.1.sz] .own)).next, 0).1, ((h.push (.row [.int .i64 p.1, .slice p.2.1.a p.2.1.len p.2.1.cap p.2.1.sz] .own)).next, 0).2 + 0) = _ := Q.c0
  have Qc1 : (k2 p q h).cell (((h.push (.row [.int .i64 p.1, .slice p.2.1.a p.2.1.len p.2.1.cap p.2.1.sz] .own)).next, 0).1, ((h.push (.row [.int .i64 p.1, .slice p.2.1.a p.2.1.len p.2.1.cap p.2.1.sz] .own)).next, 0).2 + 1) = _ := Q.c1
  have hk2 : (h.push (.row [.int .i64 p.1, .slice p.2.1.a p.2.1.len p.2.1.cap p.2.1.sz] .own)).push (.row [.int .i64 q.1, .slice q.2.1.a q.2.1.len q.2.1.cap q.2.1.sz] .own) = k2 p q h := rfl
  unfold f9
  simp only [hk2, P.c0, P.c1, Qc0, Qc1, bindV_some, cast_int, cast_slice]
  rw [eqInt_dec]
  by_cases hi : p.1 = q.1
  · have e1 : decide (p.1 = q.1) = true := by simpa using hi
    rw [e1, leInt_dec]
    simp only [cond_true]
    by_cases hl : p.2.1.len ≤ q.2.1.len
    · have e2 : decide (Int.ofNat p.2.1.len ≤ Int.ofNat q.2.1.len) = true := by simp only [decide_eq_true_eq]; exact Int.ofNat_le.2 hl
      rw [e2]
      simp only [cond_true]
      obtain ⟨h1, h2⟩ := ys.hiOk (n := p.2.1.len) (by omega)
      have h1' : sliceA E (k2 p q h) 22 (.slice q.2.1.a q.2.1.len q.2.1.cap q.2.1.sz) none (some (.int .i64 (Int.ofNat p.2.1.len))) = _ := h1
      rw [h1']
      simp only [bindV_some, cast_slice]
      have h3 := equal_spec hN xs h2
      have h3' : f23 N ⟨p.2.1.a, p.2.1.len, p.2.1.cap, p.2.1.sz⟩ ⟨(SL.hi q.2.1 p.2.1.len).a, (SL.hi q.2.1 p.2.1.len).len, (SL.hi q.2.1 p.2.1.len).cap, (SL.hi q.2.1 p.2.1.len).sz⟩ (k2 p q h) = _ := h3
      rw [h3']
      simp only [bind2_some]
      by_cases hp : a.2 = b.2.take p.2.1.len
      · rw [prB_t ⟨by rw [← x.i, ← y.i]; exact hi, by rw [List.prefix_iff_eq_take, ← hlx]; exact hp⟩]
        simp only [hp, decide_true]
      · rw [prB_f (fun hq => hp (by have := List.prefix_iff_eq_take.1 hq.2; rw [hlx]; exact this))]
        simp only [hp, decide_false]
    · have e2 : decide (Int.ofNat p.2.1.len ≤ Int.ofNat q.2.1.len) = false := by simp only [decide_eq_false_iff_not]; intro hq; exact hl (Int.ofNat_le.1 hq)
      rw [e2, prB_f (fun hq => by have := hq.2.length_le; omega)]
      simp only [cond_false]
  · have e1 : decide (p.1 = q.1) = false := by simpa using hi
    rw [e1, prB_f (fun hq => hi (by rw [x.i, y.i]; exact hq.1))]
    simp only [cond_false]
theorem less_spec (hN : 30 ≤ N) (x : Pa h p a) (y : Pa h q b) : f14 N p q h = some (lsB a b, k2 p q h) := by
  have hk := k2_keep p q h
  have P := k2_p p q h
  have Q := k2_q p q h
  have xs := x.s.keep hk
  have ys := y.s.keep hk
  have Qc0 : (k2 p q h).cell (((h.push (.row [.int .i64 p.1, .slice p.2.1.a p.2.1.len p.2.1.cap p.2.1.sz] .own)).next, 0).1, ((h.push (.row [.int .i64 p.1, .slice p.2.1.a p.2.1.len p.2.1.cap p.2.1.sz] .own)).next, 0).2 + 0) = _ := Q.c0
  have Qc1 : (k2 p q h).cell (((h.push (.row [.int .i64 p.1, .slice p.2.1.a p.2.1.len p.2.1.cap p.2.1.sz] .own)).next, 0).1, ((h.push (.row [.int .i64 p.1, .slice p.2.1.a p.2.1.len p.2.1.cap p.2.1.sz] .own)).next, 0).2 + 1) = _ := Q.c1
  have hk2 : (h.push (.row [.int .i64 p.1, .slice p.2.1.a p.2.1.len p.2.1.cap p.2.1.sz] .own)).push (.row [.int .i64 q.1, .slice q.2.1.a q.2.1.len q.2.1.cap q.2.1.sz] .own) = k2 p q h := rfl
  unfold f14
  simp only [hk2, P.c0, P.c1, Qc0, Qc1, bindV_some, cast_int, cast_slice]
  rw [eqInt_dec]
  have hx := x.i
  have hy := y.i
  by_cases hi : p.1 = q.1
  · have e1 : decide (p.1 = q.1) = true := by simpa using hi
    have h3 := compare_spec hN xs ys
    have h3' : f26 N ⟨p.2.1.a, p.2.1.len, p.2.1.cap, p.2.1.sz⟩ ⟨q.2.1.a, q.2.1.len, q.2.1.cap, q.2.1.sz⟩ (k2 p q h) = _ := h3
    rw [e1, h3']
    simp only [Bool.not_true, cond_false, bind2_some]
    rw [ltInt_dec]
    by_cases hc : cmpS a.2 b.2 < 0
    · rw [lsB_t (.inr ⟨by omega, (cmpS_lt _ _).1 hc⟩)]
      simp only [hc, decide_true]
    · rw [lsB_f (fun hq => by
        rcases hq with hq | ⟨_, hq⟩
        · omega
        · exact hc ((cmpS_lt _ _).2 hq))]
      simp only [hc, decide_false]
  · have e1 : decide (p.1 = q.1) = false := by simpa using hi
    rw [e1]
    simp only [Bool.not_false, cond_true]
    rw [ltInt_dec]
    by_cases hc : p.1 < q.1
    · rw [lsB_t (.inl (by omega))]
      simp only [hc, decide_true]
    · rw [lsB_f (fun hq => by rcases hq with hq | ⟨hq, _⟩ <;> omega)]
      simp only [hc, decide_false]
theorem shallow_spec (hN : 30 ≤ N) (x : Pa h p a) (y : Pa h q b) : f11 N p q h = some (shB a b, k2 p q (k2 p q h)) := by
  have hk := k2_keep p q h
  have P := k2_p p q h
  have Q := k2_q p q h
  have xs := x.keep hk
  have ys := y.keep hk
  have hlx := x.s.len
  have hk' := k2_keep p q (k2 p q h)
  have P' := P.keep hk'
  have Q' := Q.keep hk'
  have ys' := ys.keep hk'
  have Qcs : (k2 p q h).cells ((h.push (.row [.int .i64 p.1, .slice p.2.1.a p.2.1.len p.2.1.cap p.2.1.sz] .own)).next, 0) 2 = _ := Q.cs
  have Qc1 : (k2 p q (k2 p q h)).cell (((h.push (.row [.int .i64 p.1, .slice p.2.1.a p.2.1.len p.2.1.cap p.2.1.sz] .own)).next, 0).1, ((h.push (.row [.int .i64 p.1, .slice p.2.1.a p.2.1.len p.2.1.cap p.2.1.sz] .own)).next, 0).2 + 1) = _ := Q'.c1
  have hk2 : (h.push (.row [.int .i64 p.1, .slice p.2.1.a p.2.1.len p.2.1.cap p.2.1.sz] .own)).push (.row [.int .i64 q.1, .slice q.2.1.a q.2.1.len q.2.1.cap q.2.1.sz] .own) = k2 p q h := rfl
  have h9 : f9 N (p.1, p.2.1, ()) (q.1, q.2.1, ()) (k2 p q h) = some (prB a b, k2 p q (k2 p q h)) := prefix_spec hN xs ys
  have Pp := HP.path (β := Bool × Heap) (p := p) P
  have Qp : ∀ (K : (Int × SL × Unit) → Option (Bool × Heap)), bindV (.val (.agg [(.int .i64), .slice])) ((k2 p q h).cells ((h.push (.row [.int .i64 p.1, .slice p.2.1.a p.2.1.len p.2.1.cap p.2.1.sz] .own)).next, 0) 2) K = K q := HP.path (β := Bool × Heap) (p := q) Q
  unfold f11
  simp only [hk2, Pp, Qp, h9, bind2_some]
  by_cases hp : Pre a b
  · rw [prB_t hp]
    have hle := hp.2.length_le
    obtain ⟨h1, h2⟩ := ys'.s.loOk (n := p.2.1.len) (by omega)
    have h1' : sliceA E (k2 p q (k2 p q h)) 22 (.slice q.2.1.a q.2.1.len q.2.1.cap q.2.1.sz) (some (.int .i64 (Int.ofNat p.2.1.len))) none = _ := h1
    have h3 : f24 N ⟨(SL.lo q.2.1 p.2.1.len).a, (SL.lo q.2.1 p.2.1.len).len, (SL.lo q.2.1 p.2.1.len).cap, (SL.lo q.2.1 p.2.1.len).sz⟩ [42] (k2 p q (k2 p q h)) = _ := contains_spec hN h2 [42]
    simp only [cond_true, P'.c1, Qc1, bindV_some, cast_slice, h1', h3, bind2_some]
    by_cases hm : [42] ∈ b.2.drop p.2.1.len
    · rw [shB_f (fun hq => hq.2 (by rw [← hlx]; exact hm))]
      simp only [hm, decide_true, Bool.not_true]
    · rw [shB_t ⟨hp, by rw [← hlx]; exact hm⟩]
      simp only [hm, decide_false, Bool.not_false]
  · rw [prB_f hp, shB_f (fun hq => hp hq.1)]
    simp only [cond_false]
theorem front_spec (hN : 30 ≤ N) (x : Pa h p a) : ∃ s' h', f7 N p h = some ((p.1, s', ()), h') ∧ Pa h' (p.1, s', ()) (fr a) ∧ Keep h.next h h' := by
  obtain ⟨pi, ps, ⟨⟩⟩ := p
  obtain ⟨pa, pl, pc, pz⟩ := ps
  let h1 := h.push (.row [.int .i64 pi, .slice pa pl pc pz] .own)
  let h2 := h1.push (.row [.int .i64 0, .slice none 0 0 0] .own)
  have hk : Keep h.next h h2 := ((Keep.refl h.next h).push (Nat.le_refl _) _).push (Nat.le_refl _) _
  have P : Has h2 h.next (.int .i64 pi) (.slice pa pl pc pz) := (Has.new h _ _).push _
  have Q : Has h2 (h.next + 1) (.int .i64 0) (.slice none 0 0 0) := Has.new _ _ _
  have xs : Stp h2 ⟨pa, pl, pc, pz⟩ a.2 := x.s.keep hk
  have hlx : pl = a.2.length := xs.len
  have hple := posF_le [42] a.2
  have h20 := xs.small
  obtain ⟨g1, g2⟩ := xs.hiOk (n := posF [42] a.2) hple
  have g1' : sliceA E h2 22 (.slice pa pl pc pz) none (some (.int .i64 (posF [42] a.2 : Int))) = some (.slice pa (posF [42] a.2) pc pz) := g1
  obtain ⟨s', h16, e1, o1, b1, _⟩ := append_ownN (B := h2.next) (h := h2) (s := ⟨none, 0, 0, 0⟩) (vs := []) app22 g2.one (fun w hw => by obtain ⟨z, _, rfl⟩ := List.mem_map.1 hw; rfl) (Own1.nil _ _ _) (Nat.le_refl _) (by simp; omega)
  have e1' : appendA E 22 22 (.slice none 0 0 0) (.slice pa (posF [42] a.2) pc pz) h2 = some (.slice s'.a s'.len s'.cap s'.sz, h16) := e1
  rw [List.nil_append] at o1
  have hk16 : Keep h2.next h2 h16 := b1.keep (Nat.le_refl _) (fun A hA => by simp [SL.blk] at hA)
  have P16 := P.keep hk16
  have Q16 := Q.keep hk16
  let h17 := h16.put (h.next + 1) (.row [.int .i64 pi, .slice s'.a s'.len s'.cap s'.sz] .own)
  have est : h16.store (h.next + 1, 0) [.int .i64 pi, .slice s'.a s'.len s'.cap s'.sz] = some h17 := by
    rw [Heap.store_g, Q16.g, storeB_own]; rfl
  have b17 : But (some (h.next + 1)) h16 h17 := ⟨fun C hC hne => g_put_ne _ (fun e => hne (by rw [e])), Nat.le_refl _⟩
  have hn2 : h2.next = h.next + 2 := rfl
  have o17 : Own1 h2.next h17 s' ((a.2.take (posF [42] a.2)).map AV.str) := o1.but b17 (fun A hA => by
    have := o1.ge A hA
    intro e; simp only [Option.some.injEq] at e; omega)
  have Q17 : Has h17 (h.next + 1) (.int .i64 pi) (.slice s'.a s'.len s'.cap s'.sz) := ⟨g_put_eq _ rfl, Q16.lt⟩
  have hk17 : Keep h.next h h17 := (hk.trans (hk16.mono (by omega))).put (by omega) _
  have hS : Stp h17 s' (a.2.take (posF [42] a.2)) := by
    refine ⟨o17.one, ?_, ?_, ?_, by rw [List.length_take]; omega⟩
    · rcases o17 with ⟨_, q1, q2, _⟩ | ⟨A, cs, st, _, _, _, _, _, _, _, _, q1, _⟩
      · omega
      · exact q1
    · intro hn
      rcases o17 with ⟨_, q1, q2, _⟩ | ⟨A, cs, st, q1, _⟩
      · exact q2
      · rw [q1] at hn; cases hn
    · rcases o17 with ⟨q1, _⟩ | ⟨A, cs, st, _, q1, _⟩
      · exact .inl q1
      · exact .inr q1
  refine ⟨s', h17, ?_, ⟨x.i, hS⟩, hk17⟩
  have ei : f22 N ⟨pa, pl, pc, pz⟩ [42] h2 = _ := index_spec hN xs [42]
  have c0 : h2.cell ((h.next, 0).1, (h.next, 0).2 + 0) = _ := P.c0
  have c1 : h2.cell ((h.next, 0).1, (h.next, 0).2 + 1) = _ := P.c1
  have d0 : h16.cell ((h.next, 0).1, (h.next, 0).2 + 0) = _ := P16.c0
  have q17 : ∀ (K : (Int × SL × Unit) → Option ((Int × SL × Unit) × Heap)), bindV (.val (.agg [(.int .i64), .slice])) (h17.cells (h1.next, 0) 2) K = K (pi, s', ()) := HP.path (β := (Int × SL × Unit) × Heap) (p := (pi, s', ())) Q17
  have est' : h16.store (h1.next, 0) [.int .i64 pi, .slice s'.a s'.len s'.cap s'.sz] = some h17 := est
  unfold f7
  show (bindV (.val (.one .slice)) (h2.cell ((h.next, 0).1, (h.next, 0).2 + 1)) _) = _
  simp only [c1, bindV_some, cast_slice]
  show (bind2 (f22 N ⟨pa, pl, pc, pz⟩ [42] h2) _) = _
  rw [ei]
  simp only [bind2_some]
  rw [ltInt_dec]
  generalize hj : (bif decide ((if posF [42] a.2 < a.2.length then (posF [42] a.2 : Int) else -1) < 0) then
      (bindV (.val (.one .slice)) (h2.cell ((h.next, 0).1, (h.next, 0).2 + 1)) fun (x7 : SL) => some (((some (h.next, 0)), (some (h1.next, 0)), (Int.ofNat x7.len), ()), h2))
    else some (((some (h.next, 0)), (some (h1.next, 0)), (if posF [42] a.2 < a.2.length then (posF [42] a.2 : Int) else -1), ()), h2) : Option ((Option (Nat × Nat) × Option (Nat × Nat) × Int × Unit) × Heap)) = j
  have ej : j = some (((some (h.next, 0)), (some (h1.next, 0)), (posF [42] a.2 : Int), ()), h2) := by
    rw [← hj]
    by_cases hp : posF [42] a.2 < a.2.length
    · rw [if_pos hp]
      have : decide ((posF [42] a.2 : Int) < 0) = false := by simp only [decide_eq_false_iff_not]; omega
      rw [this]; rfl
    · rw [if_neg hp]
      have hpe : posF [42] a.2 = pl := by omega
      show (bindV (.val (.one .slice)) (h2.cell ((h.next, 0).1, (h.next, 0).2 + 1)) _) = _
      rw [c1, hpe]; rfl
  rw [ej]
  simp only [bind2_some, need_some, c0, c1, bindV_some, cast_int, cast_slice, g1', e1', bindT_some, est', d0, sameO_some, cond_true, guardB]
  rw [q17]
end Go.Proofs.YtjeaammlambkeaaDoor.Mi

open Go Go.Proofs.YtjeaammlambkeaaDoor.Ai Go.Proofs
namespace Go.Proofs.YtjeaammlambkeaaDoor.Mi
variable {h h' : Heap} {N : Nat} {i j : Int} {s t : SL} {a b : PP} {A : Nat} {p q : Int × SL × Unit}
/-- Front's answer and the heap behind it -/
noncomputable def frR (N : Nat) (p : Int × SL × Unit) (h : Heap) : SL := match f7 N p h with
  | some (r, _) => r.2.1
  | none => ⟨none, 0, 0, 0⟩
noncomputable def frH (N : Nat) (p : Int × SL × Unit) (h : Heap) : Heap := match f7 N p h with
  | some (_, h') => h'
  | none => h
theorem front_ex (hN : 30 ≤ N) (x : Pa h p a) : f7 N p h = some ((p.1, frR N p h, ()), frH N p h) ∧ Pa (frH N p h) (p.1, frR N p h, ()) (fr a) ∧ Keep h.next h (frH N p h) := by
  obtain ⟨s', h', h1, h2, h3⟩ := front_spec hN x
  have e1 : frR N p h = s' := by unfold frR; rw [h1]
  have e2 : frH N p h = h' := by unfold frH; rw [h1]
  rw [e1, e2]; exact ⟨h1, h2, h3⟩
noncomputable def k4 (p q : Int × SL × Unit) (h : Heap) : Heap := k2 p q (k2 p q h)
theorem k4_keep (p q : Int × SL × Unit) (h : Heap) : Keep h.next h (k4 p q h) := (k2_keep p q h).trans ((k2_keep p q (k2 p q h)).mono (k2_keep p q h).next)
theorem HP.keep (x : HP h A p) (hk : Keep h.next h h') : HP h' A p := Has.keep x hk
theorem HP.k2 (x : HP h A p) (r q : Int × SL × Unit) : HP (k2 r q h) A p := x.keep (k2_keep r q h)
theorem HP.k4 (x : HP h A p) (r q : Int × SL × Unit) : HP (k4 r q h) A p := x.keep (k4_keep r q h)
theorem Pa.k2 (x : Pa h p a) (r q : Int × SL × Unit) : Pa (k2 r q h) p a := x.keep (k2_keep r q h)
theorem Pa.k4 (x : Pa h p a) (r q : Int × SL × Unit) : Pa (k4 r q h) p a := x.keep (k4_keep r q h)
theorem HP.fr (hN : 30 ≤ N) {r : Int × SL × Unit} (y : Pa h r b) (x : HP h A p) : HP (frH N r h) A p := x.keep (front_ex hN y).2.2
theorem Pa.fr (hN : 30 ≤ N) {r : Int × SL × Unit} (y : Pa h r b) (x : Pa h p a) : Pa (frH N r h) p a := x.keep (front_ex hN y).2.2
theorem HP.push (x : HP h A p) (b : Blk) : HP (h.push b) A p := Has.push x b
theorem Pa.push (x : Pa h p a) (b : Blk) : Pa (h.push b) p a := x.keep ((Keep.refl h.next h).push (Nat.le_refl _) b)
theorem HP.new (h : Heap) (i : Int) (s : SL) : HP (h.push (.row [.int .i64 i, .slice s.a s.len s.cap s.sz] .own)) h.next (i, s, ()) := Has.new h _ _
theorem rd {β : Type} {p : Int × SL × Unit} (x : HP h A p) (K : (Int × SL × Unit) → Option β) : bindV (.val (.agg [(.int .i64), .slice])) (h.cells (A, 0) 2) K = K p := x.path K
theorem sm (x : HP h A (i, s, ())) : sameO (h.cells (A, 0) 2) (.agg [.int .i64 i, .slice s.a s.len s.cap s.sz]) = true := by
  rw [Has.cs x]; exact sameO_some _
theorem e9 (hN : 30 ≤ N) (x : Pa h p a) (y : Pa h q b) : f9 N p q h = some (prB a b, k2 p q h) := prefix_spec hN x y
theorem e14 (hN : 30 ≤ N) (x : Pa h p a) (y : Pa h q b) : f14 N p q h = some (lsB a b, k2 p q h) := less_spec hN x y
theorem e11 (hN : 30 ≤ N) (x : Pa h p a) (y : Pa h q b) : f11 N p q h = some (shB a b, k4 p q h) := shallow_spec hN x y
theorem e7 (hN : 30 ≤ N) (x : Pa h p a) : f7 N p h = some ((p.1, frR N p h, ()), frH N p h) := (front_ex hN x).1
theorem pf (hN : 30 ≤ N) (x : Pa h (i, s, ()) a) : Pa (frH N (i, s, ()) h) (i, frR N (i, s, ()) h, ()) (fr a) := (front_ex hN x).2.1
end Go.Proofs.YtjeaammlambkeaaDoor.Mi

set_option linter.unusedVariables false
set_option linter.unusedSimpArgs false
open Go Go.Proofs.YtjeaammlambkeaaDoor.Ai Go.Proofs
namespace Go.Proofs.YtjeaammlambkeaaDoor.Mi
/-- what holds of each heap that comes -/
structure Inv (a b c : PP) (ia ib ic : Int) (sa sb sc : SL) (A B C : Nat) (h : Heap) : Prop where
  A : HP h A (ia, sa, ())
  B : HP h B (ib, sb, ())
  C : HP h C (ic, sc, ())
  a : Pa h (ia, sa, ()) a
  b : Pa h (ib, sb, ()) b
  c : Pa h (ic, sc, ()) c
theorem bind2_ex {α β : Type} {X : Option (α × Heap)} {K : α → Heap → Option β} {R : Option β → Prop} (v : α) (Q : Heap → Prop) (e : ∃ h', X = some (v, h') ∧ Q h') (k : ∀ h', Q h' → R (K v h')) : R (bind2 X K) := by
  obtain ⟨h', e, q⟩ := e
  rw [e]; exact k h' q
theorem need_ex {α γ β : Type} {X : Option (Sum (α × Heap) γ)} {K : Sum (α × Heap) γ → Option β} {R : Option β → Prop} (v : α) (Q : Heap → Prop) (e : ∃ h', X = some (Sum.inl (v, h')) ∧ Q h') (k : ∀ h', Q h' → R (K (Sum.inl (v, h')))) : R (need X K) := by
  obtain ⟨h', e, q⟩ := e
  rw [e]; exact k h' q
variable {N : Nat} {a b c : PP} {ia ib ic : Int} {sa sb sc : SL} {A B C : Nat} {h : Heap}
theorem Inv.keep (x : Inv a b c ia ib ic sa sb sc A B C h) {h' : Heap} (hk : Keep h.next h h') : Inv a b c ia ib ic sa sb sc A B C h' :=
  ⟨x.A.keep hk, x.B.keep hk, x.C.keep hk, x.a.keep hk, x.b.keep hk, x.c.keep hk⟩
abbrev HH (a b c : PP) (ia ib ic : Int) (sa sb sc : SL) (A B C : Nat) := { h : Heap // Inv a b c ia ib ic sa sb sc A B C h }
def kk (p q : Int × SL × Unit) (x : HH a b c ia ib ic sa sb sc A B C) : HH a b c ia ib ic sa sb sc A B C := ⟨k2 p q x.1, x.2.keep (k2_keep p q x.1)⟩
noncomputable def kk4 (p q : Int × SL × Unit) (x : HH a b c ia ib ic sa sb sc A B C) : HH a b c ia ib ic sa sb sc A B C := ⟨k4 p q x.1, x.2.keep (k4_keep p q x.1)⟩
structure InvF (a b c : PP) (ia ib ic : Int) (sa sb sc : SL) (A B C : Nat) (F : Nat) (s1 : SL) (h : Heap) : Prop where
  i : Inv a b c ia ib ic sa sb sc A B C h
  F : HP h F (ia, s1, ())
  f : Pa h (ia, s1, ()) (fr a)
theorem InvF.keep {F : Nat} {s1 : SL} (x : InvF a b c ia ib ic sa sb sc A B C F s1 h) {h' : Heap} (hk : Keep h.next h h') : InvF a b c ia ib ic sa sb sc A B C F s1 h' := ⟨x.i.keep hk, x.F.keep hk, x.f.keep hk⟩
abbrev HF (a b c : PP) (ia ib ic : Int) (sa sb sc : SL) (A B C F : Nat) (s1 : SL) := { h : Heap // InvF a b c ia ib ic sa sb sc A B C F s1 h }
def mm {F : Nat} {s1 : SL} (p q : Int × SL × Unit) (x : HF a b c ia ib ic sa sb sc A B C F s1) : HF a b c ia ib ic sa sb sc A B C F s1 := ⟨k2 p q x.1, x.2.keep (k2_keep p q x.1)⟩
noncomputable def mm4 {F : Nat} {s1 : SL} (p q : Int × SL × Unit) (x : HF a b c ia ib ic sa sb sc A B C F s1) : HF a b c ia ib ic sa sb sc A B C F s1 := ⟨k4 p q x.1, x.2.keep (k4_keep p q x.1)⟩
theorem bind2_of {α β : Type} {X : Option (α × Heap)} {v : α} {h' : Heap} (e : X = some (v, h')) (K : α → Heap → Option β) : bind2 X K = K v h' := by rw [e]; rfl
theorem needB_some {α : Type} (a : α) (K : α → Bool) : needB (some a) K = K a := rfl
theorem guardB_true {β : Type} (k : Option β) : guardB true k = k := rfl
theorem jinl {X Y β : Type} (v : X) (h : Heap) (f : X → Heap → β) (g : Y → β) : jcase (Sum.inl (v, h) : Sum (X × Heap) Y) f g = f v h := rfl
theorem jinr {X Y β : Type} (y : Y) (f : X → Heap → β) (g : Y → β) : jcase (Sum.inr y : Sum (X × Heap) Y) f g = g y := rfl
theorem plan2 (u1 u2 u3 u4 u5 v1 v2 v3 v4 : Bool) (c1 : u1 = true → u3 = true → u4 = true) (c2 : u5 = true → u1 = true) (c3 : (v1 || v2) = !(u1 && u2)) (c4 : (v1 && v2) = false) (c5 : v1 = true → v3 = true → v4 = true) (c7 : u1 = true → v2 = false) :
    (u1 = false ∧ u5 = false ∧ ((v1 = true ∧ v2 = false ∧ v3 = false) ∨ (v1 = true ∧ v2 = false ∧ v3 = true ∧ v4 = true) ∨ (v1 = false ∧ v2 = true))) ∨
    (u1 = true ∧ v2 = false ∧ (u3 = false ∨ u3 = true ∧ u4 = true) ∧ (u5 = false ∨ u5 = true) ∧ ((v1 = true ∧ u2 = false ∧ (v3 = false ∨ v3 = true ∧ v4 = true)) ∨ (v1 = false ∧ u2 = true))) := by
  cases u1 <;> cases u2 <;> cases v1 <;> cases v2 <;> simp only [Bool.or_true, Bool.or_false, Bool.and_true, Bool.and_false, Bool.not_true, Bool.not_false, reduceCtorEq, forall_const, false_implies, implies_true, true_implies] at c1 c2 c3 c4 c5 c7 <;> cases u3 <;> cases u4 <;> cases u5 <;> cases v3 <;> cases v4 <;> simp_all
theorem order_true (hN : 30 ≤ N) (h : Heap) (ha : Stp h sa a.2 ∨ 20 < sa.len) (hb : Stp h sb b.2 ∨ 20 < sb.len) (hc : Stp h sc c.2 ∨ 20 < sc.len) (ea : ia = a.1) (eb : ib = b.1) (ec : ic = c.1) :
    ∃ h', f4 N (ia, sa, ()) (ib, sb, ()) (ic, sc, ()) h = some (true, h') := by
  unfold f4
  dsimp only
  have hA : HP (((h.push (.row [.int .i64 ia, .slice sa.a sa.len sa.cap sa.sz] .own)).push (.row [.int .i64 ib, .slice sb.a sb.len sb.cap sb.sz] .own)).push (.row [.int .i64 ic, .slice sc.a sc.len sc.cap sc.sz] .own)) h.next (ia, sa, ()) := ((HP.new h ia sa).push _).push _
  have hB : HP (((h.push (.row [.int .i64 ia, .slice sa.a sa.len sa.cap sa.sz] .own)).push (.row [.int .i64 ib, .slice sb.a sb.len sb.cap sb.sz] .own)).push (.row [.int .i64 ic, .slice sc.a sc.len sc.cap sc.sz] .own)) (h.push (.row [.int .i64 ia, .slice sa.a sa.len sa.cap sa.sz] .own)).next (ib, sb, ()) := (HP.new _ ib sb).push _
  have hC : HP (((h.push (.row [.int .i64 ia, .slice sa.a sa.len sa.cap sa.sz] .own)).push (.row [.int .i64 ib, .slice sb.a sb.len sb.cap sb.sz] .own)).push (.row [.int .i64 ic, .slice sc.a sc.len sc.cap sc.sz] .own)) ((h.push (.row [.int .i64 ia, .slice sa.a sa.len sa.cap sa.sz] .own)).push (.row [.int .i64 ib, .slice sb.a sb.len sb.cap sb.sz] .own)).next (ic, sc, ()) := HP.new _ ic sc
  have hk : Keep h.next h (((h.push (.row [.int .i64 ia, .slice sa.a sa.len sa.cap sa.sz] .own)).push (.row [.int .i64 ib, .slice sb.a sb.len sb.cap sb.sz] .own)).push (.row [.int .i64 ic, .slice sc.a sc.len sc.cap sc.sz] .own)) := (((Keep.refl h.next h).push (Nat.le_refl _) _).push (Nat.le_refl _) _).push (Nat.le_refl _) _
  have Ha := ha.imp (fun x => x.keep hk) id
  have Hb := hb.imp (fun x => x.keep hk) id
  have Hc := hc.imp (fun x => x.keep hk) id
  clear hk ha hb hc
  generalize h.next = A at hA ⊢
  generalize (h.push (.row [.int .i64 ia, .slice sa.a sa.len sa.cap sa.sz] .own)).next = B at hB ⊢
  generalize ((h.push (.row [.int .i64 ia, .slice sa.a sa.len sa.cap sa.sz] .own)).push (.row [.int .i64 ib, .slice sb.a sb.len sb.cap sb.sz] .own)).next = C at hC ⊢
  generalize (((h.push (.row [.int .i64 ia, .slice sa.a sa.len sa.cap sa.sz] .own)).push (.row [.int .i64 ib, .slice sb.a sb.len sb.cap sb.sz] .own)).push (.row [.int .i64 ic, .slice sc.a sc.len sc.cap sc.sz] .own)) = h3 at hA hB hC Ha Hb Hc ⊢
  have cA : h3.cell (A, 0 + 1) = some (.slice sa.a sa.len sa.cap sa.sz) := Has.c1 hA
  have cB : h3.cell (B, 0 + 1) = some (.slice sb.a sb.len sb.cap sb.sz) := Has.c1 hB
  have cC : h3.cell (C, 0 + 1) = some (.slice sc.a sc.len sc.cap sc.sz) := Has.c1 hC
  have told : ∀ h : Heap, f6 N h = some (true, h) := fun _ => rfl
  have l20 : ∀ n : Nat, ltInt 20 (Int.ofNat n) = decide (20 < n) := fun n => by
    rw [ltInt_dec]
    by_cases q : 20 < n
    · simp only [q, decide_true, decide_eq_true_eq]; exact Int.ofNat_lt.2 q
    · simp only [q, decide_false, decide_eq_false_iff_not]; intro r; exact q (Int.ofNat_lt.1 r)
  by_cases qa : 20 < sa.len
  · simp only [cA, ↓bindV_some, ↓cast_slice, l20, qa, decide_true, ↓cond_true, ↓bind2_some, told, ↓need_some, ↓jcase]
    exact ⟨_, rfl⟩
  by_cases qb : 20 < sb.len
  · simp only [cA, cB, ↓bindV_some, ↓cast_slice, l20, qa, qb, decide_true, decide_false, ↓cond_true, ↓cond_false, ↓bind2_some, told, ↓need_some, ↓jcase]
    exact ⟨_, rfl⟩
  by_cases qc : 20 < sc.len
  · simp only [cA, cB, cC, ↓bindV_some, ↓cast_slice, l20, qa, qb, qc, decide_true, decide_false, ↓cond_true, ↓cond_false, ↓bind2_some, told, ↓need_some, ↓jcase]
    exact ⟨_, rfl⟩
  have ha := Ha.resolve_right qa
  have hb := Hb.resolve_right qb
  have hc := Hc.resolve_right qc
  have hI : Inv a b c ia ib ic sa sb sc A B C h3 := ⟨hA, hB, hC, ⟨ea, ha⟩, ⟨eb, hb⟩, ⟨ec, hc⟩⟩
  refine need_ex (R := fun o => ∃ h', o = some (true, h')) (some (A, 0), some (B, 0), some (C, 0), ()) (fun h => Inv a b c ia ib ic sa sb sc A B C h) ?_ ?_
  · simp only [cA, cB, cC, ↓bindV_some, ↓cast_slice, l20, qa, qb, qc, decide_false, ↓cond_false, ↓bind2_some]
    exact ⟨_, rfl, hI⟩
  intro h4 hI4
  simp only [↓jcase]
  obtain ⟨x, rfl⟩ : ∃ x : HH a b c ia ib ic sa sb sc A B C, x.1 = h4 := ⟨⟨h4, hI4⟩, rfl⟩
  have rA : ∀ {β : Type} (x : HH a b c ia ib ic sa sb sc A B C) (K : (Int × SL × Unit) → Option β), bindV (.val (.agg [(.int .i64), .slice])) (x.1.cells (A, 0) 2) K = K (ia, sa, ()) := fun x K => rd x.2.A K
  have rB : ∀ {β : Type} (x : HH a b c ia ib ic sa sb sc A B C) (K : (Int × SL × Unit) → Option β), bindV (.val (.agg [(.int .i64), .slice])) (x.1.cells (B, 0) 2) K = K (ib, sb, ()) := fun x K => rd x.2.B K
  have rC : ∀ {β : Type} (x : HH a b c ia ib ic sa sb sc A B C) (K : (Int × SL × Unit) → Option β), bindV (.val (.agg [(.int .i64), .slice])) (x.1.cells (C, 0) 2) K = K (ic, sc, ()) := fun x K => rd x.2.C K
  have q1 : ∀ {β : Type} (x : HH a b c ia ib ic sa sb sc A B C) (K : Bool → Heap → Option β), bind2 (f9 N (ia, sa, ()) (ib, sb, ()) x.1) K = K (prB a b) (kk (ia, sa, ()) (ib, sb, ()) x).1 := fun x K => bind2_of (e9 hN x.2.a x.2.b) K
  have q2 : ∀ {β : Type} (x : HH a b c ia ib ic sa sb sc A B C) (K : Bool → Heap → Option β), bind2 (f9 N (ib, sb, ()) (ia, sa, ()) x.1) K = K (prB b a) (kk (ib, sb, ()) (ia, sa, ()) x).1 := fun x K => bind2_of (e9 hN x.2.b x.2.a) K
  have q3 : ∀ {β : Type} (x : HH a b c ia ib ic sa sb sc A B C) (K : Bool → Heap → Option β), bind2 (f9 N (ib, sb, ()) (ic, sc, ()) x.1) K = K (prB b c) (kk (ib, sb, ()) (ic, sc, ()) x).1 := fun x K => bind2_of (e9 hN x.2.b x.2.c) K
  have q4 : ∀ {β : Type} (x : HH a b c ia ib ic sa sb sc A B C) (K : Bool → Heap → Option β), bind2 (f9 N (ia, sa, ()) (ic, sc, ()) x.1) K = K (prB a c) (kk (ia, sa, ()) (ic, sc, ()) x).1 := fun x K => bind2_of (e9 hN x.2.a x.2.c) K
  have q0 : ∀ {β : Type} (x : HH a b c ia ib ic sa sb sc A B C) (K : Bool → Heap → Option β), bind2 (f9 N (ia, sa, ()) (ia, sa, ()) x.1) K = K true (kk (ia, sa, ()) (ia, sa, ()) x).1 := fun x K => bind2_of ((e9 hN x.2.a x.2.a).trans (by rw [prB_t (Pre.refl a)]; rfl)) K
  have q5 : ∀ {β : Type} (x : HH a b c ia ib ic sa sb sc A B C) (K : Bool → Heap → Option β), bind2 (f11 N (ia, sa, ()) (ib, sb, ()) x.1) K = K (shB a b) (kk4 (ia, sa, ()) (ib, sb, ()) x).1 := fun x K => bind2_of (e11 hN x.2.a x.2.b) K
  have w1 : ∀ {β : Type} (x : HH a b c ia ib ic sa sb sc A B C) (K : Bool → Heap → Option β), bind2 (f14 N (ia, sa, ()) (ib, sb, ()) x.1) K = K (lsB a b) (kk (ia, sa, ()) (ib, sb, ()) x).1 := fun x K => bind2_of (e14 hN x.2.a x.2.b) K
  have w2 : ∀ {β : Type} (x : HH a b c ia ib ic sa sb sc A B C) (K : Bool → Heap → Option β), bind2 (f14 N (ib, sb, ()) (ia, sa, ()) x.1) K = K (lsB b a) (kk (ib, sb, ()) (ia, sa, ()) x).1 := fun x K => bind2_of (e14 hN x.2.b x.2.a) K
  have w3 : ∀ {β : Type} (x : HH a b c ia ib ic sa sb sc A B C) (K : Bool → Heap → Option β), bind2 (f14 N (ib, sb, ()) (ic, sc, ()) x.1) K = K (lsB b c) (kk (ib, sb, ()) (ic, sc, ()) x).1 := fun x K => bind2_of (e14 hN x.2.b x.2.c) K
  have w4 : ∀ {β : Type} (x : HH a b c ia ib ic sa sb sc A B C) (K : Bool → Heap → Option β), bind2 (f14 N (ia, sa, ()) (ic, sc, ()) x.1) K = K (lsB a c) (kk (ia, sa, ()) (ic, sc, ()) x).1 := fun x K => bind2_of (e14 hN x.2.a x.2.c) K
  have s0 : ∀ {β : Type} (x : HH a b c ia ib ic sa sb sc A B C) (K : (Int × SL × Unit) → Heap → Option β), bind2 (f7 N (ia, sa, ()) x.1) K = K (ia, frR N (ia, sa, ()) x.1, ()) (frH N (ia, sa, ()) x.1) := fun x K => bind2_of (e7 hN x.2.a) K
  -- what is so of paths
  have hlP : ∀ {a b : PP}, prB a b = true → Pre a b := fun {a b} h => by
    by_cases q : Pre a b
    · exact q
    · rw [prB_f q] at h; cases h
  have hlS : ∀ {a b : PP}, shB a b = true → Sh a b := fun {a b} h => by
    by_cases q : Sh a b
    · exact q
    · rw [shB_f q] at h; cases h
  have hlL : ∀ {a b : PP}, lsB a b = true → Ls a b := fun {a b} h => by
    by_cases q : Ls a b
    · exact q
    · rw [lsB_f q] at h; cases h
  have c1 : prB a b = true → prB b c = true → prB a c = true := fun h1 h2 => prB_t ((hlP h1).tr (hlP h2))
  have c2 : shB a b = true → prB a b = true := fun h => prB_t (hlS h).1
  have c4 : (lsB a b && lsB b a) = false := by
    cases h1 : lsB a b with
    | false => rfl
    | true => rw [lsB_f (fun q => Ls.irr a ((hlL h1).tr q))]; rfl
  have c3 : (lsB a b || lsB b a) = !(prB a b && prB b a) := by
    by_cases e : a = b
    · rw [← e, prB_t (Pre.refl a), lsB_f (Ls.irr a)]; rfl
    · have h2 : (prB a b && prB b a) = false := by
        cases h1 : prB a b with
        | false => rfl
        | true => rw [prB_f (fun q => e ((hlP h1).same q))]; rfl
      rw [h2]
      rcases Ls.tri a b with h | h | h
      · rw [lsB_t h]; rfl
      · exact absurd h e
      · rw [lsB_t h, Bool.or_true]; rfl
  have c5 : lsB a b = true → lsB b c = true → lsB a c = true := fun h1 h2 => lsB_t ((hlL h1).tr (hlL h2))
  have c7 : prB a b = true → lsB b a = false := fun h => lsB_f (hlP h).not
  have d := plan2 _ _ _ _ _ _ _ _ _ c1 c2 c3 c4 c5 c7
  have c6 : prB a b = true → prB (fr a) (fr b) = true := fun h => prB_t (fr_mono (hlP h))
  clear c1 c2 c3 c4 c5 c7
  refine bind2_ex (R := fun o => ∃ h', o = some (true, h')) (some (A, 0), some (B, 0), some (C, 0), (prB a b && prB b a), ()) (fun h => Inv a b c ia ib ic sa sb sc A B C h) ?_ ?_
  · cases h1 : prB a b
    · simp only [↓need_some, ↓rA, ↓rB, ↓q1, ↓q2, h1, ↓cond_false]
      exact ⟨_, rfl, Subtype.property _⟩
    · simp only [↓need_some, ↓rA, ↓rB, ↓q1, ↓q2, h1, ↓cond_true]
      exact ⟨_, rfl, Subtype.property _⟩
  intro h5 hI5
  obtain ⟨x, rfl⟩ : ∃ x : HH a b c ia ib ic sa sb sc A B C, x.1 = h5 := ⟨⟨h5, hI5⟩, rfl⟩
  refine need_ex (R := fun o => ∃ h', o = some (true, h')) (some (A, 0), some (B, 0), (prB a b && prB b a), ()) (fun h => Inv a b c ia ib ic sa sb sc A B C h) ?_ ?_
  · revert q1 q2 q3 q4 q5 w1 w2 w3 w4 d
    clear c6 s0
    generalize prB a b = u1
    generalize prB b a = u2
    generalize prB b c = u3
    generalize prB a c = u4
    generalize shB a b = u5
    generalize lsB a b = v1
    generalize lsB b a = v2
    generalize lsB b c = v3
    generalize lsB a c = v4
    intro q1 q2 q3 q4 q5 w1 w2 w3 w4 d
    rcases d with ⟨rfl, rfl, (⟨rfl, rfl, rfl⟩ | ⟨rfl, rfl, rfl, rfl⟩ | ⟨rfl, rfl⟩)⟩ | ⟨rfl, rfl, (rfl | ⟨rfl, rfl⟩), (rfl | rfl), (⟨rfl, rfl, (rfl | ⟨rfl, rfl⟩)⟩ | ⟨rfl, rfl⟩)⟩ <;>
    · simp only [↓need_some, ↓rA, ↓rB, ↓rC, ↓q0, ↓q1, ↓q2, ↓q3, ↓q4, ↓q5, ↓w1, ↓w2, ↓w3, ↓w4, ↓cond_true, ↓cond_false, Bool.not_true, Bool.not_false, Bool.and_false, Bool.false_and, Bool.true_and, Bool.and_true]
      exact ⟨_, rfl, Subtype.property _⟩
  intro h6 hI6
  obtain ⟨x, rfl⟩ : ∃ x : HH a b c ia ib ic sa sb sc A B C, x.1 = h6 := ⟨⟨h6, hI6⟩, rfl⟩
  simp only [↓jinl, ↓need_some, ↓rA, ↓s0]
  obtain ⟨y1, y2, y3⟩ := front_ex hN x.2.a
  have z1 := x.2.keep y3
  generalize frR N (ia, sa, ()) x.1 = s1 at y1 y2 ⊢
  generalize frH N (ia, sa, ()) x.1 = h2 at y1 y2 y3 z1 ⊢
  have z2 : Inv a b c ia ib ic sa sb sc A B C ((h2.push (.row [.int .i64 0, .slice none 0 0 0] .own)).put h2.next (.row [.int .i64 ia, .slice s1.a s1.len s1.cap s1.sz] .own)) := z1.keep (((Keep.refl h2.next h2).push (Nat.le_refl _) _).put (Nat.le_refl _) _)
  have z3 : Pa ((h2.push (.row [.int .i64 0, .slice none 0 0 0] .own)).put h2.next (.row [.int .i64 ia, .slice s1.a s1.len s1.cap s1.sz] .own)) (ia, s1, ()) (fr a) := y2.keep (((Keep.refl h2.next h2).push (Nat.le_refl _) _).put (Nat.le_refl _) _)
  have z4 : HP ((h2.push (.row [.int .i64 0, .slice none 0 0 0] .own)).put h2.next (.row [.int .i64 ia, .slice s1.a s1.len s1.cap s1.sz] .own)) h2.next (ia, s1, ()) := ⟨g_put_eq _ rfl, by show h2.next < h2.next + 1; omega⟩
  have est : (h2.push (.row [.int .i64 0, .slice none 0 0 0] .own)).store (h2.next, 0) [.int .i64 ia, .slice s1.a s1.len s1.cap s1.sz] = some ((h2.push (.row [.int .i64 0, .slice none 0 0 0] .own)).put h2.next (.row [.int .i64 ia, .slice s1.a s1.len s1.cap s1.sz] .own)) := by
    rw [Heap.store_g, g_push_eq _ rfl, storeB_own]; rfl
  rw [est]
  simp only [↓need_some]
  generalize hF : h2.next = F at z2 z3 z4 est ⊢
  generalize (h2.push (.row [.int .i64 0, .slice none 0 0 0] .own)).put F (.row [.int .i64 ia, .slice s1.a s1.len s1.cap s1.sz] .own) = h3 at z2 z3 z4 est ⊢
  clear est y1 y2 y3 z1 hF rA rB rC s0
  obtain ⟨y, rfl⟩ : ∃ y : HF a b c ia ib ic sa sb sc A B C F s1, y.1 = h3 := ⟨⟨h3, z2, z4, z3⟩, rfl⟩
  have told : ∀ {β : Type} (h : Heap) (K : Bool → Heap → Option β), bind2 (f6 N h) K = K true h := fun _ _ => rfl
  have rA : ∀ {β : Type} (x : HF a b c ia ib ic sa sb sc A B C F s1) (K : (Int × SL × Unit) → Option β), bindV (.val (.agg [(.int .i64), .slice])) (x.1.cells (A, 0) 2) K = K (ia, sa, ()) := fun x K => rd x.2.i.A K
  have rB : ∀ {β : Type} (x : HF a b c ia ib ic sa sb sc A B C F s1) (K : (Int × SL × Unit) → Option β), bindV (.val (.agg [(.int .i64), .slice])) (x.1.cells (B, 0) 2) K = K (ib, sb, ()) := fun x K => rd x.2.i.B K
  have rF : ∀ {β : Type} (x : HF a b c ia ib ic sa sb sc A B C F s1) (K : (Int × SL × Unit) → Option β), bindV (.val (.agg [(.int .i64), .slice])) (x.1.cells (F, 0) 2) K = K (ia, s1, ()) := fun x K => rd x.2.F K
  have tA : ∀ (x : HF a b c ia ib ic sa sb sc A B C F s1), sameO (x.1.cells (A, 0) 2) (.agg [.int .i64 ia, .slice sa.a sa.len sa.cap sa.sz]) = true := fun x => sm x.2.i.A
  have tB : ∀ (x : HF a b c ia ib ic sa sb sc A B C F s1), sameO (x.1.cells (B, 0) 2) (.agg [.int .i64 ib, .slice sb.a sb.len sb.cap sb.sz]) = true := fun x => sm x.2.i.B
  have tF : ∀ (x : HF a b c ia ib ic sa sb sc A B C F s1), sameO (x.1.cells (F, 0) 2) (.agg [.int .i64 ia, .slice s1.a s1.len s1.cap s1.sz]) = true := fun x => sm x.2.F
  have p1 : ∀ {β : Type} (x : HF a b c ia ib ic sa sb sc A B C F s1) (K : Bool → Heap → Option β), bind2 (f9 N (ia, s1, ()) (ia, sa, ()) x.1) K = K true (mm (ia, s1, ()) (ia, sa, ()) x).1 := fun x K => bind2_of ((e9 hN x.2.f x.2.i.a).trans (by rw [prB_t (fr_pre a)]; rfl)) K
  have p2 : ∀ {β : Type} (x : HF a b c ia ib ic sa sb sc A B C F s1) (K : Bool → Heap → Option β), bind2 (f9 N (ia, sa, ()) (ib, sb, ()) x.1) K = K (prB a b) (mm (ia, sa, ()) (ib, sb, ()) x).1 := fun x K => bind2_of (e9 hN x.2.i.a x.2.i.b) K
  have p3 : ∀ {β : Type} (x : HF a b c ia ib ic sa sb sc A B C F s1) (K : Bool → Heap → Option β), bind2 (f14 N (ib, sb, ()) (ia, sa, ()) x.1) K = K (lsB b a) (mm (ib, sb, ()) (ia, sa, ()) x).1 := fun x K => bind2_of (e14 hN x.2.i.b x.2.i.a) K
  obtain ⟨zf, hz1, hz2⟩ : ∃ zf : HF a b c ia ib ic sa sb sc A B C F s1 → HF a b c ia ib ic sa sb sc A B C F s1, (∀ {β : Type} x (K : (Int × SL × Unit) → Heap → Option β), bind2 (f7 N (ia, s1, ()) x.1) K = K (ia, frR N (ia, s1, ()) x.1, ()) (zf x).1) ∧ (∀ {β : Type} x (K : Bool → Heap → Option β), bind2 (f11 N (ia, s1, ()) (ia, frR N (ia, s1, ()) x.1, ()) (zf x).1) K = K true (mm4 (ia, s1, ()) (ia, frR N (ia, s1, ()) x.1, ()) (zf x)).1) := by
    refine ⟨fun x => ⟨frH N (ia, s1, ()) x.1, x.2.keep (front_ex hN x.2.f).2.2⟩, fun x K => bind2_of (e7 hN x.2.f) K, fun x K => ?_⟩
    have y1 := (front_ex hN x.2.f).2.1
    exact bind2_of ((e11 hN (x.2.keep (front_ex hN x.2.f).2.2).f y1).trans (by rw [shB_t (fr_sh a)]; rfl)) K
  obtain ⟨zb, hb1, hb2⟩ : ∃ zf : HF a b c ia ib ic sa sb sc A B C F s1 → HF a b c ia ib ic sa sb sc A B C F s1, (∀ {β : Type} x (K : (Int × SL × Unit) → Heap → Option β), bind2 (f7 N (ib, sb, ()) x.1) K = K (ib, frR N (ib, sb, ()) x.1, ()) (zf x).1) ∧ (∀ {β : Type} x (K : Bool → Heap → Option β), bind2 (f9 N (ia, s1, ()) (ib, frR N (ib, sb, ()) x.1, ()) (zf x).1) K = K (prB (fr a) (fr b)) (mm (ia, s1, ()) (ib, frR N (ib, sb, ()) x.1, ()) (zf x)).1) := by
    refine ⟨fun x => ⟨frH N (ib, sb, ()) x.1, x.2.keep (front_ex hN x.2.i.b).2.2⟩, fun x K => bind2_of (e7 hN x.2.i.b) K, fun x K => ?_⟩
    have y1 := (front_ex hN x.2.i.b).2.1
    exact bind2_of (e9 hN (x.2.keep (front_ex hN x.2.i.b).2.2).f y1) K
  have d3 : prB a b = false ∨ (prB a b = true ∧ prB (fr a) (fr b) = true ∧ lsB b a = false) := by
    cases h1 : prB a b with
    | false => exact .inl rfl
    | true => exact .inr ⟨rfl, c6 h1, lsB_f (hlP h1).not⟩
  clear d c6 q0 q1 q2 q3 q4 q5 w1 w2 w3 w4
  rcases d3 with h1 | ⟨h1, h2, h3⟩
  · rw [h1] at p2
    simp only [↓need_some, ↓told, ↓rA, ↓rB, ↓rF, ↓p1, ↓p2, ↓p3, ↓hz1, ↓hz2, ↓hb1, ↓hb2, ↓cond_true, ↓cond_false, Bool.not_true, Bool.not_false, ↓needB_some, ↓tA, ↓tB, ↓tF, ↓guardB_true, ↓jinl, ↓jinr]
    exact ⟨_, rfl⟩
  · rw [h1] at p2
    rw [h2] at hb2
    rw [h3] at p3
    simp only [↓need_some, ↓told, ↓rA, ↓rB, ↓rF, ↓p1, ↓p2, ↓p3, ↓hz1, ↓hz2, ↓hb1, ↓hb2, ↓cond_true, ↓cond_false, Bool.not_true, Bool.not_false, ↓needB_some, ↓tA, ↓tB, ↓tF, ↓guardB_true, ↓jinl, ↓jinr]
    exact ⟨_, rfl⟩
end Go.Proofs.YtjeaammlambkeaaDoor.Mi

open Go Go.Proofs.YtjeaammlambkeaaDoor.Ai Go.Proofs
open Go.ChangeShapes Go.WideShapes
namespace Go.Proofs.YtjeaammlambkeaaDoor.Mi
theorem undP24 : ∃ fs : Array Field, Tryd.prog.underlying 24 = some (.struct fs) ∧ fs.toList.map (·.type) = [3, 22] := by
  have : (match Tryd.prog.underlying 24 with | some (.struct fs) => (fs.toList.map (·.type)) == [3, 22] | _ => false) = true := by kernel_rfl
  split at this
  · rename_i fs hfs
    exact ⟨fs, hfs, by simpa using this⟩
  · cases this
theorem undP22 : Tryd.prog.underlying 22 = some (.slice 9) := by kernel_rfl
theorem undP9 : Tryd.prog.underlying 9 = some .string := by kernel_rfl
theorem undP3 : Tryd.prog.underlying 3 = some (.int .i64) := by kernel_rfl
theorem cells9 : Tryd.prog.cellsOf 9 = 1 := by kernel_rfl
theorem steps_inv {H : Type} {h : Heap} {cs : List AV} {d : DataW H} (hx : Rd Tryd.prog h 22 cs d) : ∃ (s : SL) (l : List (List UInt8)), cs = [.slice s.a s.len s.cap s.sz] ∧ One h s (l.map AV.str) ∧ s.len ≤ s.cap ∧ (s.a = none → s.cap = 0) ∧ (s.a = none ∨ s.sz = 1) := by
  have hl : ∀ a (d : DataW H), Rd Tryd.prog h 9 a d → a.length = Tryd.prog.cellsOf 9 := fun a d hd => by
    obtain ⟨z, rfl, _⟩ := Rd.str_inv undP9 hd
    rw [cells9]; rfl
  rcases Rd.slice_inv undP22 hx with ⟨rfl, _⟩ | ⟨A, ass, ds, sp, rfl, _, h1, h2, h3, h4, h5⟩
  · exact ⟨⟨none, 0, 0, 0⟩, [], rfl, One.nil h, Nat.le_refl _, fun _ => rfl, .inl rfl⟩
  · obtain ⟨xs, h6, h7⟩ := flat_of AV.str ass fun i a ha => by
      have hi : i < ds.length := by have := (List.getElem?_eq_some_iff.1 ha).1; omega
      have hd := h5 i a ds[i] ha (List.getElem?_eq_getElem hi)
      obtain ⟨z, rfl, _⟩ := Rd.str_inv undP9 hd
      exact ⟨z, rfl⟩
    rw [cells9]
    have hlen : xs.length = ds.length := by omega
    refine ⟨⟨some (A, 0), ds.length, ds.length, 1⟩, xs, rfl, ⟨by rw [List.length_map]; exact hlen.symm, .inl rfl, by rw [List.length_map, hlen]; exact (Nat.mul_one _).symm, fun ha => by simp at ha, fun A' off ha => ?_⟩, Nat.le_refl _, fun ha => by simp at ha, .inr rfl⟩
    simp only [Option.some.injEq, Prod.mk.injEq] at ha
    obtain ⟨rfl, rfl⟩ := ha
    refine ⟨h2, ass.flatten, ?_, by rw [h6, List.drop_zero, List.take_length]⟩
    show rowB (h.t.get A) = _
    rw [h1]; rfl
theorem path_inv {H : Type} {h : Heap} {cs : List AV} {d : DataW H} (hx : Rd Tryd.prog h 24 cs d) : ∃ (i : Int) (s : SL) (l : List (List UInt8)), cs = [.int .i64 i, .slice s.a s.len s.cap s.sz] ∧ -9223372036854775808 ≤ i ∧ i ≤ 9223372036854775807 ∧ (Stp h s l ∨ 20 < s.len) := by
  obtain ⟨fs, hu, hfs⟩ := undP24
  obtain ⟨ass, ds, rfl, _, h1, h2, h3⟩ := Rd.struct_inv hu hx
  have hsz : fs.size = 2 := by
    have := congrArg List.length hfs
    simpa using this
  have ft : ∀ i, i < 2 → ∃ f, fs[i]? = some f ∧ some f.type = ([3, 22] : List Nat)[i]? := fun i hi => by
    refine ⟨fs[i], by rw [Array.getElem?_eq_getElem (by omega)], ?_⟩
    rw [← hfs, List.getElem?_map, List.getElem?_eq_getElem (by simp; omega)]
    simp
  have hal : ass.length = 2 := by omega
  have hdl : ds.length = 2 := by omega
  obtain ⟨f, hf1, hf2⟩ := ft 0 (by omega)
  have h4 := h3 0 f ass[0] ds[0] hf1 (by rw [List.getElem?_eq_getElem]) (by rw [List.getElem?_eq_getElem])
  have h5 : f.type = 3 := by simpa using hf2
  rw [h5] at h4
  obtain ⟨n0, hn0, _, hb1, hb2⟩ := Rd.int_inv undP3 h4
  obtain ⟨f', hf1', hf2'⟩ := ft 1 (by omega)
  have h4' := h3 1 f' ass[1] ds[1] hf1' (by rw [List.getElem?_eq_getElem]) (by rw [List.getElem?_eq_getElem])
  have h5' : f'.type = 22 := by simpa using hf2'
  rw [h5'] at h4'
  obtain ⟨s, l, hs, h6, h7, h8, h9⟩ := steps_inv h4'
  refine ⟨n0, s, l, ?_, hb1, hb2, ?_⟩
  · have g0 : ass[0]? = some [.int .i64 n0] := by rw [List.getElem?_eq_getElem (by omega), hn0]
    have g1 : ass[1]? = some [.slice s.a s.len s.cap s.sz] := by rw [List.getElem?_eq_getElem (by omega), hs]
    clear hn0 hs h4 h4' h3
    match ass, hal, g0, g1 with
    | [x0, x1], _, g0, g1 =>
      simp only [List.getElem?_cons_zero, List.getElem?_cons_succ, Option.some.injEq] at g0 g1
      rw [g0, g1]; rfl
  · by_cases q : 20 < s.len
    · exact .inr q
    · have := h6.1
      rw [List.length_map] at this
      exact .inl ⟨h6, h7, h8, h9, by omega⟩
theorem ordlaw_true {H : Type} (h : Heap) (vs : List AV) (ds : List (DataW H)) (hr : RdArgs Tryd.prog h [24, 24, 24] vs ds) : ∃ xs : vdens [.agg [.int .i64, .slice], .agg [.int .i64, .slice], .agg [.int .i64, .slice]], ∃ h', VTy.tos _ xs = vs ∧ (fun (x : vdens [.agg [.int .i64, .slice], .agg [.int .i64, .slice], .agg [.int .i64, .slice]]) h => f4 100 x.1 x.2.1 x.2.2.1 h) xs h = some (true, h') := by
  obtain ⟨c0, d0, _, _, rfl, rfl, r0, hr⟩ := hr.cons_inv
  obtain ⟨c1, d1, _, _, rfl, rfl, r1, hr⟩ := hr.cons_inv
  obtain ⟨c2, d2, _, _, rfl, rfl, r2, hr⟩ := hr.cons_inv
  obtain ⟨rfl, rfl⟩ := hr.nil_inv
  obtain ⟨i0, s0, l0, rfl, _, _, q0⟩ := path_inv r0
  obtain ⟨i1, s1, l1, rfl, _, _, q1⟩ := path_inv r1
  obtain ⟨i2, s2, l2, rfl, _, _, q2⟩ := path_inv r2
  obtain ⟨h', e⟩ := order_true (N := 100) (a := (i0, l0)) (b := (i1, l1)) (c := (i2, l2)) (by omega) h q0 q1 q2 rfl rfl rfl
  obtain ⟨fs, hu, _⟩ := undP24
  exact ⟨((i0, s0, ()), (i1, s1, ()), (i2, s2, ()), ()), h', by simp only [argOf_struct hu]; rfl, e⟩
end Go.Proofs.YtjeaammlambkeaaDoor.Mi
