import Derived.Test.YtjeaammlambkeaaDoorAi3
import Derived.Shelf.Strings.OnBuilder
import Derived.Shelf.LaysM
import Derived.Shelf.Strconv.Itoa3
import Derived.Lib.ItoaLen
import Derived.Test.YtjeaammlambkeaaDoorProg
import Derived.Lib.AppendIntMem
import Derived.Test.YtjeaammlambkeaaDoorRows
import Derived.Lib.LaidTab
import Derived.LaidMore
import Derived.MakeChecks
/- Functions of the program as plain functions, and what they come to; part 1. -/
set_option linter.unusedVariables false
set_option linter.unusedSimpArgs false
open Go Go.Proofs.YtjeaammlambkeaaDoor.Ai
namespace Go.Proofs.YtjeaammlambkeaaDoor.Mq
/-! orders of lists by their first unlike thing -/
def Lx {α : Type} (lt : α → α → Prop) : List α → List α → Prop
  | _, [] => False
  | [], _ :: _ => True
  | a :: x, b :: y => lt a b ∨ (a = b ∧ Lx lt x y)
structure Ord {α : Type} (lt : α → α → Prop) : Prop where
  irr : ∀ a, ¬ lt a a
  tr : ∀ a b c, lt a b → lt b c → lt a c
  tri : ∀ a b, lt a b ∨ a = b ∨ lt b a
theorem Lx.irr {α : Type} {lt : α → α → Prop} (o : Ord lt) : ∀ l : List α, ¬ Lx lt l l
  | [] => fun h => h
  | a :: l => fun h => by
    rcases h with h | ⟨_, h⟩
    · exact o.irr _ h
    · exact Lx.irr o l h
theorem Lx.tr {α : Type} {lt : α → α → Prop} (o : Ord lt) : ∀ a b c : List α, Lx lt a b → Lx lt b c → Lx lt a c
  | a, [], c, h, _ => by cases a <;> exact absurd h (fun h => h)
  | a, b :: y, [], _, h => absurd h (fun h => h)
  | [], _ :: _, _ :: _, _, _ => trivial
  | a :: x, b :: y, c :: z, h1, h2 => by
    rcases h1 with h1 | ⟨rfl, h1⟩
    · rcases h2 with h2 | ⟨rfl, h2⟩
      · exact .inl (o.tr _ _ _ h1 h2)
      · exact .inl h1
    · rcases h2 with h2 | ⟨rfl, h2⟩
      · exact .inl h2
      · exact .inr ⟨rfl, Lx.tr o x y z h1 h2⟩
theorem Lx.tri {α : Type} {lt : α → α → Prop} (o : Ord lt) : ∀ a b : List α, Lx lt a b ∨ a = b ∨ Lx lt b a
  | [], [] => .inr (.inl rfl)
  | [], _ :: _ => .inl trivial
  | _ :: _, [] => .inr (.inr trivial)
  | a :: x, b :: y => by
    rcases o.tri a b with h | rfl | h
    · exact .inl (.inl h)
    · rcases Lx.tri o x y with h | rfl | h
      · exact .inl (.inr ⟨rfl, h⟩)
      · exact .inr (.inl rfl)
      · exact .inr (.inr (.inr ⟨rfl, h⟩))
    · exact .inr (.inr (.inl h))
theorem Lx.ord {α : Type} {lt : α → α → Prop} (o : Ord lt) : Ord (Lx lt) := ⟨Lx.irr o, Lx.tr o, Lx.tri o⟩
theorem Lx.pre {α : Type} {lt : α → α → Prop} (o : Ord lt) : ∀ l t : List α, ¬ Lx lt (l ++ t) l
  | [], t => by cases t <;> exact fun h => h
  | a :: l, t => fun h => by
    rcases h with h | ⟨_, h⟩
    · exact o.irr _ h
    · exact Lx.pre o l t h
def ltU (a b : UInt8) : Prop := a.toNat < b.toNat
theorem ltU_ord : Ord ltU := ⟨fun a h => by unfold ltU at h; omega, fun a b c h1 h2 => by unfold ltU at *; omega, fun a b => by
  unfold ltU
  rcases Nat.lt_trichotomy a.toNat b.toNat with h | h | h
  · exact .inl h
  · exact .inr (.inl (UInt8.toNat.inj h))
  · exact .inr (.inr h)⟩
abbrev ltB := Lx ltU
theorem ltB_ord : Ord ltB := Lx.ord ltU_ord
theorem bytesLt_iff : ∀ x y : List UInt8, bytesLt x y = true ↔ ltB x y
  | [], [] => by simp [bytesLt, Lx]
  | _ :: _, [] => by simp [bytesLt, Lx]
  | [], _ :: _ => by simp [bytesLt, Lx]
  | a :: x, b :: y => by
    have ih := bytesLt_iff x y
    by_cases h : a.toNat < b.toNat
    · have : Nat.blt a.toNat b.toNat = true := by simpa [Nat.blt_eq] using h
      simp only [bytesLt, this, cond_true, Lx, true_iff]
      exact .inl h
    · have h1 : Nat.blt a.toNat b.toNat = false := by
        cases hq : Nat.blt a.toNat b.toNat with
        | false => rfl
        | true => exact absurd (by simpa [Nat.blt_eq] using hq) h
      by_cases h2 : a.toNat = b.toNat
      · have h3 : Nat.beq a.toNat b.toNat = true := by simpa using h2
        have h4 : a = b := UInt8.toNat.inj h2
        simp only [bytesLt, h1, h3, cond_true, cond_false, Lx]
        rw [ih]
        constructor
        · intro q; exact .inr ⟨h4, q⟩
        · rintro (q | ⟨_, q⟩)
          · exact absurd q h
          · exact q
      · have h3 : Nat.beq a.toNat b.toNat = false := by
          cases hq : Nat.beq a.toNat b.toNat with
          | false => rfl
          | true => exact absurd (by simpa using hq) h2
        simp only [bytesLt, h1, h3, cond_false, Lx, Bool.false_eq_true, false_iff]
        rintro (q | ⟨q, _⟩)
        · exact h q
        · exact h2 (by rw [q])
theorem eqBytes_iff : ∀ x y : List UInt8, eqBytes x y = true ↔ x = y
  | [], [] => by simp [eqBytes]
  | _ :: _, [] => by simp [eqBytes]
  | [], _ :: _ => by simp [eqBytes]
  | a :: x, b :: y => by
    have ih := eqBytes_iff x y
    by_cases h2 : a.toNat = b.toNat
    · have h3 : Nat.beq a.toNat b.toNat = true := by simpa using h2
      have h4 : a = b := UInt8.toNat.inj h2
      simp only [eqBytes, h3, cond_true, ih, List.cons.injEq]
      exact ⟨fun q => ⟨h4, q⟩, fun q => q.2⟩
    · have h3 : Nat.beq a.toNat b.toNat = false := by
        cases hq : Nat.beq a.toNat b.toNat with
        | false => rfl
        | true => exact absurd (by simpa using hq) h2
      simp only [eqBytes, h3, cond_false, Bool.false_eq_true, false_iff, List.cons.injEq, not_and]
      exact fun q => absurd (by rw [q]) h2
theorem eqBytes_dec (x y : List UInt8) : eqBytes x y = decide (x = y) := by
  rw [Bool.eq_iff_iff, eqBytes_iff, decide_eq_true_eq]
theorem eqBytes_refl (x : List UInt8) : eqBytes x x = true := (eqBytes_iff x x).2 rfl
/-- texts, compared -/
def cmp1 (a b : List UInt8) : Int := bif bytesLt a b then -1 else bif bytesLt b a then 1 else 0
def cmpS : List (List UInt8) → List (List UInt8) → Int
  | [], [] => 0
  | [], _ :: _ => -1
  | _ :: _, [] => 1
  | x :: r, y :: s => bif eqInt (cmp1 x y) 0 then cmpS r s else cmp1 x y
abbrev ltS := Lx ltB
theorem ltS_ord : Ord ltS := Lx.ord ltB_ord
theorem cmp1_lt (x y : List UInt8) : cmp1 x y < 0 ↔ ltB x y := by
  unfold cmp1
  cases h : bytesLt x y with
  | true => simp only [cond_true]; exact ⟨fun _ => (bytesLt_iff x y).1 h, fun _ => by decide⟩
  | false =>
    have : ¬ ltB x y := fun q => by rw [← bytesLt_iff, h] at q; cases q
    cases bytesLt y x <;> simp [this]
theorem cmp1_zero (x y : List UInt8) : eqInt (cmp1 x y) 0 = true ↔ x = y := by
  unfold cmp1
  cases h : bytesLt x y with
  | true =>
    simp only [cond_true]
    constructor
    · intro q; cases q
    · rintro rfl; exact absurd ((bytesLt_iff x x).1 h) (ltB_ord.irr x)
  | false =>
    have h1 : ¬ ltB x y := fun q => by rw [← bytesLt_iff, h] at q; cases q
    cases h' : bytesLt y x with
    | true =>
      simp only [cond_true, cond_false]
      constructor
      · intro q; cases q
      · rintro rfl; exact absurd ((bytesLt_iff x x).1 h') (ltB_ord.irr x)
    | false =>
      have h2 : ¬ ltB y x := fun q => by rw [← bytesLt_iff, h'] at q; cases q
      simp only [cond_false]
      constructor
      · intro _
        rcases ltB_ord.tri x y with q | q | q
        · exact absurd q h1
        · exact q
        · exact absurd q h2
      · intro _; rfl
theorem cmpS_lt : ∀ l m, cmpS l m < 0 ↔ ltS l m
  | [], [] => by simp [cmpS, Lx]
  | _ :: _, [] => by simp [cmpS, Lx]
  | [], _ :: _ => by simp [cmpS, Lx]
  | x :: r, y :: s => by
    have ih := cmpS_lt r s
    cases h : eqInt (cmp1 x y) 0 with
    | true =>
      have : x = y := (cmp1_zero x y).1 h
      subst this
      simp only [cmpS, h, cond_true, ih, Lx, true_and]
      constructor
      · exact fun q => .inr q
      · rintro (q | q)
        · exact absurd q (ltB_ord.irr x)
        · exact q
    | false =>
      have : x ≠ y := fun q => by rw [(cmp1_zero x y).2 q] at h; cases h
      simp only [cmpS, h, cond_false, cmp1_lt, Lx, this, false_and, or_false]
/-! paths -/
abbrev PP := Int × List (List UInt8)
def Pre (a b : PP) : Prop := a.1 = b.1 ∧ a.2 <+: b.2
def Ls (a b : PP) : Prop := a.1 < b.1 ∨ (a.1 = b.1 ∧ ltS a.2 b.2)
def Sh (a b : PP) : Prop := Pre a b ∧ ¬ [42] ∈ b.2.drop a.2.length
/-- where a text stands first -/
def posF (x : List UInt8) : List (List UInt8) → Nat
  | [] => 0
  | y :: r => bif eqBytes x y then 0 else posF x r + 1
def fr (a : PP) : PP := (a.1, a.2.take (posF [42] a.2))
theorem posF_no {x y : List UInt8} {r : List (List UInt8)} (h : eqBytes x y = false) : posF x (y :: r) = posF x r + 1 := by
  show (bif eqBytes x y then 0 else posF x r + 1) = _
  rw [h]; rfl
theorem posF_le (x : List UInt8) : ∀ l, posF x l ≤ l.length
  | [] => Nat.le_refl _
  | y :: r => by
    unfold posF
    cases eqBytes x y with
    | true => exact Nat.zero_le _
    | false => exact Nat.succ_le_succ (posF_le x r)
theorem posF_lt (x : List UInt8) : ∀ l (i : Nat) (h : i < l.length), i < posF x l → eqBytes x l[i] = false
  | [], i, h, _ => by simp at h
  | y :: r, i, h, hi => by
    unfold posF at hi
    cases hq : eqBytes x y with
    | true => rw [hq] at hi; exact absurd hi (Nat.not_lt_zero _)
    | false =>
      rw [hq] at hi
      cases i with
      | zero => exact hq
      | succ i => exact posF_lt x r i (by simpa using h) (Nat.lt_of_succ_lt_succ hi)
theorem posF_at (x : List UInt8) : ∀ l (h : posF x l < l.length), eqBytes x l[posF x l] = true
  | [], h => by simp at h
  | y :: r, h => by
    cases hq : eqBytes x y with
    | true =>
      have : posF x (y :: r) = 0 := by unfold posF; rw [hq]; rfl
      simp only [this, List.getElem_cons_zero]; exact hq
    | false =>
      have h1 : posF x (y :: r) = posF x r + 1 := posF_no hq
      have := posF_at x r (by rw [h1] at h; simpa using h)
      simp only [h1, List.getElem_cons_succ]; exact this
theorem posF_not (x : List UInt8) : ∀ l : List (List UInt8), ¬ x ∈ l.take (posF x l)
  | [] => by simp
  | y :: r => by
    cases hq : eqBytes x y with
    | true =>
      have : posF x (y :: r) = 0 := by unfold posF; rw [hq]; rfl
      simp [this]
    | false =>
      have h1 : posF x (y :: r) = posF x r + 1 := posF_no hq
      have h2 : x ≠ y := fun e => by rw [(eqBytes_iff x y).2 e] at hq; cases hq
      rw [h1, List.take_succ_cons, List.mem_cons, not_or]
      exact ⟨h2, posF_not x r⟩
theorem posF_mem (x : List UInt8) : ∀ l : List (List UInt8), x ∈ l ↔ posF x l < l.length
  | [] => by simp
  | y :: r => by
    cases hq : eqBytes x y with
    | true =>
      have : posF x (y :: r) = 0 := by unfold posF; rw [hq]; rfl
      rw [this, (eqBytes_iff x y).1 hq]; simp
    | false =>
      have h1 : posF x (y :: r) = posF x r + 1 := posF_no hq
      have h2 : x ≠ y := fun e => by rw [(eqBytes_iff x y).2 e] at hq; cases hq
      rw [h1, List.mem_cons, posF_mem x r]
      simp [h2]
theorem posF_none (x : List UInt8) (l : List (List UInt8)) (h : ¬ x ∈ l) : posF x l = l.length := by
  have := posF_le x l
  have h1 : ¬ posF x l < l.length := fun q => h ((posF_mem x l).2 q)
  omega
/-! what the law says -/
theorem Pre.refl (a : PP) : Pre a a := ⟨rfl, List.prefix_refl _⟩
theorem Pre.tr {a b c : PP} (h1 : Pre a b) (h2 : Pre b c) : Pre a c := ⟨h1.1.trans h2.1, h1.2.trans h2.2⟩
theorem Pre.same {a b : PP} (h1 : Pre a b) (h2 : Pre b a) : a = b := by
  obtain ⟨e, t, ht⟩ := h1
  obtain ⟨_, t', ht'⟩ := h2
  have hl : t = [] := by
    have h3 := congrArg List.length ht
    have h4 := congrArg List.length ht'
    simp only [List.length_append] at h3 h4
    exact List.length_eq_zero_iff.1 (by omega)
  subst hl
  exact Prod.ext e (by simpa using ht)
theorem Ls.irr (a : PP) : ¬ Ls a a := fun h => by
  rcases h with h | ⟨_, h⟩
  · omega
  · exact ltS_ord.irr _ h
theorem Ls.tr {a b c : PP} (h1 : Ls a b) (h2 : Ls b c) : Ls a c := by
  rcases h1 with h1 | ⟨e1, h1⟩
  · rcases h2 with h2 | ⟨e2, h2⟩
    · exact .inl (by omega)
    · exact .inl (by omega)
  · rcases h2 with h2 | ⟨e2, h2⟩
    · exact .inl (by omega)
    · exact .inr ⟨by omega, ltS_ord.tr _ _ _ h1 h2⟩
theorem Ls.tri (a b : PP) : Ls a b ∨ a = b ∨ Ls b a := by
  rcases Int.lt_trichotomy a.1 b.1 with h | h | h
  · exact .inl (.inl h)
  · rcases ltS_ord.tri a.2 b.2 with h1 | h1 | h1
    · exact .inl (.inr ⟨h, h1⟩)
    · exact .inr (.inl (Prod.ext h h1))
    · exact .inr (.inr (.inr ⟨h.symm, h1⟩))
  · exact .inr (.inr (.inl h))
theorem Pre.not {a b : PP} (h : Pre a b) : ¬ Ls b a := by
  obtain ⟨e, t, ht⟩ := h
  rintro (h | ⟨_, h⟩)
  · omega
  · rw [← ht] at h; exact Lx.pre ltB_ord _ _ h
theorem fr_pre (a : PP) : Pre (fr a) a := ⟨rfl, List.take_prefix _ _⟩
theorem fr_fr (a : PP) : fr (fr a) = fr a := by
  have h : posF [42] (a.2.take (posF [42] a.2)) = (a.2.take (posF [42] a.2)).length := posF_none _ _ (posF_not _ _)
  show (a.1, (a.2.take (posF [42] a.2)).take (posF [42] (a.2.take (posF [42] a.2)))) = _
  rw [h, List.take_length]; rfl
theorem fr_sh (a : PP) : Sh (fr a) (fr (fr a)) := by
  rw [fr_fr]
  exact ⟨Pre.refl _, by simp⟩
theorem posF_app (x : List UInt8) : ∀ l t, posF x l ≤ posF x (l ++ t) ∧ (posF x l < l.length → posF x (l ++ t) = posF x l)
  | [], t => ⟨Nat.zero_le _, fun h => by simp at h⟩
  | y :: r, t => by
    have ih := posF_app x r t
    rw [List.cons_append]
    unfold posF
    cases eqBytes x y with
    | true => exact ⟨Nat.le_refl _, fun _ => rfl⟩
    | false => exact ⟨Nat.succ_le_succ ih.1, fun h => by
        have := ih.2 (by simpa using h)
        show posF x (r ++ t) + 1 = posF x r + 1
        rw [this]⟩
theorem fr_mono {a b : PP} (h : Pre a b) : Pre (fr a) (fr b) := by
  obtain ⟨e, t, ht⟩ := h
  refine ⟨e, ?_⟩
  obtain ⟨h1, h2⟩ := posF_app [42] a.2 t
  rw [ht] at h1 h2
  show a.2.take _ <+: b.2.take _
  have h3 : a.2.take (posF [42] a.2) = b.2.take (posF [42] a.2) := by
    rw [← ht, List.take_append_of_le_length (posF_le [42] a.2)]
  rw [h3]
  exact List.take_prefix_take_left h1
end Go.Proofs.YtjeaammlambkeaaDoor.Mq

namespace Go.Proofs
open Go.Shelf
def Tryd.lays156_ren : Go.Shelf.Ren := ⟨fun | 156 => 27 | 165 => 47 | 166 => 48 | 169 => 49 | 240 => 62 | 241 => 63 | 276 => 71 | 277 => 72 | n => n, fun | 31 => 22 | 9 => 9 | 3 => 3 | 4 => 4 | 0 => 0 | 20 => 20 | 72 => 79 | 76 => 83 | 70 => 76 | 37 => 77 | 75 => 82 | 127 => 96 | 164 => 103 | 5 => 5 | 80 => 85 | n => n, fun | n => n⟩
theorem Tryd.lays156 : Go.Proofs.Lays.n156 Tryd.prog Tryd.lays156_ren := {
  mixed := by kernel_rfl
  f156 := Tryd.func27.trans (congrArg some (by kernel_rfl))
  f165 := Tryd.func47.trans (congrArg some (by kernel_rfl))
  f166 := Tryd.func48.trans (congrArg some (by kernel_rfl))
  f169 := Tryd.func49.trans (congrArg some (by kernel_rfl))
  f240 := Tryd.func62.trans (congrArg some (by kernel_rfl))
  f241 := Tryd.func63.trans (congrArg some (by kernel_rfl))
  f276 := Tryd.func71.trans (congrArg some (by kernel_rfl))
  f277 := Tryd.func72.trans (congrArg some (by kernel_rfl))
  t0 := Tryd.underlying0
  a0 := Tryd.isAgg0
  z0 := Tryd.sizeOf0
  v0 := Tryd.zeroValue0
  t3 := Tryd.underlying3
  a3 := Tryd.isAgg3
  z3 := Tryd.sizeOf3
  v3 := Tryd.zeroValue3
  t4 := Tryd.underlying4
  a4 := Tryd.isAgg4
  z4 := Tryd.sizeOf4
  v4 := Tryd.zeroValue4
  t9 := Tryd.underlying9
  a9 := Tryd.isAgg9
  z9 := Tryd.sizeOf9
  v9 := Tryd.zeroValue9
  t20 := Tryd.underlying20
  a20 := Tryd.isAgg20
  z20 := Tryd.sizeOf20
  v20 := Tryd.zeroValue20
  t31 := Tryd.underlying22
  a31 := Tryd.isAgg22
  z31 := Tryd.sizeOf22
  v31 := Tryd.zeroValue22
  t37 := Tryd.underlying77
  a37 := Tryd.isAgg77
  z37 := Tryd.sizeOf77
  v37 := Tryd.zeroValue77
  t70 := Tryd.underlying76
  a70 := Tryd.isAgg76
  z70 := Tryd.sizeOf76
  v70 := Tryd.zeroValue76
  t72 := Tryd.underlying79
  a72 := Tryd.isAgg79
  z72 := Tryd.sizeOf79
  v72 := Tryd.zeroValue79
  t75 := Tryd.underlying82
  a75 := Tryd.isAgg82
  z75 := Tryd.sizeOf82
  v75 := Tryd.zeroValue82
  t76 := Tryd.underlying83
  a76 := Tryd.isAgg83
  z76 := Tryd.sizeOf83
  v76 := Tryd.zeroValue83
  t127 := Tryd.underlying96
  a127 := Tryd.isAgg96
  z127 := Tryd.sizeOf96
  v127 := Tryd.zeroValue96
  t164 := Tryd.underlying103
  a164 := Tryd.isAgg103
  z164 := Tryd.sizeOf103
  v164 := Tryd.zeroValue103 }
theorem Tryd.Builder_Extra_156 : Builder.Extra Tryd.prog Tryd.lays156_ren := {
  sizeBuilder := by kernel_rfl
  liesBuilder := by kernel_rfl
  t5 := Tryd.underlying5
  a5 := Tryd.isAgg5
  z5 := Tryd.sizeOf5
  v5 := Tryd.zeroValue5
  infoByte := by kernel_rfl
  cellsByte := by kernel_rfl
  sizeByte := by kernel_rfl
  neB5 := by decide }
open Go.RowKit in
/-- No element: the empty string; the world is as it was. (Whatever the slice's address and capacity: a nil slice too.) (LAID: no walk: one application.) -/
theorem Tryd.strings_Join_none (a : Option Addr) (c : Nat) (sep : ByteArray) (w : World) :
    Calls Tryd.prog 27 #[.slice a 0 c, .string sep] w fun e w' => e = .returned (.string ⟨#[]⟩) ∧ w' = w := Any.strings_Join_none Tryd.lays156 Tryd.Builder_Extra_156 a c sep w
open Go.RowKit in
/-- strings.Join: "Join concatenates the elements of its first argument to create a single string. The separator string sep is placed between elements in the resulting string.": HOWEVER MANY ELEMENTS. Below the heap's end the world is as it was. (LAID: no walk: one application.) -/
theorem Tryd.strings_Join (bk o c : Nat) (xs : List ByteArray) (sep : ByteArray) (w : World) (hcells : ∀ (j : Nat) x, xs[j]? = some x → w.cell? ⟨bk, o + j, none⟩ = some (.string x)) (hbk : bk < w.heap.size) (hN : xs.length ≤ 140737488355328) (hcap : xs.length ≤ c) (hlen : (Lib.join (xs.map (·.data.toList)) sep.data.toList).length ≤ 140737488355328) :
    Calls Tryd.prog 27 #[.slice (some ⟨bk, o, none⟩) xs.length c, .string sep] w fun e w' => e = .returned (.string ⟨(Lib.join (xs.map (·.data.toList)) sep.data.toList).toArray⟩) ∧ Below w.heap.size w w' := Any.strings_Join Tryd.lays156 Tryd.Builder_Extra_156 bk o c xs sep w hcells hbk hN hcap hlen
def Tryd.laysM171_ren : Go.Shelf.Ren := ⟨fun | 171 => 28 | 243 => 50 | 246 => 64 | 283 => 73 | 284 => 74 | 285 => 75 | 286 => 76 | 129 => 79 | 317 => 78 | 318 => 80 | 319 => 81 | 320 => 82 | 337 => 83 | 338 => 84 | n => n, fun | 3 => 3 | 9 => 9 | 2 => 2 | 4 => 4 | 171 => 106 | 0 => 0 | 53 => 107 | 37 => 77 | 5 => 5 | 173 => 110 | 212 => 115 | 51 => 116 | 20 => 20 | 213 => 117 | 46 => 118 | 232 => 121 | 233 => 122 | n => n, fun | 17 => 1 | 18 => 2 | 19 => 3 | n => n⟩
theorem Tryd.laysM171 : Go.Proofs.LaysM.n171 Tryd.prog Tryd.laysM171_ren := {
  mixed := by kernel_rfl
  f129 := Tryd.func79.trans (congrArg some (by kernel_rfl))
  f171 := Tryd.func28.trans (congrArg some (by kernel_rfl))
  f243 := Tryd.func50.trans (congrArg some (by kernel_rfl))
  f246 := Tryd.func64.trans (congrArg some (by kernel_rfl))
  f283 := Tryd.func73.trans (congrArg some (by kernel_rfl))
  f284 := Tryd.func74.trans (congrArg some (by kernel_rfl))
  f285 := Tryd.func75.trans (congrArg some (by kernel_rfl))
  f286 := Tryd.func76.trans (congrArg some (by kernel_rfl))
  f317 := Tryd.func78.trans (congrArg some (by kernel_rfl))
  f318 := Tryd.func80.trans (congrArg some (by kernel_rfl))
  f319 := Tryd.func81.trans (congrArg some (by kernel_rfl))
  f320 := Tryd.func82.trans (congrArg some (by kernel_rfl))
  f337 := Tryd.func83.trans (congrArg some (by kernel_rfl))
  f338 := Tryd.func84.trans (congrArg some (by kernel_rfl))
  t0 := Tryd.underlying0
  a0 := Tryd.isAgg0
  z0 := Tryd.sizeOf0
  v0 := Tryd.zeroValue0
  t2 := Tryd.underlying2
  a2 := Tryd.isAgg2
  z2 := Tryd.sizeOf2
  v2 := Tryd.zeroValue2
  t3 := Tryd.underlying3
  a3 := Tryd.isAgg3
  z3 := Tryd.sizeOf3
  v3 := Tryd.zeroValue3
  t4 := Tryd.underlying4
  a4 := Tryd.isAgg4
  z4 := Tryd.sizeOf4
  v4 := Tryd.zeroValue4
  t5 := Tryd.underlying5
  a5 := Tryd.isAgg5
  z5 := Tryd.sizeOf5
  v5 := Tryd.zeroValue5
  t9 := Tryd.underlying9
  a9 := Tryd.isAgg9
  z9 := Tryd.sizeOf9
  v9 := Tryd.zeroValue9
  t20 := Tryd.underlying20
  a20 := Tryd.isAgg20
  z20 := Tryd.sizeOf20
  v20 := Tryd.zeroValue20
  t37 := Tryd.underlying77
  a37 := Tryd.isAgg77
  z37 := Tryd.sizeOf77
  v37 := Tryd.zeroValue77
  t46 := Tryd.underlying118
  a46 := Tryd.isAgg118
  z46 := Tryd.sizeOf118
  v46 := Tryd.zeroValue118
  t51 := Tryd.underlying116
  a51 := Tryd.isAgg116
  z51 := Tryd.sizeOf116
  v51 := Tryd.zeroValue116
  t53 := Tryd.underlying107
  a53 := Tryd.isAgg107
  z53 := Tryd.sizeOf107
  v53 := Tryd.zeroValue107
  t171 := Tryd.underlying106
  a171 := Tryd.isAgg106
  z171 := Tryd.sizeOf106
  v171 := Tryd.zeroValue106
  t173 := Tryd.underlying110
  a173 := Tryd.isAgg110
  z173 := Tryd.sizeOf110
  v173 := Tryd.zeroValue110
  t212 := Tryd.underlying115
  a212 := Tryd.isAgg115
  z212 := Tryd.sizeOf115
  v212 := Tryd.zeroValue115
  t213 := Tryd.underlying117
  a213 := Tryd.isAgg117
  z213 := Tryd.sizeOf117
  t232 := Tryd.underlying121
  a232 := Tryd.isAgg121
  z232 := Tryd.sizeOf121
  v232 := Tryd.zeroValue121
  t233 := Tryd.underlying122
  a233 := Tryd.isAgg122
  z233 := Tryd.sizeOf122
  v233 := Tryd.zeroValue122
  g17 := by kernel_rfl
  g18 := by kernel_rfl
  g19 := by kernel_rfl
  i0 := by kernel_rfl
  i2 := by kernel_rfl
  i3 := by kernel_rfl
  i4 := by kernel_rfl
  i5 := by kernel_rfl
  i9 := by kernel_rfl
  i20 := by kernel_rfl
  i37 := by kernel_rfl
  i46 := by kernel_rfl
  i51 := by kernel_rfl
  i53 := by kernel_rfl
  i171 := by kernel_rfl
  i173 := by kernel_rfl
  i212 := by kernel_rfl
  i232 := by kernel_rfl
  i233 := by kernel_rfl
  m17 := by kernel_rfl
  m18 := by kernel_rfl
  m19 := by kernel_rfl }
open Go.RowKit Go.Sort Go.Lib in
/-- strconv.Itoa: "Itoa is equivalent to FormatInt(int64(i), 10).": i's DECIMAL NUMERAL ('Lib.itoa': a '-' where i is negative, then the digits), FOR EVERY int. The world behind the call: the world before it, new blocks behind the heap (the library's 'var a [24]byte'), draws. (LAID: no walk: one application.) -/
theorem Tryd.strconv_Itoa (n : Int) (h0 : -9223372036854775808 ≤ n) (h1 : n ≤ 9223372036854775807) (w : World) (htab : Lib.TabIs Tryd.prog w "internal/strconv.uint64pow10" .u64 Lib.pow10Tab) :
    Calls Tryd.prog 28 #[.int .i64 n] w fun e w' => e = .returned (.string ⟨(Lib.itoa n).toArray⟩) ∧ ∃ k os, w' = grow (w.drewN k) os := Any.strconv_Itoa Tryd.laysM171 n h0 h1 w htab
end Go.Proofs

open Go Go.Proofs.YtjeaammlambkeaaDoor.Ai Go.Proofs
open Go.RowKit (Below)
namespace Go.Proofs.YtjeaammlambkeaaDoor.Nj
/-! strings.Join, by the library's contract -/
def strsOf : List AV → Option (List (List UInt8))
  | [] => some []
  | .str s :: r => match strsOf r with
    | some l => some (s :: l)
    | none => none
  | _ :: _ => none
def joinL : List (List UInt8) → List UInt8 → List UInt8
  | [], _ => []
  | [x], _ => x
  | x :: y :: r, sep => x ++ (sep ++ joinL (y :: r) sep)
theorem joinL_eq : ∀ (l : List (List UInt8)) (sep : List UInt8), joinL l sep = Lib.join l sep
  | [], sep => rfl
  | [x], sep => (Lib.join_one x sep).symm
  | x :: y :: r, sep => by
    rw [Lib.join_cons]
    show x ++ (sep ++ joinL (y :: r) sep) = _
    rw [joinL_eq (y :: r) sep, Lib.join_cons]
    simp [Lib.joinTail]
def joinF (s : SL) (sep : List UInt8) (h : Heap) : Option (List UInt8 × Heap) :=
  bif Nat.beq s.len 0 then some ([], h) else
  match s.a with
  | some (A, off) => bif Nat.ble s.len s.cap then
      match h.read A off s.len with
      | some vs => match strsOf vs with
        | some xs => bif Nat.ble xs.length 140737488355328 && Nat.ble (joinL xs sep).length 140737488355328 then some (joinL xs sep, h) else none
        | none => none
      | none => none
    else none
  | none => none
def joinN : List AV → Heap → Option (AV × Heap)
  | [.slice a l c z, .str sep], h => match joinF ⟨a, l, c, z⟩ sep h with
    | some (s, h') => some (.str s, h')
    | none => none
  | _, _ => none
def nat : FuncId → Option (List AV → Heap → Option (AV × Heap)) := fun f => bif Nat.beq f 27 then some joinN else none
theorem strsOf_vrs {μ : Mu} : ∀ {vs : List AV} {xs : List (List UInt8)} {ys : List Value}, strsOf vs = some xs → VRs μ vs ys → ys = xs.map fun s => .string ⟨s.toArray⟩
  | [], xs, ys, h, hv => by simp [strsOf] at h; subst h; simpa [VRs] using hv
  | v :: r, xs, ys, h, hv => by
    cases v with
    | str s =>
      simp only [strsOf] at h
      cases hr : strsOf r with
      | none => simp [hr] at h
      | some l =>
        simp only [hr, Option.some.injEq] at h
        subst h
        simp only [VRs, VR] at hv
        obtain ⟨y, ys', rfl, rfl, h2⟩ := hv
        rw [strsOf_vrs hr h2]; rfl
    | _ => simp [strsOf] at h
theorem env0 : EnvOK (envOf Tryd.prog [] noNative) Tryd.prog := envOf_ok (by kernel_rfl) (by kernel_rfl)
theorem join_ok {s : SL} {sep r : List UInt8} {h h' : Heap} (hx : joinF s sep h = some (r, h')) {μ : Mu} {w : World} {args' : Array Value} (hr : HR μ h w) (hv : VRs μ [.slice s.a s.len s.cap s.sz, .str sep] args'.toList) :
    (callFunc 27 args').run Tryd.prog w = .ok (.enter 27 args') w ∧ Calls Tryd.prog 27 args' w fun e w' => ∃ u, e = .returned u ∧ Post μ h w (.str r) h' u w' := by
  refine ⟨enter_of env0 (fn := Tryd.f27) (by kernel_rfl) (by kernel_rfl) _ _, ?_⟩
  simp only [VRs] at hv
  obtain ⟨y, ys, e1, hy, y2, ys2, e2, hy2, e3⟩ := hv
  subst e2 e3
  simp only [VR] at hy2
  subst hy2
  have ea : args' = #[y, .string ⟨sep.toArray⟩] := by rw [← Array.toList_inj, e1]
  subst ea
  unfold joinF at hx
  cases hb : Nat.beq s.len 0 with
  | true =>
    simp only [hb, cond_true, Option.some.injEq, Prod.mk.injEq] at hx
    obtain ⟨rfl, rfl⟩ := hx
    have hl : s.len = 0 := Nat.eq_of_beq_eq_true hb
    have : ∃ a c, y = .slice a 0 c := by
      cases ha : s.a with
      | none => rw [ha] at hy; simp only [VR] at hy; exact ⟨none, 0, hy.1⟩
      | some q =>
        obtain ⟨A, off⟩ := q
        rw [ha] at hy; simp only [VR] at hy
        obtain ⟨l, a', cap', _, h2, _⟩ := hy
        exact ⟨some a', cap', by rw [h2, hl]⟩
    obtain ⟨a, c, rfl⟩ := this
    refine (Tryd.strings_Join_none a c ⟨sep.toArray⟩ w).mono ?_
    rintro e w' ⟨rfl, rfl⟩
    exact ⟨_, rfl, μ, by simp [VR], hr, Ext.refl μ h w'⟩
  | false =>
    simp only [hb, cond_false] at hx
    cases ha : s.a with
    | none => simp [ha] at hx
    | some q =>
      obtain ⟨A, off⟩ := q
      simp only [ha] at hx
      cases hc : Nat.ble s.len s.cap with
      | false => simp [hc] at hx
      | true =>
        simp only [hc, cond_true] at hx
        cases hrd : h.read A off s.len with
        | none => simp [hrd] at hx
        | some vs =>
          simp only [hrd] at hx
          cases hst : strsOf vs with
          | none => simp [hst] at hx
          | some xs =>
            simp only [hst] at hx
            cases hbd : Nat.ble xs.length 140737488355328 && Nat.ble (joinL xs sep).length 140737488355328 with
            | false => simp [hbd] at hx
            | true =>
              simp only [hbd, cond_true, Option.some.injEq, Prod.mk.injEq] at hx
              obtain ⟨rfl, rfl⟩ := hx
              simp only [Bool.and_eq_true, Nat.ble_eq] at hbd hc
              rw [ha] at hy; simp only [VR] at hy
              obtain ⟨l, a', cap', hA, rfl, h3, h4⟩ := hy
              have hpos : 0 < s.len := by
                rcases Nat.eq_zero_or_pos s.len with h0 | h0
                · rw [h0] at hb; cases hb
                · exact h0
              rcases h4 with ⟨h4, _⟩ | ⟨rfl, h5, h6, h7⟩
              · omega
              · obtain ⟨ys, _, h8, h9, h10⟩ := hr.read (P := Tryd.prog) hA hrd
                have h11 := strsOf_vrs hst h9
                have hxl : xs.length = s.len := by rw [← h8, h11, List.length_map]
                have hmap : (xs.map (fun s => (⟨s.toArray⟩ : ByteArray))).map (·.data.toList) = xs := by
                  rw [List.map_map]; simp [Function.comp_def]
                have := Tryd.strings_Join l.b (l.sh + off) cap' (xs.map fun s => ⟨s.toArray⟩) ⟨sep.toArray⟩ w (fun j x hj => by
                    refine h10 j _ ?_
                    rw [h11]
                    rw [List.getElem?_map] at hj ⊢
                    cases hq : xs[j]? with
                    | none => rw [hq] at hj; simp at hj
                    | some z => rw [hq] at hj; simp only [Option.map_some, Option.some.injEq] at hj ⊢; rw [hj])
                  (hr.dom A l hA).2 (by rw [List.length_map]; exact hbd.1) (by rw [List.length_map]; omega) (by rw [hmap]; rw [← joinL_eq]; exact hbd.2)
                rw [List.length_map, hxl, hmap] at this
                refine this.mono ?_
                rintro e w' ⟨rfl, hbel⟩
                refine ⟨_, rfl, μ, ?_, hr.below hbel, Ext.of_below hbel⟩
                simp only [VR]
                rw [joinL_eq]
theorem natOK {cmp : List TypeId} : NativeOK (envOf Tryd.prog cmp nat) Tryd.prog := by
  intro f g hg args h v h' hx μ w args' hr hv
  have hg' : nat f = some g := hg
  unfold nat at hg'
  cases hf : Nat.beq f 27 with
  | false => simp [hf] at hg'
  | true =>
    simp only [hf, cond_true, Option.some.injEq] at hg'
    subst hg'
    have : f = 27 := Nat.eq_of_beq_eq_true hf
    subst this
    refine .inr ?_
    unfold joinN at hx
    split at hx
    · rename_i a l c z sep
      cases hj : joinF ⟨a, l, c, z⟩ sep h with
      | none => simp [hj] at hx
      | some p =>
        obtain ⟨s, h2⟩ := p
        simp only [hj, Option.some.injEq, Prod.mk.injEq] at hx
        obtain ⟨rfl, rfl⟩ := hx
        exact join_ok hj hr hv
    · cases hx
theorem f27_ok (N : Nat) : FnOK Tryd.prog 27 [(.one .slice), (.one .str)] (.val (.one .str)) (fun x h => joinF x.1 x.2.1 h) := by
  intro xs h r h' hx μ w args' hr hv
  exact join_ok hx hr hv
end Go.Proofs.YtjeaammlambkeaaDoor.Nj

open Go Go.Proofs.YtjeaammlambkeaaDoor.Ai Go.Proofs
open Go.RowKit (Below)
open Go.ChangeShapes Go.WideShapes
namespace Go.Proofs.YtjeaammlambkeaaDoor.Nj
/-! strconv.Itoa, by the library's contract: the table that it reads stands in the heap's pinned block -/
def tab : List AV := Lib.pow10Tab.map (AV.int .u64)
def gTab : Nat := 1
theorem gTab_is : Tryd.prog.globalNamed "internal/strconv.uint64pow10" = some gTab := by kernel_rfl
def tabLoc : Ai.Loc := ⟨gTab, 0, 20, false⟩
theorem tab_len : tab.length = 20 := by unfold tab; rw [List.length_map, Lib.pow10Tab_length]
theorem tabIs_of {μ : Mu} {h : Heap} {w : World} (hr : HR μ h w) (hp : (0, tabLoc) ∈ h.pins) (hg : h.t.get 0 = some (.row tab .ro)) : Lib.TabIs Tryd.prog w "internal/strconv.uint64pow10" .u64 Lib.pow10Tab := by
  have hμ := hr.pin _ hp
  have hb : RowR μ w tabLoc tab := hr.blk 0 tabLoc _ hμ hg
  unfold Lib.TabIs World.var?
  rw [gTab_is]
  obtain ⟨e, hs⟩ := hb.shape
  have hs' : w.shape? gTab = some (e, 20) := hs
  unfold World.shape? at hs'
  have hc : ∀ (i : Nat) (x : AV), tab[i]? = some x → ∃ y, w.cell? ⟨gTab, 0 + i, none⟩ = some y ∧ VR μ x y := hb.cell
  simp only [World.cell?] at hc
  show (match w.heap[gTab]? with | some (.cells cs _ _) => some cs | _ => none) = _
  cases hq : w.heap[gTab]? with
  | none => rw [hq] at hs'; cases hs'
  | some o =>
    rw [hq] at hs' hc
    cases o with
    | cells cs t fz =>
      simp only [Option.some.injEq, Prod.mk.injEq] at hs'
      simp only [Option.isSome_none, Bool.false_eq_true, if_false, Nat.zero_add] at hc
      simp only [Option.some.injEq]
      apply Array.ext'
      apply List.ext_getElem?
      intro i
      rw [Array.getElem?_toList]
      have hl := Lib.pow10Tab_length
      by_cases hi : i < 20
      · obtain ⟨y, h1, h2⟩ := hc i (AV.int .u64 (Lib.pow10Tab[i]'(by omega))) (by unfold tab; rw [List.getElem?_map, List.getElem?_eq_getElem (by omega)]; rfl)
        rw [h1]
        simp only [VR] at h2
        rw [h2, List.getElem?_map, List.getElem?_eq_getElem (by omega)]; rfl
      · rw [Array.getElem?_eq_none (by omega), List.getElem?_eq_none (by rw [List.length_map]; omega)]
    | _ => cases hs'
open Classical in
noncomputable def itoaF (i : Int) (h : Heap) : Option (List UInt8 × Heap) :=
  if (0, tabLoc) ∈ h.pins ∧ h.t.get 0 = some (.row tab .ro) ∧ -9223372036854775808 ≤ i ∧ i ≤ 9223372036854775807 then some (Lib.itoa i, h) else none
theorem f28_ok (N : Nat) : FnOK Tryd.prog 28 [.one (.int .i64)] (.val (.one .str)) (fun x h => itoaF x.1 h) := by
  rintro ⟨i, _⟩ h r h' hx μ w args' hr hv
  have hx : itoaF i h = some (r, h') := hx
  unfold itoaF at hx
  split at hx
  · rename_i hc
    obtain ⟨h1, h2, h3, h4⟩ := hc
    simp only [Option.some.injEq, Prod.mk.injEq] at hx
    obtain ⟨rfl, rfl⟩ := hx
    have ht := tabIs_of hr h1 h2
    refine ⟨enter_of env0 (fn := Tryd.f28) (by kernel_rfl) (by kernel_rfl) _ _, ?_⟩
    have hv' : VRs μ [.int .i64 i] args'.toList := hv
    simp only [VRs, VR] at hv'
    obtain ⟨y, ys, e1, rfl, rfl⟩ := hv'
    have ea : args' = #[.int .i64 i] := by rw [← Array.toList_inj, e1]
    subst ea
    refine (Tryd.strconv_Itoa i h3 h4 w ht).mono ?_
    rintro e w' ⟨rfl, k, os, rfl⟩
    have hbel := Lib.below_grow w.heap.size w (Nat.le_refl _) k os
    exact ⟨_, rfl, μ, by simp [Ty.to, VTy.to, CTy.to, VR], hr.below hbel, Ext.of_below hbel⟩
  · cases hx
end Go.Proofs.YtjeaammlambkeaaDoor.Nj

set_option maxRecDepth 100000
open Go Go.Proofs.YtjeaammlambkeaaDoor.Ai Go.Proofs
namespace Go.Proofs.YtjeaammlambkeaaDoor.Mq
noncomputable def E : Env := envOf Tryd.prog [] Nj.nat
theorem envOK : EnvOK E Tryd.prog := envOf_ok (by kernel_rfl) (by kernel_rfl)
theorem natOK : NativeOK E Tryd.prog := Nj.natOK
theorem hmix : Tryd.prog.follows .mixedOrders = true := by kernel_rfl
/- usufruct/usufructlaw16.told -/
noncomputable def f6 (N : Nat) (h : Heap) : Option (Bool × Heap) := some (true, h)
theorem f6_ok (N : Nat) : FnOK Tryd.prog 6 [] (.val (.one .bool)) (fun _ h => f6 N h) :=
  fnOK_told envOK (fn := Tryd.f6) (by kernel_rfl) (by kernel_rfl) (calls_true envOK hmix natOK (fn := Tryd.f6) (by kernel_rfl) (by kernel_rfl) (args := []) VRs.nil (n := 1000) (by kernel_rfl))

/- slices.Index[[]string,string] -/
noncomputable def f22_l1_b (N : Nat) (go : SL → List UInt8 → Int → Int → Int → Heap → Option (Out × (Int × Unit) × Heap)) (v0 : SL) (v1 : List UInt8) (v4 : Int) (v7 : Int) (v8 : Int) (h : Heap) : Option (Out × (Int × Unit) × Heap) :=
  let x1 : Bool := ltInt v8 v7
  (bif x1 then
   (ixK v0.a v0.len v8 1 fun q2 =>
   (bindV (.val (.one .str)) (h.cell q2) fun (x3 : List UInt8) =>
   let x4 : Bool := eqBytes v1 x3
   (bif x4 then
    some (Out.ret, (v8, ()), h)
   else
    let x5 : Int := wrapA .i64 (v8 + 1)
    go v0 v1 v4 v7 x5 h)))
  else
   some ((Out.exit 0), (v4, ()), h))
noncomputable def f22_l1 (N M : Nat) (v0 : SL) (v1 : List UInt8) (v4 : Int) (v7 : Int) (v8 : Int) (h : Heap) : Option (Out × (Int × Unit) × Heap) := iter (fun go s h => f22_l1_b N (fun v0 v1 v4 v7 v8 h => go (v0, v1, v4, v7, v8, ()) h) s.1 s.2.1 s.2.2.1 s.2.2.2.1 s.2.2.2.2.1 h) M (v0, v1, v4, v7, v8, ()) h
theorem f22_l1_succ (N M : Nat) (v0 : SL) (v1 : List UInt8) (v4 : Int) (v7 : Int) (v8 : Int) (h : Heap) : f22_l1 N (M + 1) v0 v1 v4 v7 v8 h = f22_l1_b N (f22_l1 N M) v0 v1 v4 v7 v8 h := rfl
theorem f22_l1_zero (N : Nat) (v0 : SL) (v1 : List UInt8) (v4 : Int) (v7 : Int) (v8 : Int) (h : Heap) : f22_l1 N 0 v0 v1 v4 v7 v8 h = none := rfl
noncomputable def f22 (N : Nat) (a0 : SL) (a1 : List UInt8) (h : Heap) : Option (Int × Heap) :=
  (bind3 (f22_l1 N N a0 a1 0 (Int.ofNat a0.len) 0 h) fun o6 (j7 : (Int × Unit)) h8 =>
  (bif eqOut o6 (.exit 0) then
   some ((-1), h8)
  else
   some (j7.1, h8)))
noncomputable def ann22 : Ann := (.two .n (.two (.two .n (.two (.loop [(0, (.one .slice)), (1, (.one .str)), (4, (.one (.int .i64))), (7, (.one (.int .i64))), (8, (.one (.int .i64)))] [(.exit 0), .ret] [(4, (.one (.int .i64)))] .n) .n)) .n))
theorem f22_ok (N : Nat) : FnOK Tryd.prog 22 [(.one .slice), (.one .str)] (.val (.one (.int .i64))) (fun x h => f22 N x.1 x.2.1 h) :=
  runK_ok envOK hmix noCalls_ok (N := N) (x := ann22) (fn := Tryd.f22) (c := Tryd.f22.body.getD .skip) (by kernel_rfl) (by kernel_rfl) (by kernel_rfl) (by kernel_rfl) (fun _ _ => by kernel_rfl)

/- usufruct/mir.Front -/
noncomputable def f7 (N : Nat) (a0 : (Int × SL × Unit)) (h : Heap) : Option ((Int × SL × Unit) × Heap) :=
  let h1 : Heap := h.push (.row [(.int .i64 a0.1), (.slice a0.2.1.a a0.2.1.len a0.2.1.cap a0.2.1.sz)] .own)
  let h2 : Heap := h1.push (.row [(.int .i64 0), (.slice none 0 0 0)] .own)
  (bindV (.val (.one .slice)) (h2.cell ((h.next, 0).1, (h.next, 0).2 + 1)) fun (x3 : SL) =>
  (bind2 (f22 N x3 [42] h2) fun (x4 : Int) h5 =>
  (bind2 (α := (Option (Nat × Nat) × Option (Nat × Nat) × Int × Unit)) (
   let x6 : Bool := ltInt x4 0
   (bif x6 then
    (bindV (.val (.one .slice)) (h5.cell ((h.next, 0).1, (h.next, 0).2 + 1)) fun (x7 : SL) =>
    some (((some (h.next, 0)), (some (h1.next, 0)), (Int.ofNat x7.len), ()), h5))
   else
    some (((some (h.next, 0)), (some (h1.next, 0)), x4, ()), h5))) fun (j8 : (Option (Nat × Nat) × Option (Nat × Nat) × Int × Unit)) h9 =>
  (need j8.1 fun q10 =>
  (bindV (.val (.one (.int .i64))) (h9.cell (q10.1, q10.2 + 0)) fun (x11 : Int) =>
  (need j8.1 fun q12 =>
  (bindV (.val (.one .slice)) (h9.cell (q12.1, q12.2 + 1)) fun (x13 : SL) =>
  (bindV (.val (.one .slice)) (sliceA E h9 22 (.slice x13.a x13.len x13.cap x13.sz) none (some (.int .i64 j8.2.2.1))) fun (x14 : SL) =>
  (bindT (.val (.one .slice)) (appendA E 22 22 (.slice none 0 0 0) (.slice x14.a x14.len x14.cap x14.sz) h9) fun (x15 : SL) h16 =>
  (need j8.2.1 fun q18 =>
  (need (h16.store q18 [(.int .i64 x11), (.slice x15.a x15.len x15.cap x15.sz)]) fun h17 =>
  (guardB (bif (sameO (h9.cell (q12.1, q12.2 + 1)) (.slice x13.a x13.len x13.cap x13.sz)) then (bif (sameO (h16.cell (q10.1, q10.2 + 0)) (.int .i64 x11)) then (bif (sameO (h9.cell (q10.1, q10.2 + 0)) (.int .i64 x11)) then true else false) else false) else false) (
  (need j8.2.1 fun q19 =>
  (bindV (.val (.agg [(.int .i64), .slice])) (h17.cells q19 2) fun (x20 : (Int × SL × Unit)) =>
  some ((x20.1, x20.2.1, ()), h17))))))))))))))))
noncomputable def ann7 : Ann := (.two .n (.two .n (.two (.join [(1, (.one .ptr)), (2, (.one .ptr)), (3, (.one (.int .i64)))] .n) .n)))
theorem f7_ok (N : Nat) : FnOK Tryd.prog 7 [(.agg [(.int .i64), .slice])] (.val (.agg [(.int .i64), .slice])) (fun x h => f7 N x.1 h) :=
  runK_ok envOK hmix (addCall_ok (f22_ok N) noCalls_ok) (N := N) (x := ann7) (fn := Tryd.f7) (c := Tryd.f7.body.getD .skip) (by kernel_rfl) (by kernel_rfl) (by kernel_rfl) (by kernel_rfl) (fun _ _ => by kernel_rfl)

/- usufruct/usufructref16.Front -/
noncomputable def f8_l1_b (N : Nat) (go : Option (Nat × Nat) → Option (Nat × Nat) → Int → Heap → Option (Out × (Option (Nat × Nat) × Option (Nat × Nat) × Unit) × Heap)) (v1 : Option (Nat × Nat)) (v2 : Option (Nat × Nat)) (v3 : Int) (h : Heap) : Option (Out × (Option (Nat × Nat) × Option (Nat × Nat) × Unit) × Heap) :=
  (need v1 fun q3 =>
  (bindV (.val (.one .slice)) (h.cell (q3.1, q3.2 + 1)) fun (x4 : SL) =>
  let x5 : Bool := ltInt v3 (Int.ofNat x4.len)
  (bif x5 then
   (need v1 fun q6 =>
   (bindV (.val (.one .slice)) (h.cell (q6.1, q6.2 + 1)) fun (x7 : SL) =>
   (ixK x7.a x7.len v3 1 fun q8 =>
   (bindV (.val (.one .str)) (h.cell q8) fun (x9 : List UInt8) =>
   let x10 : Bool := eqBytes x9 [42]
   (bif x10 then
    (need v1 fun q11 =>
    (bindV (.val (.one (.int .i64))) (h.cell (q11.1, q11.2 + 0)) fun (x12 : Int) =>
    (need v1 fun q13 =>
    (bindV (.val (.one .slice)) (h.cell (q13.1, q13.2 + 1)) fun (x14 : SL) =>
    (bindV (.val (.one .slice)) (sliceA E h 22 (.slice x14.a x14.len x14.cap x14.sz) none (some (.int .i64 v3))) fun (x15 : SL) =>
    (need v2 fun q17 =>
    (need (h.store q17 [(.int .i64 x12), (.slice x15.a x15.len x15.cap x15.sz)]) fun h16 =>
    some (Out.ret, (v1, v2, ()), h16))))))))
   else
    let x18 : Int := wrapA .i64 (v3 + 1)
    go v1 v2 x18 h)))))
  else
   some ((Out.exit 0), (v1, v2, ()), h))))
noncomputable def f8_l1 (N M : Nat) (v1 : Option (Nat × Nat)) (v2 : Option (Nat × Nat)) (v3 : Int) (h : Heap) : Option (Out × (Option (Nat × Nat) × Option (Nat × Nat) × Unit) × Heap) := iter (fun go s h => f8_l1_b N (fun v1 v2 v3 h => go (v1, v2, v3, ()) h) s.1 s.2.1 s.2.2.1 h) M (v1, v2, v3, ()) h
theorem f8_l1_succ (N M : Nat) (v1 : Option (Nat × Nat)) (v2 : Option (Nat × Nat)) (v3 : Int) (h : Heap) : f8_l1 N (M + 1) v1 v2 v3 h = f8_l1_b N (f8_l1 N M) v1 v2 v3 h := rfl
theorem f8_l1_zero (N : Nat) (v1 : Option (Nat × Nat)) (v2 : Option (Nat × Nat)) (v3 : Int) (h : Heap) : f8_l1 N 0 v1 v2 v3 h = none := rfl
noncomputable def f8 (N : Nat) (a0 : (Int × SL × Unit)) (h : Heap) : Option ((Int × SL × Unit) × Heap) :=
  let h1 : Heap := h.push (.row [(.int .i64 a0.1), (.slice a0.2.1.a a0.2.1.len a0.2.1.cap a0.2.1.sz)] .own)
  let h2 : Heap := h1.push (.row [(.int .i64 0), (.slice none 0 0 0)] .own)
  (bind3 (f8_l1 N N (some (h.next, 0)) (some (h1.next, 0)) 0 h2) fun o19 (j20 : (Option (Nat × Nat) × Option (Nat × Nat) × Unit)) h21 =>
  (bif eqOut o19 (.exit 0) then
   (need j20.1 fun q22 =>
   (bindV (.val (.agg [(.int .i64), .slice])) (h21.cells q22 2) fun (x23 : (Int × SL × Unit)) =>
   (need j20.2.1 fun q25 =>
   (need (h21.store q25 [(.int .i64 x23.1), (.slice x23.2.1.a x23.2.1.len x23.2.1.cap x23.2.1.sz)]) fun h24 =>
   (need j20.2.1 fun q26 =>
   (bindV (.val (.agg [(.int .i64), .slice])) (h24.cells q26 2) fun (x27 : (Int × SL × Unit)) =>
   some ((x27.1, x27.2.1, ()), h24)))))))
  else
   (need j20.2.1 fun q28 =>
   (bindV (.val (.agg [(.int .i64), .slice])) (h21.cells q28 2) fun (x29 : (Int × SL × Unit)) =>
   some ((x29.1, x29.2.1, ()), h21)))))
noncomputable def ann8 : Ann := (.two .n (.two (.two .n (.two (.loop [(1, (.one .ptr)), (2, (.one .ptr)), (3, (.one (.int .i64)))] [(.exit 0), .ret] [(1, (.one .ptr)), (2, (.one .ptr))] .n) .n)) .n))
theorem f8_ok (N : Nat) : FnOK Tryd.prog 8 [(.agg [(.int .i64), .slice])] (.val (.agg [(.int .i64), .slice])) (fun x h => f8 N x.1 h) :=
  runK_ok envOK hmix noCalls_ok (N := N) (x := ann8) (fn := Tryd.f8) (c := Tryd.f8.body.getD .skip) (by kernel_rfl) (by kernel_rfl) (by kernel_rfl) (by kernel_rfl) (fun _ _ => by kernel_rfl)

/- slices.Equal[[]string,string] -/
noncomputable def f23_l1_b (N : Nat) (go : SL → SL → Bool → Int → Int → Heap → Option (Out × (Bool × Unit) × Heap)) (v0 : SL) (v1 : SL) (v4 : Bool) (v12 : Int) (v13 : Int) (h : Heap) : Option (Out × (Bool × Unit) × Heap) :=
  let x2 : Bool := ltInt v13 v12
  (bif x2 then
   (ixK v0.a v0.len v13 1 fun q3 =>
   (bindV (.val (.one .str)) (h.cell q3) fun (x4 : List UInt8) =>
   (ixK v1.a v1.len v13 1 fun q5 =>
   (bindV (.val (.one .str)) (h.cell q5) fun (x6 : List UInt8) =>
   let x7 : Bool := !eqBytes x4 x6
   (bif x7 then
    some (Out.ret, (false, ()), h)
   else
    let x8 : Int := wrapA .i64 (v13 + 1)
    go v0 v1 v4 v12 x8 h)))))
  else
   some ((Out.exit 0), (v4, ()), h))
noncomputable def f23_l1 (N M : Nat) (v0 : SL) (v1 : SL) (v4 : Bool) (v12 : Int) (v13 : Int) (h : Heap) : Option (Out × (Bool × Unit) × Heap) := iter (fun go s h => f23_l1_b N (fun v0 v1 v4 v12 v13 h => go (v0, v1, v4, v12, v13, ()) h) s.1 s.2.1 s.2.2.1 s.2.2.2.1 s.2.2.2.2.1 h) M (v0, v1, v4, v12, v13, ()) h
theorem f23_l1_succ (N M : Nat) (v0 : SL) (v1 : SL) (v4 : Bool) (v12 : Int) (v13 : Int) (h : Heap) : f23_l1 N (M + 1) v0 v1 v4 v12 v13 h = f23_l1_b N (f23_l1 N M) v0 v1 v4 v12 v13 h := rfl
theorem f23_l1_zero (N : Nat) (v0 : SL) (v1 : SL) (v4 : Bool) (v12 : Int) (v13 : Int) (h : Heap) : f23_l1 N 0 v0 v1 v4 v12 v13 h = none := rfl
noncomputable def f23 (N : Nat) (a0 : SL) (a1 : SL) (h : Heap) : Option (Bool × Heap) :=
  let x1 : Bool := !eqInt (Int.ofNat a0.len) (Int.ofNat a1.len)
  (bif x1 then
   some (false, h)
  else
   (bind3 (f23_l1 N N a0 a1 false (Int.ofNat a0.len) 0 h) fun o9 (j10 : (Bool × Unit)) h11 =>
   (bif eqOut o9 (.exit 0) then
    some (true, h11)
   else
    some (j10.1, h11))))
noncomputable def ann23 : Ann := (.two .n (.two .n (.two (.two .n (.two (.loop [(0, (.one .slice)), (1, (.one .slice)), (4, (.one .bool)), (12, (.one (.int .i64))), (13, (.one (.int .i64)))] [(.exit 0), .ret] [(4, (.one .bool))] .n) .n)) .n)))
theorem f23_ok (N : Nat) : FnOK Tryd.prog 23 [(.one .slice), (.one .slice)] (.val (.one .bool)) (fun x h => f23 N x.1 x.2.1 h) :=
  runK_ok envOK hmix noCalls_ok (N := N) (x := ann23) (fn := Tryd.f23) (c := Tryd.f23.body.getD .skip) (by kernel_rfl) (by kernel_rfl) (by kernel_rfl) (by kernel_rfl) (fun _ _ => by kernel_rfl)

/- usufruct/mir.Prefix -/
noncomputable def f9 (N : Nat) (a0 : (Int × SL × Unit)) (a1 : (Int × SL × Unit)) (h : Heap) : Option (Bool × Heap) :=
  let h1 : Heap := h.push (.row [(.int .i64 a0.1), (.slice a0.2.1.a a0.2.1.len a0.2.1.cap a0.2.1.sz)] .own)
  let h2 : Heap := h1.push (.row [(.int .i64 a1.1), (.slice a1.2.1.a a1.2.1.len a1.2.1.cap a1.2.1.sz)] .own)
  (bindV (.val (.one (.int .i64))) (h2.cell ((h.next, 0).1, (h.next, 0).2 + 0)) fun (x3 : Int) =>
  (bindV (.val (.one (.int .i64))) (h2.cell ((h1.next, 0).1, (h1.next, 0).2 + 0)) fun (x4 : Int) =>
  let x5 : Bool := eqInt x3 x4
  (bif x5 then
   (bindV (.val (.one .slice)) (h2.cell ((h.next, 0).1, (h.next, 0).2 + 1)) fun (x6 : SL) =>
   (bindV (.val (.one .slice)) (h2.cell ((h1.next, 0).1, (h1.next, 0).2 + 1)) fun (x7 : SL) =>
   let x8 : Bool := leInt (Int.ofNat x6.len) (Int.ofNat x7.len)
   (bif x8 then
    (bindV (.val (.one .slice)) (h2.cell ((h.next, 0).1, (h.next, 0).2 + 1)) fun (x9 : SL) =>
    (bindV (.val (.one .slice)) (h2.cell ((h1.next, 0).1, (h1.next, 0).2 + 1)) fun (x10 : SL) =>
    (bindV (.val (.one .slice)) (h2.cell ((h.next, 0).1, (h.next, 0).2 + 1)) fun (x11 : SL) =>
    (bindV (.val (.one .slice)) (sliceA E h2 22 (.slice x10.a x10.len x10.cap x10.sz) none (some (.int .i64 (Int.ofNat x11.len)))) fun (x12 : SL) =>
    (bind2 (f23 N x9 x12 h2) fun (x13 : Bool) h14 =>
    some (x13, h14))))))
   else
    some (false, h2))))
  else
   some (false, h2))))
noncomputable def ann9 : Ann := .n
theorem f9_ok (N : Nat) : FnOK Tryd.prog 9 [(.agg [(.int .i64), .slice]), (.agg [(.int .i64), .slice])] (.val (.one .bool)) (fun x h => f9 N x.1 x.2.1 h) :=
  runK_ok envOK hmix (addCall_ok (f23_ok N) noCalls_ok) (N := N) (x := ann9) (fn := Tryd.f9) (c := Tryd.f9.body.getD .skip) (by kernel_rfl) (by kernel_rfl) (by kernel_rfl) (by kernel_rfl) (fun _ _ => by kernel_rfl)

/- usufruct/usufructref16.Prefix -/
noncomputable def f10_l1_b (N : Nat) (go : Option (Nat × Nat) → Option (Nat × Nat) → Bool → Int → Heap → Option (Out × (Bool × Unit) × Heap)) (v2 : Option (Nat × Nat)) (v3 : Option (Nat × Nat)) (v4 : Bool) (v5 : Int) (h : Heap) : Option (Out × (Bool × Unit) × Heap) :=
  (need v2 fun q9 =>
  (bindV (.val (.one .slice)) (h.cell (q9.1, q9.2 + 1)) fun (x10 : SL) =>
  let x11 : Bool := ltInt v5 (Int.ofNat x10.len)
  (bif x11 then
   (need v2 fun q12 =>
   (bindV (.val (.one .slice)) (h.cell (q12.1, q12.2 + 1)) fun (x13 : SL) =>
   (ixK x13.a x13.len v5 1 fun q14 =>
   (bindV (.val (.one .str)) (h.cell q14) fun (x15 : List UInt8) =>
   (need v3 fun q16 =>
   (bindV (.val (.one .slice)) (h.cell (q16.1, q16.2 + 1)) fun (x17 : SL) =>
   (ixK x17.a x17.len v5 1 fun q18 =>
   (bindV (.val (.one .str)) (h.cell q18) fun (x19 : List UInt8) =>
   let x20 : Bool := !eqBytes x15 x19
   (bif x20 then
    some (Out.ret, (false, ()), h)
   else
    let x21 : Int := wrapA .i64 (v5 + 1)
    go v2 v3 v4 x21 h)))))))))
  else
   some ((Out.exit 0), (v4, ()), h))))
noncomputable def f10_l1 (N M : Nat) (v2 : Option (Nat × Nat)) (v3 : Option (Nat × Nat)) (v4 : Bool) (v5 : Int) (h : Heap) : Option (Out × (Bool × Unit) × Heap) := iter (fun go s h => f10_l1_b N (fun v2 v3 v4 v5 h => go (v2, v3, v4, v5, ()) h) s.1 s.2.1 s.2.2.1 s.2.2.2.1 h) M (v2, v3, v4, v5, ()) h
theorem f10_l1_succ (N M : Nat) (v2 : Option (Nat × Nat)) (v3 : Option (Nat × Nat)) (v4 : Bool) (v5 : Int) (h : Heap) : f10_l1 N (M + 1) v2 v3 v4 v5 h = f10_l1_b N (f10_l1 N M) v2 v3 v4 v5 h := rfl
theorem f10_l1_zero (N : Nat) (v2 : Option (Nat × Nat)) (v3 : Option (Nat × Nat)) (v4 : Bool) (v5 : Int) (h : Heap) : f10_l1 N 0 v2 v3 v4 v5 h = none := rfl
noncomputable def f10 (N : Nat) (a0 : (Int × SL × Unit)) (a1 : (Int × SL × Unit)) (h : Heap) : Option (Bool × Heap) :=
  let h1 : Heap := h.push (.row [(.int .i64 a0.1), (.slice a0.2.1.a a0.2.1.len a0.2.1.cap a0.2.1.sz)] .own)
  let h2 : Heap := h1.push (.row [(.int .i64 a1.1), (.slice a1.2.1.a a1.2.1.len a1.2.1.cap a1.2.1.sz)] .own)
  (bindV (.val (.one (.int .i64))) (h2.cell ((h.next, 0).1, (h.next, 0).2 + 0)) fun (x3 : Int) =>
  (bindV (.val (.one (.int .i64))) (h2.cell ((h1.next, 0).1, (h1.next, 0).2 + 0)) fun (x4 : Int) =>
  let x5 : Bool := !eqInt x3 x4
  (bif x5 then
   some (false, h2)
  else
   (bindV (.val (.one .slice)) (h2.cell ((h.next, 0).1, (h.next, 0).2 + 1)) fun (x6 : SL) =>
   (bindV (.val (.one .slice)) (h2.cell ((h1.next, 0).1, (h1.next, 0).2 + 1)) fun (x7 : SL) =>
   let x8 : Bool := ltInt (Int.ofNat x7.len) (Int.ofNat x6.len)
   (bif x8 then
    some (false, h2)
   else
    (bind3 (f10_l1 N N (some (h.next, 0)) (some (h1.next, 0)) false 0 h2) fun o22 (j23 : (Bool × Unit)) h24 =>
    (bif eqOut o22 (.exit 0) then
     some (true, h24)
    else
     some (j23.1, h24)))))))))
noncomputable def ann10 : Ann := (.two .n (.two .n (.two (.two .n (.two (.loop [(2, (.one .ptr)), (3, (.one .ptr)), (4, (.one .bool)), (5, (.one (.int .i64)))] [(.exit 0), .ret] [(4, (.one .bool))] .n) .n)) .n)))
theorem f10_ok (N : Nat) : FnOK Tryd.prog 10 [(.agg [(.int .i64), .slice]), (.agg [(.int .i64), .slice])] (.val (.one .bool)) (fun x h => f10 N x.1 x.2.1 h) :=
  runK_ok envOK hmix noCalls_ok (N := N) (x := ann10) (fn := Tryd.f10) (c := Tryd.f10.body.getD .skip) (by kernel_rfl) (by kernel_rfl) (by kernel_rfl) (by kernel_rfl) (fun _ _ => by kernel_rfl)

/- slices.Contains[[]string,string] -/
noncomputable def f24 (N : Nat) (a0 : SL) (a1 : List UInt8) (h : Heap) : Option (Bool × Heap) :=
  (bind2 (f22 N a0 a1 h) fun (x1 : Int) h2 =>
  let x3 : Bool := leInt 0 x1
  some (x3, h2))
noncomputable def ann24 : Ann := .n
theorem f24_ok (N : Nat) : FnOK Tryd.prog 24 [(.one .slice), (.one .str)] (.val (.one .bool)) (fun x h => f24 N x.1 x.2.1 h) :=
  runK_ok envOK hmix (addCall_ok (f22_ok N) noCalls_ok) (N := N) (x := ann24) (fn := Tryd.f24) (c := Tryd.f24.body.getD .skip) (by kernel_rfl) (by kernel_rfl) (by kernel_rfl) (by kernel_rfl) (fun _ _ => by kernel_rfl)

/- usufruct/mir.Shallow -/
noncomputable def f11 (N : Nat) (a0 : (Int × SL × Unit)) (a1 : (Int × SL × Unit)) (h : Heap) : Option (Bool × Heap) :=
  let h1 : Heap := h.push (.row [(.int .i64 a0.1), (.slice a0.2.1.a a0.2.1.len a0.2.1.cap a0.2.1.sz)] .own)
  let h2 : Heap := h1.push (.row [(.int .i64 a1.1), (.slice a1.2.1.a a1.2.1.len a1.2.1.cap a1.2.1.sz)] .own)
  (bindV (.val (.agg [(.int .i64), .slice])) (h2.cells (h.next, 0) 2) fun (x3 : (Int × SL × Unit)) =>
  (bindV (.val (.agg [(.int .i64), .slice])) (h2.cells (h1.next, 0) 2) fun (x4 : (Int × SL × Unit)) =>
  (bind2 (f9 N (x3.1, x3.2.1, ()) (x4.1, x4.2.1, ()) h2) fun (x5 : Bool) h6 =>
  (bif x5 then
   (bindV (.val (.one .slice)) (h6.cell ((h1.next, 0).1, (h1.next, 0).2 + 1)) fun (x7 : SL) =>
   (bindV (.val (.one .slice)) (h6.cell ((h.next, 0).1, (h.next, 0).2 + 1)) fun (x8 : SL) =>
   (bindV (.val (.one .slice)) (sliceA E h6 22 (.slice x7.a x7.len x7.cap x7.sz) (some (.int .i64 (Int.ofNat x8.len))) none) fun (x9 : SL) =>
   (bind2 (f24 N x9 [42] h6) fun (x10 : Bool) h11 =>
   let x12 : Bool := !x10
   some (x12, h11)))))
  else
   some (false, h6)))))
noncomputable def ann11 : Ann := .n
theorem f11_ok (N : Nat) : FnOK Tryd.prog 11 [(.agg [(.int .i64), .slice]), (.agg [(.int .i64), .slice])] (.val (.one .bool)) (fun x h => f11 N x.1 x.2.1 h) :=
  runK_ok envOK hmix (addCall_ok (f24_ok N) (addCall_ok (f9_ok N) noCalls_ok)) (N := N) (x := ann11) (fn := Tryd.f11) (c := Tryd.f11.body.getD .skip) (by kernel_rfl) (by kernel_rfl) (by kernel_rfl) (by kernel_rfl) (fun _ _ => by kernel_rfl)

/- usufruct/usufructref16.Shallow -/
noncomputable def f12_l1_b (N : Nat) (go : Option (Nat × Nat) → Bool → Int → Heap → Option (Out × (Bool × Unit) × Heap)) (v3 : Option (Nat × Nat)) (v4 : Bool) (v5 : Int) (h : Heap) : Option (Out × (Bool × Unit) × Heap) :=
  (need v3 fun q9 =>
  (bindV (.val (.one .slice)) (h.cell (q9.1, q9.2 + 1)) fun (x10 : SL) =>
  let x11 : Bool := ltInt v5 (Int.ofNat x10.len)
  (bif x11 then
   (need v3 fun q12 =>
   (bindV (.val (.one .slice)) (h.cell (q12.1, q12.2 + 1)) fun (x13 : SL) =>
   (ixK x13.a x13.len v5 1 fun q14 =>
   (bindV (.val (.one .str)) (h.cell q14) fun (x15 : List UInt8) =>
   let x16 : Bool := eqBytes x15 [42]
   (bif x16 then
    some (Out.ret, (false, ()), h)
   else
    let x17 : Int := wrapA .i64 (v5 + 1)
    go v3 v4 x17 h)))))
  else
   some ((Out.exit 0), (v4, ()), h))))
noncomputable def f12_l1 (N M : Nat) (v3 : Option (Nat × Nat)) (v4 : Bool) (v5 : Int) (h : Heap) : Option (Out × (Bool × Unit) × Heap) := iter (fun go s h => f12_l1_b N (fun v3 v4 v5 h => go (v3, v4, v5, ()) h) s.1 s.2.1 s.2.2.1 h) M (v3, v4, v5, ()) h
theorem f12_l1_succ (N M : Nat) (v3 : Option (Nat × Nat)) (v4 : Bool) (v5 : Int) (h : Heap) : f12_l1 N (M + 1) v3 v4 v5 h = f12_l1_b N (f12_l1 N M) v3 v4 v5 h := rfl
theorem f12_l1_zero (N : Nat) (v3 : Option (Nat × Nat)) (v4 : Bool) (v5 : Int) (h : Heap) : f12_l1 N 0 v3 v4 v5 h = none := rfl
noncomputable def f12 (N : Nat) (a0 : (Int × SL × Unit)) (a1 : (Int × SL × Unit)) (h : Heap) : Option (Bool × Heap) :=
  let h1 : Heap := h.push (.row [(.int .i64 a0.1), (.slice a0.2.1.a a0.2.1.len a0.2.1.cap a0.2.1.sz)] .own)
  let h2 : Heap := h1.push (.row [(.int .i64 a1.1), (.slice a1.2.1.a a1.2.1.len a1.2.1.cap a1.2.1.sz)] .own)
  (bindV (.val (.agg [(.int .i64), .slice])) (h2.cells (h.next, 0) 2) fun (x3 : (Int × SL × Unit)) =>
  (bindV (.val (.agg [(.int .i64), .slice])) (h2.cells (h1.next, 0) 2) fun (x4 : (Int × SL × Unit)) =>
  (bind2 (f10 N (x3.1, x3.2.1, ()) (x4.1, x4.2.1, ()) h2) fun (x5 : Bool) h6 =>
  let x7 : Bool := !x5
  (bif x7 then
   some (false, h6)
  else
   (bindV (.val (.one .slice)) (h6.cell ((h.next, 0).1, (h.next, 0).2 + 1)) fun (x8 : SL) =>
   (bind3 (f12_l1 N N (some (h1.next, 0)) false (Int.ofNat x8.len) h6) fun o18 (j19 : (Bool × Unit)) h20 =>
   (bif eqOut o18 (.exit 0) then
    some (true, h20)
   else
    some (j19.1, h20))))))))
noncomputable def ann12 : Ann := (.two .n (.two .n (.two (.two .n (.two (.loop [(3, (.one .ptr)), (4, (.one .bool)), (5, (.one (.int .i64)))] [(.exit 0), .ret] [(4, (.one .bool))] .n) .n)) .n)))
theorem f12_ok (N : Nat) : FnOK Tryd.prog 12 [(.agg [(.int .i64), .slice]), (.agg [(.int .i64), .slice])] (.val (.one .bool)) (fun x h => f12 N x.1 x.2.1 h) :=
  runK_ok envOK hmix (addCall_ok (f10_ok N) noCalls_ok) (N := N) (x := ann12) (fn := Tryd.f12) (c := Tryd.f12.body.getD .skip) (by kernel_rfl) (by kernel_rfl) (by kernel_rfl) (by kernel_rfl) (fun _ _ => by kernel_rfl)

/- usufruct/usufructref1.Texts -/
noncomputable def f45_l1_b (N : Nat) (go : SL → SL → Bool → Int → Heap → Option (Out × (Bool × Unit) × Heap)) (v0 : SL) (v1 : SL) (v4 : Bool) (v5 : Int) (h : Heap) : Option (Out × (Bool × Unit) × Heap) :=
  let x2 : Bool := ltInt v5 (Int.ofNat v0.len)
  (bif x2 then
   (ixK v0.a v0.len v5 1 fun q3 =>
   (bindV (.val (.one .str)) (h.cell q3) fun (x4 : List UInt8) =>
   (ixK v1.a v1.len v5 1 fun q5 =>
   (bindV (.val (.one .str)) (h.cell q5) fun (x6 : List UInt8) =>
   let x7 : Bool := !eqBytes x4 x6
   (bif x7 then
    some (Out.ret, (false, ()), h)
   else
    let x8 : Int := wrapA .i64 (v5 + 1)
    go v0 v1 v4 x8 h)))))
  else
   some ((Out.exit 0), (v4, ()), h))
noncomputable def f45_l1 (N M : Nat) (v0 : SL) (v1 : SL) (v4 : Bool) (v5 : Int) (h : Heap) : Option (Out × (Bool × Unit) × Heap) := iter (fun go s h => f45_l1_b N (fun v0 v1 v4 v5 h => go (v0, v1, v4, v5, ()) h) s.1 s.2.1 s.2.2.1 s.2.2.2.1 h) M (v0, v1, v4, v5, ()) h
theorem f45_l1_succ (N M : Nat) (v0 : SL) (v1 : SL) (v4 : Bool) (v5 : Int) (h : Heap) : f45_l1 N (M + 1) v0 v1 v4 v5 h = f45_l1_b N (f45_l1 N M) v0 v1 v4 v5 h := rfl
theorem f45_l1_zero (N : Nat) (v0 : SL) (v1 : SL) (v4 : Bool) (v5 : Int) (h : Heap) : f45_l1 N 0 v0 v1 v4 v5 h = none := rfl
noncomputable def f45 (N : Nat) (a0 : SL) (a1 : SL) (h : Heap) : Option (Bool × Heap) :=
  let x1 : Bool := !eqInt (Int.ofNat a0.len) (Int.ofNat a1.len)
  (bif x1 then
   some (false, h)
  else
   (bind3 (f45_l1 N N a0 a1 false 0 h) fun o9 (j10 : (Bool × Unit)) h11 =>
   (bif eqOut o9 (.exit 0) then
    some (true, h11)
   else
    some (j10.1, h11))))
noncomputable def ann45 : Ann := (.two .n (.two .n (.two (.two .n (.two (.loop [(0, (.one .slice)), (1, (.one .slice)), (4, (.one .bool)), (5, (.one (.int .i64)))] [(.exit 0), .ret] [(4, (.one .bool))] .n) .n)) .n)))
theorem f45_ok (N : Nat) : FnOK Tryd.prog 45 [(.one .slice), (.one .slice)] (.val (.one .bool)) (fun x h => f45 N x.1 x.2.1 h) :=
  runK_ok envOK hmix noCalls_ok (N := N) (x := ann45) (fn := Tryd.f45) (c := Tryd.f45.body.getD .skip) (by kernel_rfl) (by kernel_rfl) (by kernel_rfl) (by kernel_rfl) (fun _ _ => by kernel_rfl)

/- usufruct/usufructref16.path -/
noncomputable def f25 (N : Nat) (a0 : (Int × SL × Unit)) (a1 : (Int × SL × Unit)) (h : Heap) : Option (Bool × Heap) :=
  let h1 : Heap := h.push (.row [(.int .i64 a0.1), (.slice a0.2.1.a a0.2.1.len a0.2.1.cap a0.2.1.sz)] .own)
  let h2 : Heap := h1.push (.row [(.int .i64 a1.1), (.slice a1.2.1.a a1.2.1.len a1.2.1.cap a1.2.1.sz)] .own)
  (bindV (.val (.one (.int .i64))) (h2.cell ((h.next, 0).1, (h.next, 0).2 + 0)) fun (x3 : Int) =>
  (bindV (.val (.one (.int .i64))) (h2.cell ((h1.next, 0).1, (h1.next, 0).2 + 0)) fun (x4 : Int) =>
  let x5 : Bool := eqInt x3 x4
  (bif x5 then
   (bindV (.val (.one .slice)) (h2.cell ((h.next, 0).1, (h.next, 0).2 + 1)) fun (x6 : SL) =>
   (bindV (.val (.one .slice)) (h2.cell ((h1.next, 0).1, (h1.next, 0).2 + 1)) fun (x7 : SL) =>
   (bind2 (f45 N x6 x7 h2) fun (x8 : Bool) h9 =>
   some (x8, h9))))
  else
   some (false, h2))))
noncomputable def ann25 : Ann := .n
theorem f25_ok (N : Nat) : FnOK Tryd.prog 25 [(.agg [(.int .i64), .slice]), (.agg [(.int .i64), .slice])] (.val (.one .bool)) (fun x h => f25 N x.1 x.2.1 h) :=
  runK_ok envOK hmix (addCall_ok (f45_ok N) noCalls_ok) (N := N) (x := ann25) (fn := Tryd.f25) (c := Tryd.f25.body.getD .skip) (by kernel_rfl) (by kernel_rfl) (by kernel_rfl) (by kernel_rfl) (fun _ _ => by kernel_rfl)

/- usufruct/usufructref16.Paths -/
noncomputable def f13_l1_b (N : Nat) (go : SL → SL → Bool → Int → Heap → Option (Out × (Bool × Unit) × Heap)) (v0 : SL) (v1 : SL) (v4 : Bool) (v5 : Int) (h : Heap) : Option (Out × (Bool × Unit) × Heap) :=
  let x2 : Bool := ltInt v5 (Int.ofNat v0.len)
  (bif x2 then
   (ixK v0.a v0.len v5 2 fun q3 =>
   (bindV (.val (.agg [(.int .i64), .slice])) (h.cells q3 2) fun (x4 : (Int × SL × Unit)) =>
   (ixK v1.a v1.len v5 2 fun q5 =>
   (bindV (.val (.agg [(.int .i64), .slice])) (h.cells q5 2) fun (x6 : (Int × SL × Unit)) =>
   (bind2 (f25 N (x4.1, x4.2.1, ()) (x6.1, x6.2.1, ()) h) fun (x7 : Bool) h8 =>
   let x9 : Bool := !x7
   (bif x9 then
    some (Out.ret, (false, ()), h8)
   else
    let x10 : Int := wrapA .i64 (v5 + 1)
    go v0 v1 v4 x10 h8))))))
  else
   some ((Out.exit 0), (v4, ()), h))
noncomputable def f13_l1 (N M : Nat) (v0 : SL) (v1 : SL) (v4 : Bool) (v5 : Int) (h : Heap) : Option (Out × (Bool × Unit) × Heap) := iter (fun go s h => f13_l1_b N (fun v0 v1 v4 v5 h => go (v0, v1, v4, v5, ()) h) s.1 s.2.1 s.2.2.1 s.2.2.2.1 h) M (v0, v1, v4, v5, ()) h
theorem f13_l1_succ (N M : Nat) (v0 : SL) (v1 : SL) (v4 : Bool) (v5 : Int) (h : Heap) : f13_l1 N (M + 1) v0 v1 v4 v5 h = f13_l1_b N (f13_l1 N M) v0 v1 v4 v5 h := rfl
theorem f13_l1_zero (N : Nat) (v0 : SL) (v1 : SL) (v4 : Bool) (v5 : Int) (h : Heap) : f13_l1 N 0 v0 v1 v4 v5 h = none := rfl
noncomputable def f13 (N : Nat) (a0 : SL) (a1 : SL) (h : Heap) : Option (Bool × Heap) :=
  let x1 : Bool := !eqInt (Int.ofNat a0.len) (Int.ofNat a1.len)
  (bif x1 then
   some (false, h)
  else
   (bind3 (f13_l1 N N a0 a1 false 0 h) fun o11 (j12 : (Bool × Unit)) h13 =>
   (bif eqOut o11 (.exit 0) then
    some (true, h13)
   else
    some (j12.1, h13))))
noncomputable def ann13 : Ann := (.two .n (.two .n (.two (.two .n (.two (.loop [(0, (.one .slice)), (1, (.one .slice)), (4, (.one .bool)), (5, (.one (.int .i64)))] [(.exit 0), .ret] [(4, (.one .bool))] .n) .n)) .n)))
theorem f13_ok (N : Nat) : FnOK Tryd.prog 13 [(.one .slice), (.one .slice)] (.val (.one .bool)) (fun x h => f13 N x.1 x.2.1 h) :=
  runK_ok envOK hmix (addCall_ok (f25_ok N) noCalls_ok) (N := N) (x := ann13) (fn := Tryd.f13) (c := Tryd.f13.body.getD .skip) (by kernel_rfl) (by kernel_rfl) (by kernel_rfl) (by kernel_rfl) (fun _ _ => by kernel_rfl)

/- cmp.isNaN[string] -/
noncomputable def f61 (N : Nat) (a0 : List UInt8) (h : Heap) : Option (Bool × Heap) :=
  let x1 : Bool := !eqBytes a0 a0
  some (x1, h)
noncomputable def ann61 : Ann := .n
theorem f61_ok (N : Nat) : FnOK Tryd.prog 61 [(.one .str)] (.val (.one .bool)) (fun x h => f61 N x.1 h) :=
  runK_ok envOK hmix noCalls_ok (N := N) (x := ann61) (fn := Tryd.f61) (c := Tryd.f61.body.getD .skip) (by kernel_rfl) (by kernel_rfl) (by kernel_rfl) (by kernel_rfl) (fun _ _ => by kernel_rfl)

/- cmp.Compare[string] -/
noncomputable def f46 (N : Nat) (a0 : List UInt8) (a1 : List UInt8) (h : Heap) : Option (Int × Heap) :=
  (bind2 (f61 N a0 h) fun (x1 : Bool) h2 =>
  (bind2 (f61 N a1 h2) fun (x3 : Bool) h4 =>
  (bif x1 then
   (bif x3 then
    some (0, h4)
   else
    some ((-1), h4))
  else
   (bif x3 then
    some (1, h4)
   else
    (bindV (.val (.one .bool)) (binStr .lss a0 a1) fun (x5 : Bool) =>
    (bif x5 then
     some ((-1), h4)
    else
     (bindV (.val (.one .bool)) (binStr .gtr a0 a1) fun (x6 : Bool) =>
     (bif x6 then
      some (1, h4)
     else
      some (0, h4)))))))))
noncomputable def ann46 : Ann := .n
theorem f46_ok (N : Nat) : FnOK Tryd.prog 46 [(.one .str), (.one .str)] (.val (.one (.int .i64))) (fun x h => f46 N x.1 x.2.1 h) :=
  runK_ok envOK hmix (addCall_ok (f61_ok N) noCalls_ok) (N := N) (x := ann46) (fn := Tryd.f46) (c := Tryd.f46.body.getD .skip) (by kernel_rfl) (by kernel_rfl) (by kernel_rfl) (by kernel_rfl) (fun _ _ => by kernel_rfl)

/- slices.Compare[[]string,string] -/
noncomputable def f26_l1_b (N : Nat) (go : SL → SL → Int → SL → Int → Int → Heap → Option (Out × (SL × SL × Int × Unit) × Heap)) (v0 : SL) (v1 : SL) (v4 : Int) (v9 : SL) (v10 : Int) (v11 : Int) (h : Heap) : Option (Out × (SL × SL × Int × Unit) × Heap) :=
  let x1 : Bool := ltInt v11 v10
  (bif x1 then
   (ixK v9.a v9.len v11 1 fun q2 =>
   (bindV (.val (.one .str)) (h.cell q2) fun (x3 : List UInt8) =>
   let x4 : Bool := leInt (Int.ofNat v1.len) v11
   (bif x4 then
    some (Out.ret, (v0, v1, 1, ()), h)
   else
    (ixK v1.a v1.len v11 1 fun q5 =>
    (bindV (.val (.one .str)) (h.cell q5) fun (x6 : List UInt8) =>
    (bind2 (f46 N x3 x6 h) fun (x7 : Int) h8 =>
    let x9 : Bool := !eqInt x7 0
    (bif x9 then
     some (Out.ret, (v0, v1, x7, ()), h8)
    else
     let x10 : Int := wrapA .i64 (v11 + 1)
     go v0 v1 v4 v9 v10 x10 h8)))))))
  else
   some ((Out.exit 0), (v0, v1, v4, ()), h))
noncomputable def f26_l1 (N M : Nat) (v0 : SL) (v1 : SL) (v4 : Int) (v9 : SL) (v10 : Int) (v11 : Int) (h : Heap) : Option (Out × (SL × SL × Int × Unit) × Heap) := iter (fun go s h => f26_l1_b N (fun v0 v1 v4 v9 v10 v11 h => go (v0, v1, v4, v9, v10, v11, ()) h) s.1 s.2.1 s.2.2.1 s.2.2.2.1 s.2.2.2.2.1 s.2.2.2.2.2.1 h) M (v0, v1, v4, v9, v10, v11, ()) h
theorem f26_l1_succ (N M : Nat) (v0 : SL) (v1 : SL) (v4 : Int) (v9 : SL) (v10 : Int) (v11 : Int) (h : Heap) : f26_l1 N (M + 1) v0 v1 v4 v9 v10 v11 h = f26_l1_b N (f26_l1 N M) v0 v1 v4 v9 v10 v11 h := rfl
theorem f26_l1_zero (N : Nat) (v0 : SL) (v1 : SL) (v4 : Int) (v9 : SL) (v10 : Int) (v11 : Int) (h : Heap) : f26_l1 N 0 v0 v1 v4 v9 v10 v11 h = none := rfl
noncomputable def f26 (N : Nat) (a0 : SL) (a1 : SL) (h : Heap) : Option (Int × Heap) :=
  (bind3 (f26_l1 N N a0 a1 0 a0 (Int.ofNat a0.len) 0 h) fun o11 (j12 : (SL × SL × Int × Unit)) h13 =>
  (bif eqOut o11 (.exit 0) then
   let x14 : Bool := ltInt (Int.ofNat j12.1.len) (Int.ofNat j12.2.1.len)
   (bif x14 then
    some ((-1), h13)
   else
    some (0, h13))
  else
   some (j12.2.2.1, h13)))
noncomputable def ann26 : Ann := (.two .n (.two (.two .n (.two (.loop [(0, (.one .slice)), (1, (.one .slice)), (4, (.one (.int .i64))), (9, (.one .slice)), (10, (.one (.int .i64))), (11, (.one (.int .i64)))] [(.exit 0), .ret] [(0, (.one .slice)), (1, (.one .slice)), (4, (.one (.int .i64)))] .n) .n)) .n))
theorem f26_ok (N : Nat) : FnOK Tryd.prog 26 [(.one .slice), (.one .slice)] (.val (.one (.int .i64))) (fun x h => f26 N x.1 x.2.1 h) :=
  runK_ok envOK hmix (addCall_ok (f46_ok N) noCalls_ok) (N := N) (x := ann26) (fn := Tryd.f26) (c := Tryd.f26.body.getD .skip) (by kernel_rfl) (by kernel_rfl) (by kernel_rfl) (by kernel_rfl) (fun _ _ => by kernel_rfl)

/- usufruct/mir.Less -/
noncomputable def f14 (N : Nat) (a0 : (Int × SL × Unit)) (a1 : (Int × SL × Unit)) (h : Heap) : Option (Bool × Heap) :=
  let h1 : Heap := h.push (.row [(.int .i64 a0.1), (.slice a0.2.1.a a0.2.1.len a0.2.1.cap a0.2.1.sz)] .own)
  let h2 : Heap := h1.push (.row [(.int .i64 a1.1), (.slice a1.2.1.a a1.2.1.len a1.2.1.cap a1.2.1.sz)] .own)
  (bindV (.val (.one (.int .i64))) (h2.cell ((h.next, 0).1, (h.next, 0).2 + 0)) fun (x3 : Int) =>
  (bindV (.val (.one (.int .i64))) (h2.cell ((h1.next, 0).1, (h1.next, 0).2 + 0)) fun (x4 : Int) =>
  let x5 : Bool := !eqInt x3 x4
  (bif x5 then
   (bindV (.val (.one (.int .i64))) (h2.cell ((h.next, 0).1, (h.next, 0).2 + 0)) fun (x6 : Int) =>
   (bindV (.val (.one (.int .i64))) (h2.cell ((h1.next, 0).1, (h1.next, 0).2 + 0)) fun (x7 : Int) =>
   let x8 : Bool := ltInt x6 x7
   some (x8, h2)))
  else
   (bindV (.val (.one .slice)) (h2.cell ((h.next, 0).1, (h.next, 0).2 + 1)) fun (x9 : SL) =>
   (bindV (.val (.one .slice)) (h2.cell ((h1.next, 0).1, (h1.next, 0).2 + 1)) fun (x10 : SL) =>
   (bind2 (f26 N x9 x10 h2) fun (x11 : Int) h12 =>
   let x13 : Bool := ltInt x11 0
   some (x13, h12)))))))
noncomputable def ann14 : Ann := .n
theorem f14_ok (N : Nat) : FnOK Tryd.prog 14 [(.agg [(.int .i64), .slice]), (.agg [(.int .i64), .slice])] (.val (.one .bool)) (fun x h => f14 N x.1 x.2.1 h) :=
  runK_ok envOK hmix (addCall_ok (f26_ok N) noCalls_ok) (N := N) (x := ann14) (fn := Tryd.f14) (c := Tryd.f14.body.getD .skip) (by kernel_rfl) (by kernel_rfl) (by kernel_rfl) (by kernel_rfl) (fun _ _ => by kernel_rfl)

/- usufruct/usufructref16.Less -/
noncomputable def f15_l1_b (N : Nat) (go : Option (Nat × Nat) → Option (Nat × Nat) → Bool → Int → Heap → Option (Out × (Option (Nat × Nat) × Option (Nat × Nat) × Bool × Unit) × Heap)) (v2 : Option (Nat × Nat)) (v3 : Option (Nat × Nat)) (v4 : Bool) (v5 : Int) (h : Heap) : Option (Out × (Option (Nat × Nat) × Option (Nat × Nat) × Bool × Unit) × Heap) :=
  (need v2 fun q9 =>
  (bindV (.val (.one .slice)) (h.cell (q9.1, q9.2 + 1)) fun (x10 : SL) =>
  let x11 : Bool := ltInt v5 (Int.ofNat x10.len)
  (bif x11 then
   (need v3 fun q12 =>
   (bindV (.val (.one .slice)) (h.cell (q12.1, q12.2 + 1)) fun (x13 : SL) =>
   let x14 : Bool := ltInt v5 (Int.ofNat x13.len)
   (bif x14 then
    (need v2 fun q15 =>
    (bindV (.val (.one .slice)) (h.cell (q15.1, q15.2 + 1)) fun (x16 : SL) =>
    (ixK x16.a x16.len v5 1 fun q17 =>
    (bindV (.val (.one .str)) (h.cell q17) fun (x18 : List UInt8) =>
    (need v3 fun q19 =>
    (bindV (.val (.one .slice)) (h.cell (q19.1, q19.2 + 1)) fun (x20 : SL) =>
    (ixK x20.a x20.len v5 1 fun q21 =>
    (bindV (.val (.one .str)) (h.cell q21) fun (x22 : List UInt8) =>
    let x23 : Bool := !eqBytes x18 x22
    (bif x23 then
     (need v2 fun q24 =>
     (bindV (.val (.one .slice)) (h.cell (q24.1, q24.2 + 1)) fun (x25 : SL) =>
     (ixK x25.a x25.len v5 1 fun q26 =>
     (bindV (.val (.one .str)) (h.cell q26) fun (x27 : List UInt8) =>
     (need v3 fun q28 =>
     (bindV (.val (.one .slice)) (h.cell (q28.1, q28.2 + 1)) fun (x29 : SL) =>
     (ixK x29.a x29.len v5 1 fun q30 =>
     (bindV (.val (.one .str)) (h.cell q30) fun (x31 : List UInt8) =>
     (bindV (.val (.one .bool)) (binStr .lss x27 x31) fun (x32 : Bool) =>
     some (Out.ret, (v2, v3, x32, ()), h))))))))))
    else
     let x33 : Int := wrapA .i64 (v5 + 1)
     go v2 v3 v4 x33 h)))))))))
   else
    some ((Out.exit 0), (v2, v3, v4, ()), h))))
  else
   some ((Out.exit 0), (v2, v3, v4, ()), h))))
noncomputable def f15_l1 (N M : Nat) (v2 : Option (Nat × Nat)) (v3 : Option (Nat × Nat)) (v4 : Bool) (v5 : Int) (h : Heap) : Option (Out × (Option (Nat × Nat) × Option (Nat × Nat) × Bool × Unit) × Heap) := iter (fun go s h => f15_l1_b N (fun v2 v3 v4 v5 h => go (v2, v3, v4, v5, ()) h) s.1 s.2.1 s.2.2.1 s.2.2.2.1 h) M (v2, v3, v4, v5, ()) h
theorem f15_l1_succ (N M : Nat) (v2 : Option (Nat × Nat)) (v3 : Option (Nat × Nat)) (v4 : Bool) (v5 : Int) (h : Heap) : f15_l1 N (M + 1) v2 v3 v4 v5 h = f15_l1_b N (f15_l1 N M) v2 v3 v4 v5 h := rfl
theorem f15_l1_zero (N : Nat) (v2 : Option (Nat × Nat)) (v3 : Option (Nat × Nat)) (v4 : Bool) (v5 : Int) (h : Heap) : f15_l1 N 0 v2 v3 v4 v5 h = none := rfl
noncomputable def f15 (N : Nat) (a0 : (Int × SL × Unit)) (a1 : (Int × SL × Unit)) (h : Heap) : Option (Bool × Heap) :=
  let h1 : Heap := h.push (.row [(.int .i64 a0.1), (.slice a0.2.1.a a0.2.1.len a0.2.1.cap a0.2.1.sz)] .own)
  let h2 : Heap := h1.push (.row [(.int .i64 a1.1), (.slice a1.2.1.a a1.2.1.len a1.2.1.cap a1.2.1.sz)] .own)
  (bindV (.val (.one (.int .i64))) (h2.cell ((h.next, 0).1, (h.next, 0).2 + 0)) fun (x3 : Int) =>
  (bindV (.val (.one (.int .i64))) (h2.cell ((h1.next, 0).1, (h1.next, 0).2 + 0)) fun (x4 : Int) =>
  let x5 : Bool := !eqInt x3 x4
  (bif x5 then
   (bindV (.val (.one (.int .i64))) (h2.cell ((h.next, 0).1, (h.next, 0).2 + 0)) fun (x6 : Int) =>
   (bindV (.val (.one (.int .i64))) (h2.cell ((h1.next, 0).1, (h1.next, 0).2 + 0)) fun (x7 : Int) =>
   let x8 : Bool := ltInt x6 x7
   some (x8, h2)))
  else
   (bind3 (f15_l1 N N (some (h.next, 0)) (some (h1.next, 0)) false 0 h2) fun o34 (j35 : (Option (Nat × Nat) × Option (Nat × Nat) × Bool × Unit)) h36 =>
   (bif eqOut o34 (.exit 0) then
    (need j35.1 fun q37 =>
    (bindV (.val (.one .slice)) (h36.cell (q37.1, q37.2 + 1)) fun (x38 : SL) =>
    (need j35.2.1 fun q39 =>
    (bindV (.val (.one .slice)) (h36.cell (q39.1, q39.2 + 1)) fun (x40 : SL) =>
    let x41 : Bool := ltInt (Int.ofNat x38.len) (Int.ofNat x40.len)
    some (x41, h36)))))
   else
    some (j35.2.2.1, h36))))))
noncomputable def ann15 : Ann := (.two .n (.two .n (.two (.two .n (.two (.loop [(2, (.one .ptr)), (3, (.one .ptr)), (4, (.one .bool)), (5, (.one (.int .i64)))] [(.exit 0), .ret] [(2, (.one .ptr)), (3, (.one .ptr)), (4, (.one .bool))] .n) .n)) .n)))
theorem f15_ok (N : Nat) : FnOK Tryd.prog 15 [(.agg [(.int .i64), .slice]), (.agg [(.int .i64), .slice])] (.val (.one .bool)) (fun x h => f15 N x.1 x.2.1 h) :=
  runK_ok envOK hmix noCalls_ok (N := N) (x := ann15) (fn := Tryd.f15) (c := Tryd.f15.body.getD .skip) (by kernel_rfl) (by kernel_rfl) (by kernel_rfl) (by kernel_rfl) (fun _ _ => by kernel_rfl)

/- strconv.Itoa: by its contract -/
noncomputable def f28 (N : Nat) (a0 : Int) (h : Heap) : Option (List UInt8 × Heap) := Nj.itoaF a0 h
theorem f28_ok (N : Nat) : FnOK Tryd.prog 28 [(.one (.int .i64))] (.val (.one .str)) (fun x h => f28 N x.1 h) := Nj.f28_ok N

/- strings.Join: by its contract -/
noncomputable def f27 (N : Nat) (a0 : SL) (a1 : List UInt8) (h : Heap) : Option (List UInt8 × Heap) := Nj.joinF a0 a1 h
theorem f27_ok (N : Nat) : FnOK Tryd.prog 27 [(.one .slice), (.one .str)] (.val (.one .str)) (fun x h => f27 N x.1 x.2.1 h) := Nj.f27_ok N

/- usufruct/mir.Text -/
noncomputable def f16 (N : Nat) (a0 : (Int × SL × Unit)) (h : Heap) : Option (List UInt8 × Heap) :=
  let h1 : Heap := h.push (.row [(.int .i64 a0.1), (.slice a0.2.1.a a0.2.1.len a0.2.1.cap a0.2.1.sz)] .own)
  (bindV (.val (.one (.int .i64))) (h1.cell ((h.next, 0).1, (h.next, 0).2 + 0)) fun (x2 : Int) =>
  (bind2 (f28 N x2 h1) fun (x3 : List UInt8) h4 =>
  let h5 : Heap := h4.push (.row [(.str x3)] .own)
  (bindV (.val (.one .slice)) (h5.cell ((h.next, 0).1, (h.next, 0).2 + 1)) fun (x6 : SL) =>
  (bindT (.val (.one .slice)) (appendA E 22 22 (.slice (some (h4.next, 0)) 1 1 1) (.slice x6.a x6.len x6.cap x6.sz) h5) fun (x7 : SL) h8 =>
  (bind2 (f27 N x7 [46] h8) fun (x9 : List UInt8) h10 =>
  (guardB (bif (sameO (h5.cell ((h.next, 0).1, (h.next, 0).2 + 1)) (.slice x6.a x6.len x6.cap x6.sz)) then (bif (sameO (h4.cell ((h.next, 0).1, (h.next, 0).2 + 1)) (.slice x6.a x6.len x6.cap x6.sz)) then (bif (sameO (h1.cell ((h.next, 0).1, (h.next, 0).2 + 1)) (.slice x6.a x6.len x6.cap x6.sz)) then (bif (sameO (h1.cell ((h.next, 0).1, (h.next, 0).2 + 0)) (.int .i64 x2)) then true else false) else false) else false) else false) (
  some (x9, h10))))))))
noncomputable def ann16 : Ann := .n
theorem f16_ok (N : Nat) : FnOK Tryd.prog 16 [(.agg [(.int .i64), .slice])] (.val (.one .str)) (fun x h => f16 N x.1 h) :=
  runK_ok envOK hmix (addCall_ok (f28_ok N) (addCall_ok (f27_ok N) noCalls_ok)) (N := N) (x := ann16) (fn := Tryd.f16) (c := Tryd.f16.body.getD .skip) (by kernel_rfl) (by kernel_rfl) (by kernel_rfl) (by kernel_rfl) (fun _ _ => by kernel_rfl)

/- usufruct/usufructref16.Text -/
noncomputable def f17_l1_b (N : Nat) (go : Option (Nat × Nat) → List UInt8 → Int → Heap → Option (Out × (List UInt8 × Unit) × Heap)) (v1 : Option (Nat × Nat)) (v3 : List UInt8) (v4 : Int) (h : Heap) : Option (Out × (List UInt8 × Unit) × Heap) :=
  (need v1 fun q5 =>
  (bindV (.val (.one .slice)) (h.cell (q5.1, q5.2 + 1)) fun (x6 : SL) =>
  let x7 : Bool := ltInt v4 (Int.ofNat x6.len)
  (bif x7 then
   (bindV (.val (.one .str)) (binStr .add v3 [46]) fun (x8 : List UInt8) =>
   (need v1 fun q9 =>
   (bindV (.val (.one .slice)) (h.cell (q9.1, q9.2 + 1)) fun (x10 : SL) =>
   (ixK x10.a x10.len v4 1 fun q11 =>
   (bindV (.val (.one .str)) (h.cell q11) fun (x12 : List UInt8) =>
   (bindV (.val (.one .str)) (binStr .add x8 x12) fun (x13 : List UInt8) =>
   let x14 : Int := wrapA .i64 (v4 + 1)
   go v1 x13 x14 h))))))
  else
   some ((Out.exit 0), (v3, ()), h))))
noncomputable def f17_l1 (N M : Nat) (v1 : Option (Nat × Nat)) (v3 : List UInt8) (v4 : Int) (h : Heap) : Option (Out × (List UInt8 × Unit) × Heap) := iter (fun go s h => f17_l1_b N (fun v1 v3 v4 h => go (v1, v3, v4, ()) h) s.1 s.2.1 s.2.2.1 h) M (v1, v3, v4, ()) h
theorem f17_l1_succ (N M : Nat) (v1 : Option (Nat × Nat)) (v3 : List UInt8) (v4 : Int) (h : Heap) : f17_l1 N (M + 1) v1 v3 v4 h = f17_l1_b N (f17_l1 N M) v1 v3 v4 h := rfl
theorem f17_l1_zero (N : Nat) (v1 : Option (Nat × Nat)) (v3 : List UInt8) (v4 : Int) (h : Heap) : f17_l1 N 0 v1 v3 v4 h = none := rfl
noncomputable def f17 (N : Nat) (a0 : (Int × SL × Unit)) (h : Heap) : Option (List UInt8 × Heap) :=
  let h1 : Heap := h.push (.row [(.int .i64 a0.1), (.slice a0.2.1.a a0.2.1.len a0.2.1.cap a0.2.1.sz)] .own)
  (bindV (.val (.one (.int .i64))) (h1.cell ((h.next, 0).1, (h.next, 0).2 + 0)) fun (x2 : Int) =>
  (bind2 (f28 N x2 h1) fun (x3 : List UInt8) h4 =>
  (bind3 (f17_l1 N N (some (h.next, 0)) x3 0 h4) fun _ (j16 : (List UInt8 × Unit)) h17 =>
  some (j16.1, h17))))
noncomputable def ann17 : Ann := (.two .n (.two .n (.two (.two .n (.two (.loop [(1, (.one .ptr)), (3, (.one .str)), (4, (.one (.int .i64)))] [(.exit 0)] [(3, (.one .str))] .n) .n)) .n)))
theorem f17_ok (N : Nat) : FnOK Tryd.prog 17 [(.agg [(.int .i64), .slice])] (.val (.one .str)) (fun x h => f17 N x.1 h) :=
  runK_ok envOK hmix (addCall_ok (f28_ok N) noCalls_ok) (N := N) (x := ann17) (fn := Tryd.f17) (c := Tryd.f17.body.getD .skip) (by kernel_rfl) (by kernel_rfl) (by kernel_rfl) (by kernel_rfl) (fun _ _ => by kernel_rfl)

/- usufruct/usufructlaw16.MirPaths -/
noncomputable def f3 (N : Nat) (a0 : (Int × SL × Unit)) (a1 : (Int × SL × Unit)) (h : Heap) : Option (Bool × Heap) :=
  let h1 : Heap := h.push (.row [(.int .i64 a0.1), (.slice a0.2.1.a a0.2.1.len a0.2.1.cap a0.2.1.sz)] .own)
  let h2 : Heap := h1.push (.row [(.int .i64 a1.1), (.slice a1.2.1.a a1.2.1.len a1.2.1.cap a1.2.1.sz)] .own)
  (bindV (.val (.one .slice)) (h2.cell ((h.next, 0).1, (h.next, 0).2 + 1)) fun (x3 : SL) =>
  let x4 : Bool := ltInt 20 (Int.ofNat x3.len)
  (bif x4 then
   (bind2 (f6 N  h2) fun (x5 : Bool) h6 =>
   some (x5, h6))
  else
   (bindV (.val (.one .slice)) (h2.cell ((h1.next, 0).1, (h1.next, 0).2 + 1)) fun (x7 : SL) =>
   let x8 : Bool := ltInt 20 (Int.ofNat x7.len)
   (bif x8 then
    (bind2 (f6 N  h2) fun (x9 : Bool) h10 =>
    some (x9, h10))
   else
    (bindV (.val (.agg [(.int .i64), .slice])) (h2.cells (h.next, 0) 2) fun (x11 : (Int × SL × Unit)) =>
    (bind2 (f7 N (x11.1, x11.2.1, ()) h2) fun (x12 : (Int × SL × Unit)) h13 =>
    let h14 : Heap := h13.push (.row [(.int .i64 0), (.slice none 0 0 0)] .own)
    (need (h14.store (h13.next, 0) [(.int .i64 x12.1), (.slice x12.2.1.a x12.2.1.len x12.2.1.cap x12.2.1.sz)]) fun h15 =>
    (bindV (.val (.agg [(.int .i64), .slice])) (h15.cells (h.next, 0) 2) fun (x16 : (Int × SL × Unit)) =>
    (bind2 (f8 N (x16.1, x16.2.1, ()) h15) fun (x17 : (Int × SL × Unit)) h18 =>
    let h19 : Heap := h18.push (.row [(.int .i64 0), (.slice none 0 0 0)] .own)
    (need (h19.store (h18.next, 0) [(.int .i64 x17.1), (.slice x17.2.1.a x17.2.1.len x17.2.1.cap x17.2.1.sz)]) fun h20 =>
    (bind2 (f6 N  h20) fun (x21 : Bool) h22 =>
    (bif x21 then
     (bindV (.val (.agg [(.int .i64), .slice])) (h22.cells (h.next, 0) 2) fun (x23 : (Int × SL × Unit)) =>
     (bindV (.val (.agg [(.int .i64), .slice])) (h22.cells (h1.next, 0) 2) fun (x24 : (Int × SL × Unit)) =>
     (bind2 (f9 N (x23.1, x23.2.1, ()) (x24.1, x24.2.1, ()) h22) fun (x25 : Bool) h26 =>
     (bindV (.val (.agg [(.int .i64), .slice])) (h26.cells (h.next, 0) 2) fun (x27 : (Int × SL × Unit)) =>
     (bindV (.val (.agg [(.int .i64), .slice])) (h26.cells (h1.next, 0) 2) fun (x28 : (Int × SL × Unit)) =>
     (bind2 (f10 N (x27.1, x27.2.1, ()) (x28.1, x28.2.1, ()) h26) fun (x29 : Bool) h30 =>
     let x31 : Bool := (bif x25 then x29 else !x29)
     (bif x31 then
      (bindV (.val (.agg [(.int .i64), .slice])) (h30.cells (h.next, 0) 2) fun (x32 : (Int × SL × Unit)) =>
      (bindV (.val (.agg [(.int .i64), .slice])) (h30.cells (h1.next, 0) 2) fun (x33 : (Int × SL × Unit)) =>
      (bind2 (f11 N (x32.1, x32.2.1, ()) (x33.1, x33.2.1, ()) h30) fun (x34 : Bool) h35 =>
      (bindV (.val (.agg [(.int .i64), .slice])) (h35.cells (h.next, 0) 2) fun (x36 : (Int × SL × Unit)) =>
      (bindV (.val (.agg [(.int .i64), .slice])) (h35.cells (h1.next, 0) 2) fun (x37 : (Int × SL × Unit)) =>
      (bind2 (f12 N (x36.1, x36.2.1, ()) (x37.1, x37.2.1, ()) h35) fun (x38 : Bool) h39 =>
      let x40 : Bool := (bif x34 then x38 else !x38)
      (bif x40 then
       (bindV (.val (.agg [(.int .i64), .slice])) (h39.cells (h13.next, 0) 2) fun (x41 : (Int × SL × Unit)) =>
       let h42 : Heap := h39.push (.row [(.int .i64 x41.1), (.slice x41.2.1.a x41.2.1.len x41.2.1.cap x41.2.1.sz)] .own)
       (bindV (.val (.agg [(.int .i64), .slice])) (h42.cells (h18.next, 0) 2) fun (x43 : (Int × SL × Unit)) =>
       let h44 : Heap := h42.push (.row [(.int .i64 x43.1), (.slice x43.2.1.a x43.2.1.len x43.2.1.cap x43.2.1.sz)] .own)
       (bind2 (f13 N ⟨(some (h39.next, 0)), 1, 1, 2⟩ ⟨(some (h42.next, 0)), 1, 1, 2⟩ h44) fun (x45 : Bool) h46 =>
       (bif x45 then
        (bindV (.val (.agg [(.int .i64), .slice])) (h46.cells (h.next, 0) 2) fun (x47 : (Int × SL × Unit)) =>
        (bindV (.val (.agg [(.int .i64), .slice])) (h46.cells (h1.next, 0) 2) fun (x48 : (Int × SL × Unit)) =>
        (bind2 (f14 N (x47.1, x47.2.1, ()) (x48.1, x48.2.1, ()) h46) fun (x49 : Bool) h50 =>
        (bindV (.val (.agg [(.int .i64), .slice])) (h50.cells (h.next, 0) 2) fun (x51 : (Int × SL × Unit)) =>
        (bindV (.val (.agg [(.int .i64), .slice])) (h50.cells (h1.next, 0) 2) fun (x52 : (Int × SL × Unit)) =>
        (bind2 (f15 N (x51.1, x51.2.1, ()) (x52.1, x52.2.1, ()) h50) fun (x53 : Bool) h54 =>
        let x55 : Bool := (bif x49 then x53 else !x53)
        (bif x55 then
         (bindV (.val (.agg [(.int .i64), .slice])) (h54.cells (h.next, 0) 2) fun (x56 : (Int × SL × Unit)) =>
         (bind2 (f16 N (x56.1, x56.2.1, ()) h54) fun (x57 : List UInt8) h58 =>
         (bindV (.val (.agg [(.int .i64), .slice])) (h58.cells (h.next, 0) 2) fun (x59 : (Int × SL × Unit)) =>
         (bind2 (f17 N (x59.1, x59.2.1, ()) h58) fun (x60 : List UInt8) h61 =>
         let x62 : Bool := eqBytes x57 x60
         (guardB (bif (sameO (h61.cells (h.next, 0) 2) (.agg [(.int .i64 x59.1), (.slice x59.2.1.a x59.2.1.len x59.2.1.cap x59.2.1.sz)])) then (bif (sameO (h58.cells (h.next, 0) 2) (.agg [(.int .i64 x59.1), (.slice x59.2.1.a x59.2.1.len x59.2.1.cap x59.2.1.sz)])) then (bif (sameO (h54.cells (h.next, 0) 2) (.agg [(.int .i64 x59.1), (.slice x59.2.1.a x59.2.1.len x59.2.1.cap x59.2.1.sz)])) then (bif (sameO (h50.cells (h.next, 0) 2) (.agg [(.int .i64 x59.1), (.slice x59.2.1.a x59.2.1.len x59.2.1.cap x59.2.1.sz)])) then (bif (sameO (h46.cells (h.next, 0) 2) (.agg [(.int .i64 x59.1), (.slice x59.2.1.a x59.2.1.len x59.2.1.cap x59.2.1.sz)])) then (bif (sameO (h44.cells (h.next, 0) 2) (.agg [(.int .i64 x59.1), (.slice x59.2.1.a x59.2.1.len x59.2.1.cap x59.2.1.sz)])) then (bif (sameO (h42.cells (h.next, 0) 2) (.agg [(.int .i64 x59.1), (.slice x59.2.1.a x59.2.1.len x59.2.1.cap x59.2.1.sz)])) then (bif (sameO (h39.cells (h.next, 0) 2) (.agg [(.int .i64 x59.1), (.slice x59.2.1.a x59.2.1.len x59.2.1.cap x59.2.1.sz)])) then (bif (sameO (h35.cells (h.next, 0) 2) (.agg [(.int .i64 x59.1), (.slice x59.2.1.a x59.2.1.len x59.2.1.cap x59.2.1.sz)])) then (bif (sameO (h30.cells (h.next, 0) 2) (.agg [(.int .i64 x59.1), (.slice x59.2.1.a x59.2.1.len x59.2.1.cap x59.2.1.sz)])) then (bif (sameO (h26.cells (h.next, 0) 2) (.agg [(.int .i64 x59.1), (.slice x59.2.1.a x59.2.1.len x59.2.1.cap x59.2.1.sz)])) then (bif (sameO (h22.cells (h.next, 0) 2) (.agg [(.int .i64 x59.1), (.slice x59.2.1.a x59.2.1.len x59.2.1.cap x59.2.1.sz)])) then (bif (sameO (h20.cells (h.next, 0) 2) (.agg [(.int .i64 x59.1), (.slice x59.2.1.a x59.2.1.len x59.2.1.cap x59.2.1.sz)])) then (bif (sameO (h61.cells (h.next, 0) 2) (.agg [(.int .i64 x56.1), (.slice x56.2.1.a x56.2.1.len x56.2.1.cap x56.2.1.sz)])) then (bif (sameO (h58.cells (h.next, 0) 2) (.agg [(.int .i64 x56.1), (.slice x56.2.1.a x56.2.1.len x56.2.1.cap x56.2.1.sz)])) then (bif (sameO (h54.cells (h.next, 0) 2) (.agg [(.int .i64 x56.1), (.slice x56.2.1.a x56.2.1.len x56.2.1.cap x56.2.1.sz)])) then (bif (sameO (h50.cells (h.next, 0) 2) (.agg [(.int .i64 x56.1), (.slice x56.2.1.a x56.2.1.len x56.2.1.cap x56.2.1.sz)])) then (bif (sameO (h46.cells (h.next, 0) 2) (.agg [(.int .i64 x56.1), (.slice x56.2.1.a x56.2.1.len x56.2.1.cap x56.2.1.sz)])) then (bif (sameO (h44.cells (h.next, 0) 2) (.agg [(.int .i64 x56.1), (.slice x56.2.1.a x56.2.1.len x56.2.1.cap x56.2.1.sz)])) then (bif (sameO (h42.cells (h.next, 0) 2) (.agg [(.int .i64 x56.1), (.slice x56.2.1.a x56.2.1.len x56.2.1.cap x56.2.1.sz)])) then (bif (sameO (h39.cells (h.next, 0) 2) (.agg [(.int .i64 x56.1), (.slice x56.2.1.a x56.2.1.len x56.2.1.cap x56.2.1.sz)])) then (bif (sameO (h35.cells (h.next, 0) 2) (.agg [(.int .i64 x56.1), (.slice x56.2.1.a x56.2.1.len x56.2.1.cap x56.2.1.sz)])) then (bif (sameO (h30.cells (h.next, 0) 2) (.agg [(.int .i64 x56.1), (.slice x56.2.1.a x56.2.1.len x56.2.1.cap x56.2.1.sz)])) then (bif (sameO (h26.cells (h.next, 0) 2) (.agg [(.int .i64 x56.1), (.slice x56.2.1.a x56.2.1.len x56.2.1.cap x56.2.1.sz)])) then (bif (sameO (h22.cells (h.next, 0) 2) (.agg [(.int .i64 x56.1), (.slice x56.2.1.a x56.2.1.len x56.2.1.cap x56.2.1.sz)])) then (bif (sameO (h20.cells (h.next, 0) 2) (.agg [(.int .i64 x56.1), (.slice x56.2.1.a x56.2.1.len x56.2.1.cap x56.2.1.sz)])) then (bif (sameO (h61.cells (h1.next, 0) 2) (.agg [(.int .i64 x52.1), (.slice x52.2.1.a x52.2.1.len x52.2.1.cap x52.2.1.sz)])) then (bif (sameO (h58.cells (h1.next, 0) 2) (.agg [(.int .i64 x52.1), (.slice x52.2.1.a x52.2.1.len x52.2.1.cap x52.2.1.sz)])) then (bif (sameO (h54.cells (h1.next, 0) 2) (.agg [(.int .i64 x52.1), (.slice x52.2.1.a x52.2.1.len x52.2.1.cap x52.2.1.sz)])) then (bif (sameO (h50.cells (h1.next, 0) 2) (.agg [(.int .i64 x52.1), (.slice x52.2.1.a x52.2.1.len x52.2.1.cap x52.2.1.sz)])) then (bif (sameO (h46.cells (h1.next, 0) 2) (.agg [(.int .i64 x52.1), (.slice x52.2.1.a x52.2.1.len x52.2.1.cap x52.2.1.sz)])) then (bif (sameO (h44.cells (h1.next, 0) 2) (.agg [(.int .i64 x52.1), (.slice x52.2.1.a x52.2.1.len x52.2.1.cap x52.2.1.sz)])) then (bif (sameO (h42.cells (h1.next, 0) 2) (.agg [(.int .i64 x52.1), (.slice x52.2.1.a x52.2.1.len x52.2.1.cap x52.2.1.sz)])) then (bif (sameO (h39.cells (h1.next, 0) 2) (.agg [(.int .i64 x52.1), (.slice x52.2.1.a x52.2.1.len x52.2.1.cap x52.2.1.sz)])) then (bif (sameO (h35.cells (h1.next, 0) 2) (.agg [(.int .i64 x52.1), (.slice x52.2.1.a x52.2.1.len x52.2.1.cap x52.2.1.sz)])) then (bif (sameO (h30.cells (h1.next, 0) 2) (.agg [(.int .i64 x52.1), (.slice x52.2.1.a x52.2.1.len x52.2.1.cap x52.2.1.sz)])) then (bif (sameO (h26.cells (h1.next, 0) 2) (.agg [(.int .i64 x52.1), (.slice x52.2.1.a x52.2.1.len x52.2.1.cap x52.2.1.sz)])) then (bif (sameO (h22.cells (h1.next, 0) 2) (.agg [(.int .i64 x52.1), (.slice x52.2.1.a x52.2.1.len x52.2.1.cap x52.2.1.sz)])) then (bif (sameO (h20.cells (h1.next, 0) 2) (.agg [(.int .i64 x52.1), (.slice x52.2.1.a x52.2.1.len x52.2.1.cap x52.2.1.sz)])) then (bif (sameO (h61.cells (h.next, 0) 2) (.agg [(.int .i64 x51.1), (.slice x51.2.1.a x51.2.1.len x51.2.1.cap x51.2.1.sz)])) then (bif (sameO (h58.cells (h.next, 0) 2) (.agg [(.int .i64 x51.1), (.slice x51.2.1.a x51.2.1.len x51.2.1.cap x51.2.1.sz)])) then (bif (sameO (h54.cells (h.next, 0) 2) (.agg [(.int .i64 x51.1), (.slice x51.2.1.a x51.2.1.len x51.2.1.cap x51.2.1.sz)])) then (bif (sameO (h50.cells (h.next, 0) 2) (.agg [(.int .i64 x51.1), (.slice x51.2.1.a x51.2.1.len x51.2.1.cap x51.2.1.sz)])) then (bif (sameO (h46.cells (h.next, 0) 2) (.agg [(.int .i64 x51.1), (.slice x51.2.1.a x51.2.1.len x51.2.1.cap x51.2.1.sz)])) then (bif (sameO (h44.cells (h.next, 0) 2) (.agg [(.int .i64 x51.1), (.slice x51.2.1.a x51.2.1.len x51.2.1.cap x51.2.1.sz)])) then (bif (sameO (h42.cells (h.next, 0) 2) (.agg [(.int .i64 x51.1), (.slice x51.2.1.a x51.2.1.len x51.2.1.cap x51.2.1.sz)])) then (bif (sameO (h39.cells (h.next, 0) 2) (.agg [(.int .i64 x51.1), (.slice x51.2.1.a x51.2.1.len x51.2.1.cap x51.2.1.sz)])) then (bif (sameO (h35.cells (h.next, 0) 2) (.agg [(.int .i64 x51.1), (.slice x51.2.1.a x51.2.1.len x51.2.1.cap x51.2.1.sz)])) then (bif (sameO (h30.cells (h.next, 0) 2) (.agg [(.int .i64 x51.1), (.slice x51.2.1.a x51.2.1.len x51.2.1.cap x51.2.1.sz)])) then (bif (sameO (h26.cells (h.next, 0) 2) (.agg [(.int .i64 x51.1), (.slice x51.2.1.a x51.2.1.len x51.2.1.cap x51.2.1.sz)])) then (bif (sameO (h22.cells (h.next, 0) 2) (.agg [(.int .i64 x51.1), (.slice x51.2.1.a x51.2.1.len x51.2.1.cap x51.2.1.sz)])) then (bif (sameO (h20.cells (h.next, 0) 2) (.agg [(.int .i64 x51.1), (.slice x51.2.1.a x51.2.1.len x51.2.1.cap x51.2.1.sz)])) then (bif (sameO (h61.cells (h1.next, 0) 2) (.agg [(.int .i64 x48.1), (.slice x48.2.1.a x48.2.1.len x48.2.1.cap x48.2.1.sz)])) then (bif (sameO (h58.cells (h1.next, 0) 2) (.agg [(.int .i64 x48.1), (.slice x48.2.1.a x48.2.1.len x48.2.1.cap x48.2.1.sz)])) then (bif (sameO (h54.cells (h1.next, 0) 2) (.agg [(.int .i64 x48.1), (.slice x48.2.1.a x48.2.1.len x48.2.1.cap x48.2.1.sz)])) then (bif (sameO (h50.cells (h1.next, 0) 2) (.agg [(.int .i64 x48.1), (.slice x48.2.1.a x48.2.1.len x48.2.1.cap x48.2.1.sz)])) then (bif (sameO (h46.cells (h1.next, 0) 2) (.agg [(.int .i64 x48.1), (.slice x48.2.1.a x48.2.1.len x48.2.1.cap x48.2.1.sz)])) then (bif (sameO (h44.cells (h1.next, 0) 2) (.agg [(.int .i64 x48.1), (.slice x48.2.1.a x48.2.1.len x48.2.1.cap x48.2.1.sz)])) then (bif (sameO (h42.cells (h1.next, 0) 2) (.agg [(.int .i64 x48.1), (.slice x48.2.1.a x48.2.1.len x48.2.1.cap x48.2.1.sz)])) then (bif (sameO (h39.cells (h1.next, 0) 2) (.agg [(.int .i64 x48.1), (.slice x48.2.1.a x48.2.1.len x48.2.1.cap x48.2.1.sz)])) then (bif (sameO (h35.cells (h1.next, 0) 2) (.agg [(.int .i64 x48.1), (.slice x48.2.1.a x48.2.1.len x48.2.1.cap x48.2.1.sz)])) then (bif (sameO (h30.cells (h1.next, 0) 2) (.agg [(.int .i64 x48.1), (.slice x48.2.1.a x48.2.1.len x48.2.1.cap x48.2.1.sz)])) then (bif (sameO (h26.cells (h1.next, 0) 2) (.agg [(.int .i64 x48.1), (.slice x48.2.1.a x48.2.1.len x48.2.1.cap x48.2.1.sz)])) then (bif (sameO (h22.cells (h1.next, 0) 2) (.agg [(.int .i64 x48.1), (.slice x48.2.1.a x48.2.1.len x48.2.1.cap x48.2.1.sz)])) then (bif (sameO (h20.cells (h1.next, 0) 2) (.agg [(.int .i64 x48.1), (.slice x48.2.1.a x48.2.1.len x48.2.1.cap x48.2.1.sz)])) then (bif (sameO (h61.cells (h.next, 0) 2) (.agg [(.int .i64 x47.1), (.slice x47.2.1.a x47.2.1.len x47.2.1.cap x47.2.1.sz)])) then (bif (sameO (h58.cells (h.next, 0) 2) (.agg [(.int .i64 x47.1), (.slice x47.2.1.a x47.2.1.len x47.2.1.cap x47.2.1.sz)])) then (bif (sameO (h54.cells (h.next, 0) 2) (.agg [(.int .i64 x47.1), (.slice x47.2.1.a x47.2.1.len x47.2.1.cap x47.2.1.sz)])) then (bif (sameO (h50.cells (h.next, 0) 2) (.agg [(.int .i64 x47.1), (.slice x47.2.1.a x47.2.1.len x47.2.1.cap x47.2.1.sz)])) then (bif (sameO (h46.cells (h.next, 0) 2) (.agg [(.int .i64 x47.1), (.slice x47.2.1.a x47.2.1.len x47.2.1.cap x47.2.1.sz)])) then (bif (sameO (h44.cells (h.next, 0) 2) (.agg [(.int .i64 x47.1), (.slice x47.2.1.a x47.2.1.len x47.2.1.cap x47.2.1.sz)])) then (bif (sameO (h42.cells (h.next, 0) 2) (.agg [(.int .i64 x47.1), (.slice x47.2.1.a x47.2.1.len x47.2.1.cap x47.2.1.sz)])) then (bif (sameO (h39.cells (h.next, 0) 2) (.agg [(.int .i64 x47.1), (.slice x47.2.1.a x47.2.1.len x47.2.1.cap x47.2.1.sz)])) then (bif (sameO (h35.cells (h.next, 0) 2) (.agg [(.int .i64 x47.1), (.slice x47.2.1.a x47.2.1.len x47.2.1.cap x47.2.1.sz)])) then (bif (sameO (h30.cells (h.next, 0) 2) (.agg [(.int .i64 x47.1), (.slice x47.2.1.a x47.2.1.len x47.2.1.cap x47.2.1.sz)])) then (bif (sameO (h26.cells (h.next, 0) 2) (.agg [(.int .i64 x47.1), (.slice x47.2.1.a x47.2.1.len x47.2.1.cap x47.2.1.sz)])) then (bif (sameO (h22.cells (h.next, 0) 2) (.agg [(.int .i64 x47.1), (.slice x47.2.1.a x47.2.1.len x47.2.1.cap x47.2.1.sz)])) then (bif (sameO (h20.cells (h.next, 0) 2) (.agg [(.int .i64 x47.1), (.slice x47.2.1.a x47.2.1.len x47.2.1.cap x47.2.1.sz)])) then (bif (sameO (h61.cells (h18.next, 0) 2) (.agg [(.int .i64 x43.1), (.slice x43.2.1.a x43.2.1.len x43.2.1.cap x43.2.1.sz)])) then (bif (sameO (h58.cells (h18.next, 0) 2) (.agg [(.int .i64 x43.1), (.slice x43.2.1.a x43.2.1.len x43.2.1.cap x43.2.1.sz)])) then (bif (sameO (h54.cells (h18.next, 0) 2) (.agg [(.int .i64 x43.1), (.slice x43.2.1.a x43.2.1.len x43.2.1.cap x43.2.1.sz)])) then (bif (sameO (h50.cells (h18.next, 0) 2) (.agg [(.int .i64 x43.1), (.slice x43.2.1.a x43.2.1.len x43.2.1.cap x43.2.1.sz)])) then (bif (sameO (h46.cells (h18.next, 0) 2) (.agg [(.int .i64 x43.1), (.slice x43.2.1.a x43.2.1.len x43.2.1.cap x43.2.1.sz)])) then (bif (sameO (h44.cells (h18.next, 0) 2) (.agg [(.int .i64 x43.1), (.slice x43.2.1.a x43.2.1.len x43.2.1.cap x43.2.1.sz)])) then (bif (sameO (h42.cells (h18.next, 0) 2) (.agg [(.int .i64 x43.1), (.slice x43.2.1.a x43.2.1.len x43.2.1.cap x43.2.1.sz)])) then (bif (sameO (h39.cells (h18.next, 0) 2) (.agg [(.int .i64 x43.1), (.slice x43.2.1.a x43.2.1.len x43.2.1.cap x43.2.1.sz)])) then (bif (sameO (h35.cells (h18.next, 0) 2) (.agg [(.int .i64 x43.1), (.slice x43.2.1.a x43.2.1.len x43.2.1.cap x43.2.1.sz)])) then (bif (sameO (h30.cells (h18.next, 0) 2) (.agg [(.int .i64 x43.1), (.slice x43.2.1.a x43.2.1.len x43.2.1.cap x43.2.1.sz)])) then (bif (sameO (h26.cells (h18.next, 0) 2) (.agg [(.int .i64 x43.1), (.slice x43.2.1.a x43.2.1.len x43.2.1.cap x43.2.1.sz)])) then (bif (sameO (h22.cells (h18.next, 0) 2) (.agg [(.int .i64 x43.1), (.slice x43.2.1.a x43.2.1.len x43.2.1.cap x43.2.1.sz)])) then (bif (sameO (h20.cells (h18.next, 0) 2) (.agg [(.int .i64 x43.1), (.slice x43.2.1.a x43.2.1.len x43.2.1.cap x43.2.1.sz)])) then (bif (sameO (h61.cells (h13.next, 0) 2) (.agg [(.int .i64 x41.1), (.slice x41.2.1.a x41.2.1.len x41.2.1.cap x41.2.1.sz)])) then (bif (sameO (h58.cells (h13.next, 0) 2) (.agg [(.int .i64 x41.1), (.slice x41.2.1.a x41.2.1.len x41.2.1.cap x41.2.1.sz)])) then (bif (sameO (h54.cells (h13.next, 0) 2) (.agg [(.int .i64 x41.1), (.slice x41.2.1.a x41.2.1.len x41.2.1.cap x41.2.1.sz)])) then (bif (sameO (h50.cells (h13.next, 0) 2) (.agg [(.int .i64 x41.1), (.slice x41.2.1.a x41.2.1.len x41.2.1.cap x41.2.1.sz)])) then (bif (sameO (h46.cells (h13.next, 0) 2) (.agg [(.int .i64 x41.1), (.slice x41.2.1.a x41.2.1.len x41.2.1.cap x41.2.1.sz)])) then (bif (sameO (h44.cells (h13.next, 0) 2) (.agg [(.int .i64 x41.1), (.slice x41.2.1.a x41.2.1.len x41.2.1.cap x41.2.1.sz)])) then (bif (sameO (h42.cells (h13.next, 0) 2) (.agg [(.int .i64 x41.1), (.slice x41.2.1.a x41.2.1.len x41.2.1.cap x41.2.1.sz)])) then (bif (sameO (h39.cells (h13.next, 0) 2) (.agg [(.int .i64 x41.1), (.slice x41.2.1.a x41.2.1.len x41.2.1.cap x41.2.1.sz)])) then (bif (sameO (h35.cells (h13.next, 0) 2) (.agg [(.int .i64 x41.1), (.slice x41.2.1.a x41.2.1.len x41.2.1.cap x41.2.1.sz)])) then (bif (sameO (h30.cells (h13.next, 0) 2) (.agg [(.int .i64 x41.1), (.slice x41.2.1.a x41.2.1.len x41.2.1.cap x41.2.1.sz)])) then (bif (sameO (h26.cells (h13.next, 0) 2) (.agg [(.int .i64 x41.1), (.slice x41.2.1.a x41.2.1.len x41.2.1.cap x41.2.1.sz)])) then (bif (sameO (h22.cells (h13.next, 0) 2) (.agg [(.int .i64 x41.1), (.slice x41.2.1.a x41.2.1.len x41.2.1.cap x41.2.1.sz)])) then (bif (sameO (h20.cells (h13.next, 0) 2) (.agg [(.int .i64 x41.1), (.slice x41.2.1.a x41.2.1.len x41.2.1.cap x41.2.1.sz)])) then (bif (sameO (h61.cells (h1.next, 0) 2) (.agg [(.int .i64 x37.1), (.slice x37.2.1.a x37.2.1.len x37.2.1.cap x37.2.1.sz)])) then (bif (sameO (h58.cells (h1.next, 0) 2) (.agg [(.int .i64 x37.1), (.slice x37.2.1.a x37.2.1.len x37.2.1.cap x37.2.1.sz)])) then (bif (sameO (h54.cells (h1.next, 0) 2) (.agg [(.int .i64 x37.1), (.slice x37.2.1.a x37.2.1.len x37.2.1.cap x37.2.1.sz)])) then (bif (sameO (h50.cells (h1.next, 0) 2) (.agg [(.int .i64 x37.1), (.slice x37.2.1.a x37.2.1.len x37.2.1.cap x37.2.1.sz)])) then (bif (sameO (h46.cells (h1.next, 0) 2) (.agg [(.int .i64 x37.1), (.slice x37.2.1.a x37.2.1.len x37.2.1.cap x37.2.1.sz)])) then (bif (sameO (h44.cells (h1.next, 0) 2) (.agg [(.int .i64 x37.1), (.slice x37.2.1.a x37.2.1.len x37.2.1.cap x37.2.1.sz)])) then (bif (sameO (h42.cells (h1.next, 0) 2) (.agg [(.int .i64 x37.1), (.slice x37.2.1.a x37.2.1.len x37.2.1.cap x37.2.1.sz)])) then (bif (sameO (h39.cells (h1.next, 0) 2) (.agg [(.int .i64 x37.1), (.slice x37.2.1.a x37.2.1.len x37.2.1.cap x37.2.1.sz)])) then (bif (sameO (h35.cells (h1.next, 0) 2) (.agg [(.int .i64 x37.1), (.slice x37.2.1.a x37.2.1.len x37.2.1.cap x37.2.1.sz)])) then (bif (sameO (h30.cells (h1.next, 0) 2) (.agg [(.int .i64 x37.1), (.slice x37.2.1.a x37.2.1.len x37.2.1.cap x37.2.1.sz)])) then (bif (sameO (h26.cells (h1.next, 0) 2) (.agg [(.int .i64 x37.1), (.slice x37.2.1.a x37.2.1.len x37.2.1.cap x37.2.1.sz)])) then (bif (sameO (h22.cells (h1.next, 0) 2) (.agg [(.int .i64 x37.1), (.slice x37.2.1.a x37.2.1.len x37.2.1.cap x37.2.1.sz)])) then (bif (sameO (h20.cells (h1.next, 0) 2) (.agg [(.int .i64 x37.1), (.slice x37.2.1.a x37.2.1.len x37.2.1.cap x37.2.1.sz)])) then (bif (sameO (h61.cells (h.next, 0) 2) (.agg [(.int .i64 x36.1), (.slice x36.2.1.a x36.2.1.len x36.2.1.cap x36.2.1.sz)])) then (bif (sameO (h58.cells (h.next, 0) 2) (.agg [(.int .i64 x36.1), (.slice x36.2.1.a x36.2.1.len x36.2.1.cap x36.2.1.sz)])) then (bif (sameO (h54.cells (h.next, 0) 2) (.agg [(.int .i64 x36.1), (.slice x36.2.1.a x36.2.1.len x36.2.1.cap x36.2.1.sz)])) then (bif (sameO (h50.cells (h.next, 0) 2) (.agg [(.int .i64 x36.1), (.slice x36.2.1.a x36.2.1.len x36.2.1.cap x36.2.1.sz)])) then (bif (sameO (h46.cells (h.next, 0) 2) (.agg [(.int .i64 x36.1), (.slice x36.2.1.a x36.2.1.len x36.2.1.cap x36.2.1.sz)])) then (bif (sameO (h44.cells (h.next, 0) 2) (.agg [(.int .i64 x36.1), (.slice x36.2.1.a x36.2.1.len x36.2.1.cap x36.2.1.sz)])) then (bif (sameO (h42.cells (h.next, 0) 2) (.agg [(.int .i64 x36.1), (.slice x36.2.1.a x36.2.1.len x36.2.1.cap x36.2.1.sz)])) then (bif (sameO (h39.cells (h.next, 0) 2) (.agg [(.int .i64 x36.1), (.slice x36.2.1.a x36.2.1.len x36.2.1.cap x36.2.1.sz)])) then (bif (sameO (h35.cells (h.next, 0) 2) (.agg [(.int .i64 x36.1), (.slice x36.2.1.a x36.2.1.len x36.2.1.cap x36.2.1.sz)])) then (bif (sameO (h30.cells (h.next, 0) 2) (.agg [(.int .i64 x36.1), (.slice x36.2.1.a x36.2.1.len x36.2.1.cap x36.2.1.sz)])) then (bif (sameO (h26.cells (h.next, 0) 2) (.agg [(.int .i64 x36.1), (.slice x36.2.1.a x36.2.1.len x36.2.1.cap x36.2.1.sz)])) then (bif (sameO (h22.cells (h.next, 0) 2) (.agg [(.int .i64 x36.1), (.slice x36.2.1.a x36.2.1.len x36.2.1.cap x36.2.1.sz)])) then (bif (sameO (h20.cells (h.next, 0) 2) (.agg [(.int .i64 x36.1), (.slice x36.2.1.a x36.2.1.len x36.2.1.cap x36.2.1.sz)])) then (bif (sameO (h61.cells (h1.next, 0) 2) (.agg [(.int .i64 x33.1), (.slice x33.2.1.a x33.2.1.len x33.2.1.cap x33.2.1.sz)])) then (bif (sameO (h58.cells (h1.next, 0) 2) (.agg [(.int .i64 x33.1), (.slice x33.2.1.a x33.2.1.len x33.2.1.cap x33.2.1.sz)])) then (bif (sameO (h54.cells (h1.next, 0) 2) (.agg [(.int .i64 x33.1), (.slice x33.2.1.a x33.2.1.len x33.2.1.cap x33.2.1.sz)])) then (bif (sameO (h50.cells (h1.next, 0) 2) (.agg [(.int .i64 x33.1), (.slice x33.2.1.a x33.2.1.len x33.2.1.cap x33.2.1.sz)])) then (bif (sameO (h46.cells (h1.next, 0) 2) (.agg [(.int .i64 x33.1), (.slice x33.2.1.a x33.2.1.len x33.2.1.cap x33.2.1.sz)])) then (bif (sameO (h44.cells (h1.next, 0) 2) (.agg [(.int .i64 x33.1), (.slice x33.2.1.a x33.2.1.len x33.2.1.cap x33.2.1.sz)])) then (bif (sameO (h42.cells (h1.next, 0) 2) (.agg [(.int .i64 x33.1), (.slice x33.2.1.a x33.2.1.len x33.2.1.cap x33.2.1.sz)])) then (bif (sameO (h39.cells (h1.next, 0) 2) (.agg [(.int .i64 x33.1), (.slice x33.2.1.a x33.2.1.len x33.2.1.cap x33.2.1.sz)])) then (bif (sameO (h35.cells (h1.next, 0) 2) (.agg [(.int .i64 x33.1), (.slice x33.2.1.a x33.2.1.len x33.2.1.cap x33.2.1.sz)])) then (bif (sameO (h30.cells (h1.next, 0) 2) (.agg [(.int .i64 x33.1), (.slice x33.2.1.a x33.2.1.len x33.2.1.cap x33.2.1.sz)])) then (bif (sameO (h26.cells (h1.next, 0) 2) (.agg [(.int .i64 x33.1), (.slice x33.2.1.a x33.2.1.len x33.2.1.cap x33.2.1.sz)])) then (bif (sameO (h22.cells (h1.next, 0) 2) (.agg [(.int .i64 x33.1), (.slice x33.2.1.a x33.2.1.len x33.2.1.cap x33.2.1.sz)])) then (bif (sameO (h20.cells (h1.next, 0) 2) (.agg [(.int .i64 x33.1), (.slice x33.2.1.a x33.2.1.len x33.2.1.cap x33.2.1.sz)])) then (bif (sameO (h61.cells (h.next, 0) 2) (.agg [(.int .i64 x32.1), (.slice x32.2.1.a x32.2.1.len x32.2.1.cap x32.2.1.sz)])) then (bif (sameO (h58.cells (h.next, 0) 2) (.agg [(.int .i64 x32.1), (.slice x32.2.1.a x32.2.1.len x32.2.1.cap x32.2.1.sz)])) then (bif (sameO (h54.cells (h.next, 0) 2) (.agg [(.int .i64 x32.1), (.slice x32.2.1.a x32.2.1.len x32.2.1.cap x32.2.1.sz)])) then (bif (sameO (h50.cells (h.next, 0) 2) (.agg [(.int .i64 x32.1), (.slice x32.2.1.a x32.2.1.len x32.2.1.cap x32.2.1.sz)])) then (bif (sameO (h46.cells (h.next, 0) 2) (.agg [(.int .i64 x32.1), (.slice x32.2.1.a x32.2.1.len x32.2.1.cap x32.2.1.sz)])) then (bif (sameO (h44.cells (h.next, 0) 2) (.agg [(.int .i64 x32.1), (.slice x32.2.1.a x32.2.1.len x32.2.1.cap x32.2.1.sz)])) then (bif (sameO (h42.cells (h.next, 0) 2) (.agg [(.int .i64 x32.1), (.slice x32.2.1.a x32.2.1.len x32.2.1.cap x32.2.1.sz)])) then (bif (sameO (h39.cells (h.next, 0) 2) (.agg [(.int .i64 x32.1), (.slice x32.2.1.a x32.2.1.len x32.2.1.cap x32.2.1.sz)])) then (bif (sameO (h35.cells (h.next, 0) 2) (.agg [(.int .i64 x32.1), (.slice x32.2.1.a x32.2.1.len x32.2.1.cap x32.2.1.sz)])) then (bif (sameO (h30.cells (h.next, 0) 2) (.agg [(.int .i64 x32.1), (.slice x32.2.1.a x32.2.1.len x32.2.1.cap x32.2.1.sz)])) then (bif (sameO (h26.cells (h.next, 0) 2) (.agg [(.int .i64 x32.1), (.slice x32.2.1.a x32.2.1.len x32.2.1.cap x32.2.1.sz)])) then (bif (sameO (h22.cells (h.next, 0) 2) (.agg [(.int .i64 x32.1), (.slice x32.2.1.a x32.2.1.len x32.2.1.cap x32.2.1.sz)])) then (bif (sameO (h20.cells (h.next, 0) 2) (.agg [(.int .i64 x32.1), (.slice x32.2.1.a x32.2.1.len x32.2.1.cap x32.2.1.sz)])) then (bif (sameO (h61.cells (h1.next, 0) 2) (.agg [(.int .i64 x28.1), (.slice x28.2.1.a x28.2.1.len x28.2.1.cap x28.2.1.sz)])) then (bif (sameO (h58.cells (h1.next, 0) 2) (.agg [(.int .i64 x28.1), (.slice x28.2.1.a x28.2.1.len x28.2.1.cap x28.2.1.sz)])) then (bif (sameO (h54.cells (h1.next, 0) 2) (.agg [(.int .i64 x28.1), (.slice x28.2.1.a x28.2.1.len x28.2.1.cap x28.2.1.sz)])) then (bif (sameO (h50.cells (h1.next, 0) 2) (.agg [(.int .i64 x28.1), (.slice x28.2.1.a x28.2.1.len x28.2.1.cap x28.2.1.sz)])) then (bif (sameO (h46.cells (h1.next, 0) 2) (.agg [(.int .i64 x28.1), (.slice x28.2.1.a x28.2.1.len x28.2.1.cap x28.2.1.sz)])) then (bif (sameO (h44.cells (h1.next, 0) 2) (.agg [(.int .i64 x28.1), (.slice x28.2.1.a x28.2.1.len x28.2.1.cap x28.2.1.sz)])) then (bif (sameO (h42.cells (h1.next, 0) 2) (.agg [(.int .i64 x28.1), (.slice x28.2.1.a x28.2.1.len x28.2.1.cap x28.2.1.sz)])) then (bif (sameO (h39.cells (h1.next, 0) 2) (.agg [(.int .i64 x28.1), (.slice x28.2.1.a x28.2.1.len x28.2.1.cap x28.2.1.sz)])) then (bif (sameO (h35.cells (h1.next, 0) 2) (.agg [(.int .i64 x28.1), (.slice x28.2.1.a x28.2.1.len x28.2.1.cap x28.2.1.sz)])) then (bif (sameO (h30.cells (h1.next, 0) 2) (.agg [(.int .i64 x28.1), (.slice x28.2.1.a x28.2.1.len x28.2.1.cap x28.2.1.sz)])) then (bif (sameO (h26.cells (h1.next, 0) 2) (.agg [(.int .i64 x28.1), (.slice x28.2.1.a x28.2.1.len x28.2.1.cap x28.2.1.sz)])) then (bif (sameO (h22.cells (h1.next, 0) 2) (.agg [(.int .i64 x28.1), (.slice x28.2.1.a x28.2.1.len x28.2.1.cap x28.2.1.sz)])) then (bif (sameO (h20.cells (h1.next, 0) 2) (.agg [(.int .i64 x28.1), (.slice x28.2.1.a x28.2.1.len x28.2.1.cap x28.2.1.sz)])) then (bif (sameO (h61.cells (h.next, 0) 2) (.agg [(.int .i64 x27.1), (.slice x27.2.1.a x27.2.1.len x27.2.1.cap x27.2.1.sz)])) then (bif (sameO (h58.cells (h.next, 0) 2) (.agg [(.int .i64 x27.1), (.slice x27.2.1.a x27.2.1.len x27.2.1.cap x27.2.1.sz)])) then (bif (sameO (h54.cells (h.next, 0) 2) (.agg [(.int .i64 x27.1), (.slice x27.2.1.a x27.2.1.len x27.2.1.cap x27.2.1.sz)])) then (bif (sameO (h50.cells (h.next, 0) 2) (.agg [(.int .i64 x27.1), (.slice x27.2.1.a x27.2.1.len x27.2.1.cap x27.2.1.sz)])) then (bif (sameO (h46.cells (h.next, 0) 2) (.agg [(.int .i64 x27.1), (.slice x27.2.1.a x27.2.1.len x27.2.1.cap x27.2.1.sz)])) then (bif (sameO (h44.cells (h.next, 0) 2) (.agg [(.int .i64 x27.1), (.slice x27.2.1.a x27.2.1.len x27.2.1.cap x27.2.1.sz)])) then (bif (sameO (h42.cells (h.next, 0) 2) (.agg [(.int .i64 x27.1), (.slice x27.2.1.a x27.2.1.len x27.2.1.cap x27.2.1.sz)])) then (bif (sameO (h39.cells (h.next, 0) 2) (.agg [(.int .i64 x27.1), (.slice x27.2.1.a x27.2.1.len x27.2.1.cap x27.2.1.sz)])) then (bif (sameO (h35.cells (h.next, 0) 2) (.agg [(.int .i64 x27.1), (.slice x27.2.1.a x27.2.1.len x27.2.1.cap x27.2.1.sz)])) then (bif (sameO (h30.cells (h.next, 0) 2) (.agg [(.int .i64 x27.1), (.slice x27.2.1.a x27.2.1.len x27.2.1.cap x27.2.1.sz)])) then (bif (sameO (h26.cells (h.next, 0) 2) (.agg [(.int .i64 x27.1), (.slice x27.2.1.a x27.2.1.len x27.2.1.cap x27.2.1.sz)])) then (bif (sameO (h22.cells (h.next, 0) 2) (.agg [(.int .i64 x27.1), (.slice x27.2.1.a x27.2.1.len x27.2.1.cap x27.2.1.sz)])) then (bif (sameO (h20.cells (h.next, 0) 2) (.agg [(.int .i64 x27.1), (.slice x27.2.1.a x27.2.1.len x27.2.1.cap x27.2.1.sz)])) then (bif (sameO (h61.cells (h1.next, 0) 2) (.agg [(.int .i64 x24.1), (.slice x24.2.1.a x24.2.1.len x24.2.1.cap x24.2.1.sz)])) then (bif (sameO (h58.cells (h1.next, 0) 2) (.agg [(.int .i64 x24.1), (.slice x24.2.1.a x24.2.1.len x24.2.1.cap x24.2.1.sz)])) then (bif (sameO (h54.cells (h1.next, 0) 2) (.agg [(.int .i64 x24.1), (.slice x24.2.1.a x24.2.1.len x24.2.1.cap x24.2.1.sz)])) then (bif (sameO (h50.cells (h1.next, 0) 2) (.agg [(.int .i64 x24.1), (.slice x24.2.1.a x24.2.1.len x24.2.1.cap x24.2.1.sz)])) then (bif (sameO (h46.cells (h1.next, 0) 2) (.agg [(.int .i64 x24.1), (.slice x24.2.1.a x24.2.1.len x24.2.1.cap x24.2.1.sz)])) then (bif (sameO (h44.cells (h1.next, 0) 2) (.agg [(.int .i64 x24.1), (.slice x24.2.1.a x24.2.1.len x24.2.1.cap x24.2.1.sz)])) then (bif (sameO (h42.cells (h1.next, 0) 2) (.agg [(.int .i64 x24.1), (.slice x24.2.1.a x24.2.1.len x24.2.1.cap x24.2.1.sz)])) then (bif (sameO (h39.cells (h1.next, 0) 2) (.agg [(.int .i64 x24.1), (.slice x24.2.1.a x24.2.1.len x24.2.1.cap x24.2.1.sz)])) then (bif (sameO (h35.cells (h1.next, 0) 2) (.agg [(.int .i64 x24.1), (.slice x24.2.1.a x24.2.1.len x24.2.1.cap x24.2.1.sz)])) then (bif (sameO (h30.cells (h1.next, 0) 2) (.agg [(.int .i64 x24.1), (.slice x24.2.1.a x24.2.1.len x24.2.1.cap x24.2.1.sz)])) then (bif (sameO (h26.cells (h1.next, 0) 2) (.agg [(.int .i64 x24.1), (.slice x24.2.1.a x24.2.1.len x24.2.1.cap x24.2.1.sz)])) then (bif (sameO (h22.cells (h1.next, 0) 2) (.agg [(.int .i64 x24.1), (.slice x24.2.1.a x24.2.1.len x24.2.1.cap x24.2.1.sz)])) then (bif (sameO (h20.cells (h1.next, 0) 2) (.agg [(.int .i64 x24.1), (.slice x24.2.1.a x24.2.1.len x24.2.1.cap x24.2.1.sz)])) then (bif (sameO (h61.cells (h.next, 0) 2) (.agg [(.int .i64 x23.1), (.slice x23.2.1.a x23.2.1.len x23.2.1.cap x23.2.1.sz)])) then (bif (sameO (h58.cells (h.next, 0) 2) (.agg [(.int .i64 x23.1), (.slice x23.2.1.a x23.2.1.len x23.2.1.cap x23.2.1.sz)])) then (bif (sameO (h54.cells (h.next, 0) 2) (.agg [(.int .i64 x23.1), (.slice x23.2.1.a x23.2.1.len x23.2.1.cap x23.2.1.sz)])) then (bif (sameO (h50.cells (h.next, 0) 2) (.agg [(.int .i64 x23.1), (.slice x23.2.1.a x23.2.1.len x23.2.1.cap x23.2.1.sz)])) then (bif (sameO (h46.cells (h.next, 0) 2) (.agg [(.int .i64 x23.1), (.slice x23.2.1.a x23.2.1.len x23.2.1.cap x23.2.1.sz)])) then (bif (sameO (h44.cells (h.next, 0) 2) (.agg [(.int .i64 x23.1), (.slice x23.2.1.a x23.2.1.len x23.2.1.cap x23.2.1.sz)])) then (bif (sameO (h42.cells (h.next, 0) 2) (.agg [(.int .i64 x23.1), (.slice x23.2.1.a x23.2.1.len x23.2.1.cap x23.2.1.sz)])) then (bif (sameO (h39.cells (h.next, 0) 2) (.agg [(.int .i64 x23.1), (.slice x23.2.1.a x23.2.1.len x23.2.1.cap x23.2.1.sz)])) then (bif (sameO (h35.cells (h.next, 0) 2) (.agg [(.int .i64 x23.1), (.slice x23.2.1.a x23.2.1.len x23.2.1.cap x23.2.1.sz)])) then (bif (sameO (h30.cells (h.next, 0) 2) (.agg [(.int .i64 x23.1), (.slice x23.2.1.a x23.2.1.len x23.2.1.cap x23.2.1.sz)])) then (bif (sameO (h26.cells (h.next, 0) 2) (.agg [(.int .i64 x23.1), (.slice x23.2.1.a x23.2.1.len x23.2.1.cap x23.2.1.sz)])) then (bif (sameO (h22.cells (h.next, 0) 2) (.agg [(.int .i64 x23.1), (.slice x23.2.1.a x23.2.1.len x23.2.1.cap x23.2.1.sz)])) then (bif (sameO (h20.cells (h.next, 0) 2) (.agg [(.int .i64 x23.1), (.slice x23.2.1.a x23.2.1.len x23.2.1.cap x23.2.1.sz)])) then true else false) else false) else false) else false) else false) else false) else false) else false) else false) else false) else false) else false) else false) else false) else false) else false) else false) else false) else false) else false) else false) else false) else false) else false) else false) else false) else false) else false) else false) else false) else false) else false) else false) else false) else false) else false) else false) else false) else false) else false) else false) else false) else false) else false) else false) else false) else false) else false) else false) else false) else false) else false) else false) else false) else false) else false) else false) else false) else false) else false) else false) else false) else false) else false) else false) else false) else false) else false) else false) else false) else false) else false) else false) else false) else false) else false) else false) else false) else false) else false) else false) else false) else false) else false) else false) else false) else false) else false) else false) else false) else false) else false) else false) else false) else false) else false) else false) else false) else false) else false) else false) else false) else false) else false) else false) else false) else false) else false) else false) else false) else false) else false) else false) else false) else false) else false) else false) else false) else false) else false) else false) else false) else false) else false) else false) else false) else false) else false) else false) else false) else false) else false) else false) else false) else false) else false) else false) else false) else false) else false) else false) else false) else false) else false) else false) else false) else false) else false) else false) else false) else false) else false) else false) else false) else false) else false) else false) else false) else false) else false) else false) else false) else false) else false) else false) else false) else false) else false) else false) else false) else false) else false) else false) else false) else false) else false) else false) else false) else false) else false) else false) else false) else false) else false) else false) else false) else false) else false) else false) else false) else false) else false) else false) else false) else false) else false) else false) else false) else false) else false) else false) else false) else false) else false) else false) else false) else false) else false) (
         some (x62, h61)))))))
        else
         (guardB (bif (sameO (h54.cells (h1.next, 0) 2) (.agg [(.int .i64 x52.1), (.slice x52.2.1.a x52.2.1.len x52.2.1.cap x52.2.1.sz)])) then (bif (sameO (h54.cells (h1.next, 0) 2) (.agg [(.int .i64 x52.1), (.slice x52.2.1.a x52.2.1.len x52.2.1.cap x52.2.1.sz)])) then (bif (sameO (h54.cells (h1.next, 0) 2) (.agg [(.int .i64 x52.1), (.slice x52.2.1.a x52.2.1.len x52.2.1.cap x52.2.1.sz)])) then (bif (sameO (h50.cells (h1.next, 0) 2) (.agg [(.int .i64 x52.1), (.slice x52.2.1.a x52.2.1.len x52.2.1.cap x52.2.1.sz)])) then (bif (sameO (h46.cells (h1.next, 0) 2) (.agg [(.int .i64 x52.1), (.slice x52.2.1.a x52.2.1.len x52.2.1.cap x52.2.1.sz)])) then (bif (sameO (h44.cells (h1.next, 0) 2) (.agg [(.int .i64 x52.1), (.slice x52.2.1.a x52.2.1.len x52.2.1.cap x52.2.1.sz)])) then (bif (sameO (h42.cells (h1.next, 0) 2) (.agg [(.int .i64 x52.1), (.slice x52.2.1.a x52.2.1.len x52.2.1.cap x52.2.1.sz)])) then (bif (sameO (h39.cells (h1.next, 0) 2) (.agg [(.int .i64 x52.1), (.slice x52.2.1.a x52.2.1.len x52.2.1.cap x52.2.1.sz)])) then (bif (sameO (h35.cells (h1.next, 0) 2) (.agg [(.int .i64 x52.1), (.slice x52.2.1.a x52.2.1.len x52.2.1.cap x52.2.1.sz)])) then (bif (sameO (h30.cells (h1.next, 0) 2) (.agg [(.int .i64 x52.1), (.slice x52.2.1.a x52.2.1.len x52.2.1.cap x52.2.1.sz)])) then (bif (sameO (h26.cells (h1.next, 0) 2) (.agg [(.int .i64 x52.1), (.slice x52.2.1.a x52.2.1.len x52.2.1.cap x52.2.1.sz)])) then (bif (sameO (h22.cells (h1.next, 0) 2) (.agg [(.int .i64 x52.1), (.slice x52.2.1.a x52.2.1.len x52.2.1.cap x52.2.1.sz)])) then (bif (sameO (h20.cells (h1.next, 0) 2) (.agg [(.int .i64 x52.1), (.slice x52.2.1.a x52.2.1.len x52.2.1.cap x52.2.1.sz)])) then (bif (sameO (h54.cells (h.next, 0) 2) (.agg [(.int .i64 x51.1), (.slice x51.2.1.a x51.2.1.len x51.2.1.cap x51.2.1.sz)])) then (bif (sameO (h54.cells (h.next, 0) 2) (.agg [(.int .i64 x51.1), (.slice x51.2.1.a x51.2.1.len x51.2.1.cap x51.2.1.sz)])) then (bif (sameO (h54.cells (h.next, 0) 2) (.agg [(.int .i64 x51.1), (.slice x51.2.1.a x51.2.1.len x51.2.1.cap x51.2.1.sz)])) then (bif (sameO (h50.cells (h.next, 0) 2) (.agg [(.int .i64 x51.1), (.slice x51.2.1.a x51.2.1.len x51.2.1.cap x51.2.1.sz)])) then (bif (sameO (h46.cells (h.next, 0) 2) (.agg [(.int .i64 x51.1), (.slice x51.2.1.a x51.2.1.len x51.2.1.cap x51.2.1.sz)])) then (bif (sameO (h44.cells (h.next, 0) 2) (.agg [(.int .i64 x51.1), (.slice x51.2.1.a x51.2.1.len x51.2.1.cap x51.2.1.sz)])) then (bif (sameO (h42.cells (h.next, 0) 2) (.agg [(.int .i64 x51.1), (.slice x51.2.1.a x51.2.1.len x51.2.1.cap x51.2.1.sz)])) then (bif (sameO (h39.cells (h.next, 0) 2) (.agg [(.int .i64 x51.1), (.slice x51.2.1.a x51.2.1.len x51.2.1.cap x51.2.1.sz)])) then (bif (sameO (h35.cells (h.next, 0) 2) (.agg [(.int .i64 x51.1), (.slice x51.2.1.a x51.2.1.len x51.2.1.cap x51.2.1.sz)])) then (bif (sameO (h30.cells (h.next, 0) 2) (.agg [(.int .i64 x51.1), (.slice x51.2.1.a x51.2.1.len x51.2.1.cap x51.2.1.sz)])) then (bif (sameO (h26.cells (h.next, 0) 2) (.agg [(.int .i64 x51.1), (.slice x51.2.1.a x51.2.1.len x51.2.1.cap x51.2.1.sz)])) then (bif (sameO (h22.cells (h.next, 0) 2) (.agg [(.int .i64 x51.1), (.slice x51.2.1.a x51.2.1.len x51.2.1.cap x51.2.1.sz)])) then (bif (sameO (h20.cells (h.next, 0) 2) (.agg [(.int .i64 x51.1), (.slice x51.2.1.a x51.2.1.len x51.2.1.cap x51.2.1.sz)])) then (bif (sameO (h54.cells (h1.next, 0) 2) (.agg [(.int .i64 x48.1), (.slice x48.2.1.a x48.2.1.len x48.2.1.cap x48.2.1.sz)])) then (bif (sameO (h54.cells (h1.next, 0) 2) (.agg [(.int .i64 x48.1), (.slice x48.2.1.a x48.2.1.len x48.2.1.cap x48.2.1.sz)])) then (bif (sameO (h54.cells (h1.next, 0) 2) (.agg [(.int .i64 x48.1), (.slice x48.2.1.a x48.2.1.len x48.2.1.cap x48.2.1.sz)])) then (bif (sameO (h50.cells (h1.next, 0) 2) (.agg [(.int .i64 x48.1), (.slice x48.2.1.a x48.2.1.len x48.2.1.cap x48.2.1.sz)])) then (bif (sameO (h46.cells (h1.next, 0) 2) (.agg [(.int .i64 x48.1), (.slice x48.2.1.a x48.2.1.len x48.2.1.cap x48.2.1.sz)])) then (bif (sameO (h44.cells (h1.next, 0) 2) (.agg [(.int .i64 x48.1), (.slice x48.2.1.a x48.2.1.len x48.2.1.cap x48.2.1.sz)])) then (bif (sameO (h42.cells (h1.next, 0) 2) (.agg [(.int .i64 x48.1), (.slice x48.2.1.a x48.2.1.len x48.2.1.cap x48.2.1.sz)])) then (bif (sameO (h39.cells (h1.next, 0) 2) (.agg [(.int .i64 x48.1), (.slice x48.2.1.a x48.2.1.len x48.2.1.cap x48.2.1.sz)])) then (bif (sameO (h35.cells (h1.next, 0) 2) (.agg [(.int .i64 x48.1), (.slice x48.2.1.a x48.2.1.len x48.2.1.cap x48.2.1.sz)])) then (bif (sameO (h30.cells (h1.next, 0) 2) (.agg [(.int .i64 x48.1), (.slice x48.2.1.a x48.2.1.len x48.2.1.cap x48.2.1.sz)])) then (bif (sameO (h26.cells (h1.next, 0) 2) (.agg [(.int .i64 x48.1), (.slice x48.2.1.a x48.2.1.len x48.2.1.cap x48.2.1.sz)])) then (bif (sameO (h22.cells (h1.next, 0) 2) (.agg [(.int .i64 x48.1), (.slice x48.2.1.a x48.2.1.len x48.2.1.cap x48.2.1.sz)])) then (bif (sameO (h20.cells (h1.next, 0) 2) (.agg [(.int .i64 x48.1), (.slice x48.2.1.a x48.2.1.len x48.2.1.cap x48.2.1.sz)])) then (bif (sameO (h54.cells (h.next, 0) 2) (.agg [(.int .i64 x47.1), (.slice x47.2.1.a x47.2.1.len x47.2.1.cap x47.2.1.sz)])) then (bif (sameO (h54.cells (h.next, 0) 2) (.agg [(.int .i64 x47.1), (.slice x47.2.1.a x47.2.1.len x47.2.1.cap x47.2.1.sz)])) then (bif (sameO (h54.cells (h.next, 0) 2) (.agg [(.int .i64 x47.1), (.slice x47.2.1.a x47.2.1.len x47.2.1.cap x47.2.1.sz)])) then (bif (sameO (h50.cells (h.next, 0) 2) (.agg [(.int .i64 x47.1), (.slice x47.2.1.a x47.2.1.len x47.2.1.cap x47.2.1.sz)])) then (bif (sameO (h46.cells (h.next, 0) 2) (.agg [(.int .i64 x47.1), (.slice x47.2.1.a x47.2.1.len x47.2.1.cap x47.2.1.sz)])) then (bif (sameO (h44.cells (h.next, 0) 2) (.agg [(.int .i64 x47.1), (.slice x47.2.1.a x47.2.1.len x47.2.1.cap x47.2.1.sz)])) then (bif (sameO (h42.cells (h.next, 0) 2) (.agg [(.int .i64 x47.1), (.slice x47.2.1.a x47.2.1.len x47.2.1.cap x47.2.1.sz)])) then (bif (sameO (h39.cells (h.next, 0) 2) (.agg [(.int .i64 x47.1), (.slice x47.2.1.a x47.2.1.len x47.2.1.cap x47.2.1.sz)])) then (bif (sameO (h35.cells (h.next, 0) 2) (.agg [(.int .i64 x47.1), (.slice x47.2.1.a x47.2.1.len x47.2.1.cap x47.2.1.sz)])) then (bif (sameO (h30.cells (h.next, 0) 2) (.agg [(.int .i64 x47.1), (.slice x47.2.1.a x47.2.1.len x47.2.1.cap x47.2.1.sz)])) then (bif (sameO (h26.cells (h.next, 0) 2) (.agg [(.int .i64 x47.1), (.slice x47.2.1.a x47.2.1.len x47.2.1.cap x47.2.1.sz)])) then (bif (sameO (h22.cells (h.next, 0) 2) (.agg [(.int .i64 x47.1), (.slice x47.2.1.a x47.2.1.len x47.2.1.cap x47.2.1.sz)])) then (bif (sameO (h20.cells (h.next, 0) 2) (.agg [(.int .i64 x47.1), (.slice x47.2.1.a x47.2.1.len x47.2.1.cap x47.2.1.sz)])) then (bif (sameO (h54.cells (h18.next, 0) 2) (.agg [(.int .i64 x43.1), (.slice x43.2.1.a x43.2.1.len x43.2.1.cap x43.2.1.sz)])) then (bif (sameO (h54.cells (h18.next, 0) 2) (.agg [(.int .i64 x43.1), (.slice x43.2.1.a x43.2.1.len x43.2.1.cap x43.2.1.sz)])) then (bif (sameO (h54.cells (h18.next, 0) 2) (.agg [(.int .i64 x43.1), (.slice x43.2.1.a x43.2.1.len x43.2.1.cap x43.2.1.sz)])) then (bif (sameO (h50.cells (h18.next, 0) 2) (.agg [(.int .i64 x43.1), (.slice x43.2.1.a x43.2.1.len x43.2.1.cap x43.2.1.sz)])) then (bif (sameO (h46.cells (h18.next, 0) 2) (.agg [(.int .i64 x43.1), (.slice x43.2.1.a x43.2.1.len x43.2.1.cap x43.2.1.sz)])) then (bif (sameO (h44.cells (h18.next, 0) 2) (.agg [(.int .i64 x43.1), (.slice x43.2.1.a x43.2.1.len x43.2.1.cap x43.2.1.sz)])) then (bif (sameO (h42.cells (h18.next, 0) 2) (.agg [(.int .i64 x43.1), (.slice x43.2.1.a x43.2.1.len x43.2.1.cap x43.2.1.sz)])) then (bif (sameO (h39.cells (h18.next, 0) 2) (.agg [(.int .i64 x43.1), (.slice x43.2.1.a x43.2.1.len x43.2.1.cap x43.2.1.sz)])) then (bif (sameO (h35.cells (h18.next, 0) 2) (.agg [(.int .i64 x43.1), (.slice x43.2.1.a x43.2.1.len x43.2.1.cap x43.2.1.sz)])) then (bif (sameO (h30.cells (h18.next, 0) 2) (.agg [(.int .i64 x43.1), (.slice x43.2.1.a x43.2.1.len x43.2.1.cap x43.2.1.sz)])) then (bif (sameO (h26.cells (h18.next, 0) 2) (.agg [(.int .i64 x43.1), (.slice x43.2.1.a x43.2.1.len x43.2.1.cap x43.2.1.sz)])) then (bif (sameO (h22.cells (h18.next, 0) 2) (.agg [(.int .i64 x43.1), (.slice x43.2.1.a x43.2.1.len x43.2.1.cap x43.2.1.sz)])) then (bif (sameO (h20.cells (h18.next, 0) 2) (.agg [(.int .i64 x43.1), (.slice x43.2.1.a x43.2.1.len x43.2.1.cap x43.2.1.sz)])) then (bif (sameO (h54.cells (h13.next, 0) 2) (.agg [(.int .i64 x41.1), (.slice x41.2.1.a x41.2.1.len x41.2.1.cap x41.2.1.sz)])) then (bif (sameO (h54.cells (h13.next, 0) 2) (.agg [(.int .i64 x41.1), (.slice x41.2.1.a x41.2.1.len x41.2.1.cap x41.2.1.sz)])) then (bif (sameO (h54.cells (h13.next, 0) 2) (.agg [(.int .i64 x41.1), (.slice x41.2.1.a x41.2.1.len x41.2.1.cap x41.2.1.sz)])) then (bif (sameO (h50.cells (h13.next, 0) 2) (.agg [(.int .i64 x41.1), (.slice x41.2.1.a x41.2.1.len x41.2.1.cap x41.2.1.sz)])) then (bif (sameO (h46.cells (h13.next, 0) 2) (.agg [(.int .i64 x41.1), (.slice x41.2.1.a x41.2.1.len x41.2.1.cap x41.2.1.sz)])) then (bif (sameO (h44.cells (h13.next, 0) 2) (.agg [(.int .i64 x41.1), (.slice x41.2.1.a x41.2.1.len x41.2.1.cap x41.2.1.sz)])) then (bif (sameO (h42.cells (h13.next, 0) 2) (.agg [(.int .i64 x41.1), (.slice x41.2.1.a x41.2.1.len x41.2.1.cap x41.2.1.sz)])) then (bif (sameO (h39.cells (h13.next, 0) 2) (.agg [(.int .i64 x41.1), (.slice x41.2.1.a x41.2.1.len x41.2.1.cap x41.2.1.sz)])) then (bif (sameO (h35.cells (h13.next, 0) 2) (.agg [(.int .i64 x41.1), (.slice x41.2.1.a x41.2.1.len x41.2.1.cap x41.2.1.sz)])) then (bif (sameO (h30.cells (h13.next, 0) 2) (.agg [(.int .i64 x41.1), (.slice x41.2.1.a x41.2.1.len x41.2.1.cap x41.2.1.sz)])) then (bif (sameO (h26.cells (h13.next, 0) 2) (.agg [(.int .i64 x41.1), (.slice x41.2.1.a x41.2.1.len x41.2.1.cap x41.2.1.sz)])) then (bif (sameO (h22.cells (h13.next, 0) 2) (.agg [(.int .i64 x41.1), (.slice x41.2.1.a x41.2.1.len x41.2.1.cap x41.2.1.sz)])) then (bif (sameO (h20.cells (h13.next, 0) 2) (.agg [(.int .i64 x41.1), (.slice x41.2.1.a x41.2.1.len x41.2.1.cap x41.2.1.sz)])) then (bif (sameO (h54.cells (h1.next, 0) 2) (.agg [(.int .i64 x37.1), (.slice x37.2.1.a x37.2.1.len x37.2.1.cap x37.2.1.sz)])) then (bif (sameO (h54.cells (h1.next, 0) 2) (.agg [(.int .i64 x37.1), (.slice x37.2.1.a x37.2.1.len x37.2.1.cap x37.2.1.sz)])) then (bif (sameO (h54.cells (h1.next, 0) 2) (.agg [(.int .i64 x37.1), (.slice x37.2.1.a x37.2.1.len x37.2.1.cap x37.2.1.sz)])) then (bif (sameO (h50.cells (h1.next, 0) 2) (.agg [(.int .i64 x37.1), (.slice x37.2.1.a x37.2.1.len x37.2.1.cap x37.2.1.sz)])) then (bif (sameO (h46.cells (h1.next, 0) 2) (.agg [(.int .i64 x37.1), (.slice x37.2.1.a x37.2.1.len x37.2.1.cap x37.2.1.sz)])) then (bif (sameO (h44.cells (h1.next, 0) 2) (.agg [(.int .i64 x37.1), (.slice x37.2.1.a x37.2.1.len x37.2.1.cap x37.2.1.sz)])) then (bif (sameO (h42.cells (h1.next, 0) 2) (.agg [(.int .i64 x37.1), (.slice x37.2.1.a x37.2.1.len x37.2.1.cap x37.2.1.sz)])) then (bif (sameO (h39.cells (h1.next, 0) 2) (.agg [(.int .i64 x37.1), (.slice x37.2.1.a x37.2.1.len x37.2.1.cap x37.2.1.sz)])) then (bif (sameO (h35.cells (h1.next, 0) 2) (.agg [(.int .i64 x37.1), (.slice x37.2.1.a x37.2.1.len x37.2.1.cap x37.2.1.sz)])) then (bif (sameO (h30.cells (h1.next, 0) 2) (.agg [(.int .i64 x37.1), (.slice x37.2.1.a x37.2.1.len x37.2.1.cap x37.2.1.sz)])) then (bif (sameO (h26.cells (h1.next, 0) 2) (.agg [(.int .i64 x37.1), (.slice x37.2.1.a x37.2.1.len x37.2.1.cap x37.2.1.sz)])) then (bif (sameO (h22.cells (h1.next, 0) 2) (.agg [(.int .i64 x37.1), (.slice x37.2.1.a x37.2.1.len x37.2.1.cap x37.2.1.sz)])) then (bif (sameO (h20.cells (h1.next, 0) 2) (.agg [(.int .i64 x37.1), (.slice x37.2.1.a x37.2.1.len x37.2.1.cap x37.2.1.sz)])) then (bif (sameO (h54.cells (h.next, 0) 2) (.agg [(.int .i64 x36.1), (.slice x36.2.1.a x36.2.1.len x36.2.1.cap x36.2.1.sz)])) then (bif (sameO (h54.cells (h.next, 0) 2) (.agg [(.int .i64 x36.1), (.slice x36.2.1.a x36.2.1.len x36.2.1.cap x36.2.1.sz)])) then (bif (sameO (h54.cells (h.next, 0) 2) (.agg [(.int .i64 x36.1), (.slice x36.2.1.a x36.2.1.len x36.2.1.cap x36.2.1.sz)])) then (bif (sameO (h50.cells (h.next, 0) 2) (.agg [(.int .i64 x36.1), (.slice x36.2.1.a x36.2.1.len x36.2.1.cap x36.2.1.sz)])) then (bif (sameO (h46.cells (h.next, 0) 2) (.agg [(.int .i64 x36.1), (.slice x36.2.1.a x36.2.1.len x36.2.1.cap x36.2.1.sz)])) then (bif (sameO (h44.cells (h.next, 0) 2) (.agg [(.int .i64 x36.1), (.slice x36.2.1.a x36.2.1.len x36.2.1.cap x36.2.1.sz)])) then (bif (sameO (h42.cells (h.next, 0) 2) (.agg [(.int .i64 x36.1), (.slice x36.2.1.a x36.2.1.len x36.2.1.cap x36.2.1.sz)])) then (bif (sameO (h39.cells (h.next, 0) 2) (.agg [(.int .i64 x36.1), (.slice x36.2.1.a x36.2.1.len x36.2.1.cap x36.2.1.sz)])) then (bif (sameO (h35.cells (h.next, 0) 2) (.agg [(.int .i64 x36.1), (.slice x36.2.1.a x36.2.1.len x36.2.1.cap x36.2.1.sz)])) then (bif (sameO (h30.cells (h.next, 0) 2) (.agg [(.int .i64 x36.1), (.slice x36.2.1.a x36.2.1.len x36.2.1.cap x36.2.1.sz)])) then (bif (sameO (h26.cells (h.next, 0) 2) (.agg [(.int .i64 x36.1), (.slice x36.2.1.a x36.2.1.len x36.2.1.cap x36.2.1.sz)])) then (bif (sameO (h22.cells (h.next, 0) 2) (.agg [(.int .i64 x36.1), (.slice x36.2.1.a x36.2.1.len x36.2.1.cap x36.2.1.sz)])) then (bif (sameO (h20.cells (h.next, 0) 2) (.agg [(.int .i64 x36.1), (.slice x36.2.1.a x36.2.1.len x36.2.1.cap x36.2.1.sz)])) then (bif (sameO (h54.cells (h1.next, 0) 2) (.agg [(.int .i64 x33.1), (.slice x33.2.1.a x33.2.1.len x33.2.1.cap x33.2.1.sz)])) then (bif (sameO (h54.cells (h1.next, 0) 2) (.agg [(.int .i64 x33.1), (.slice x33.2.1.a x33.2.1.len x33.2.1.cap x33.2.1.sz)])) then (bif (sameO (h54.cells (h1.next, 0) 2) (.agg [(.int .i64 x33.1), (.slice x33.2.1.a x33.2.1.len x33.2.1.cap x33.2.1.sz)])) then (bif (sameO (h50.cells (h1.next, 0) 2) (.agg [(.int .i64 x33.1), (.slice x33.2.1.a x33.2.1.len x33.2.1.cap x33.2.1.sz)])) then (bif (sameO (h46.cells (h1.next, 0) 2) (.agg [(.int .i64 x33.1), (.slice x33.2.1.a x33.2.1.len x33.2.1.cap x33.2.1.sz)])) then (bif (sameO (h44.cells (h1.next, 0) 2) (.agg [(.int .i64 x33.1), (.slice x33.2.1.a x33.2.1.len x33.2.1.cap x33.2.1.sz)])) then (bif (sameO (h42.cells (h1.next, 0) 2) (.agg [(.int .i64 x33.1), (.slice x33.2.1.a x33.2.1.len x33.2.1.cap x33.2.1.sz)])) then (bif (sameO (h39.cells (h1.next, 0) 2) (.agg [(.int .i64 x33.1), (.slice x33.2.1.a x33.2.1.len x33.2.1.cap x33.2.1.sz)])) then (bif (sameO (h35.cells (h1.next, 0) 2) (.agg [(.int .i64 x33.1), (.slice x33.2.1.a x33.2.1.len x33.2.1.cap x33.2.1.sz)])) then (bif (sameO (h30.cells (h1.next, 0) 2) (.agg [(.int .i64 x33.1), (.slice x33.2.1.a x33.2.1.len x33.2.1.cap x33.2.1.sz)])) then (bif (sameO (h26.cells (h1.next, 0) 2) (.agg [(.int .i64 x33.1), (.slice x33.2.1.a x33.2.1.len x33.2.1.cap x33.2.1.sz)])) then (bif (sameO (h22.cells (h1.next, 0) 2) (.agg [(.int .i64 x33.1), (.slice x33.2.1.a x33.2.1.len x33.2.1.cap x33.2.1.sz)])) then (bif (sameO (h20.cells (h1.next, 0) 2) (.agg [(.int .i64 x33.1), (.slice x33.2.1.a x33.2.1.len x33.2.1.cap x33.2.1.sz)])) then (bif (sameO (h54.cells (h.next, 0) 2) (.agg [(.int .i64 x32.1), (.slice x32.2.1.a x32.2.1.len x32.2.1.cap x32.2.1.sz)])) then (bif (sameO (h54.cells (h.next, 0) 2) (.agg [(.int .i64 x32.1), (.slice x32.2.1.a x32.2.1.len x32.2.1.cap x32.2.1.sz)])) then (bif (sameO (h54.cells (h.next, 0) 2) (.agg [(.int .i64 x32.1), (.slice x32.2.1.a x32.2.1.len x32.2.1.cap x32.2.1.sz)])) then (bif (sameO (h50.cells (h.next, 0) 2) (.agg [(.int .i64 x32.1), (.slice x32.2.1.a x32.2.1.len x32.2.1.cap x32.2.1.sz)])) then (bif (sameO (h46.cells (h.next, 0) 2) (.agg [(.int .i64 x32.1), (.slice x32.2.1.a x32.2.1.len x32.2.1.cap x32.2.1.sz)])) then (bif (sameO (h44.cells (h.next, 0) 2) (.agg [(.int .i64 x32.1), (.slice x32.2.1.a x32.2.1.len x32.2.1.cap x32.2.1.sz)])) then (bif (sameO (h42.cells (h.next, 0) 2) (.agg [(.int .i64 x32.1), (.slice x32.2.1.a x32.2.1.len x32.2.1.cap x32.2.1.sz)])) then (bif (sameO (h39.cells (h.next, 0) 2) (.agg [(.int .i64 x32.1), (.slice x32.2.1.a x32.2.1.len x32.2.1.cap x32.2.1.sz)])) then (bif (sameO (h35.cells (h.next, 0) 2) (.agg [(.int .i64 x32.1), (.slice x32.2.1.a x32.2.1.len x32.2.1.cap x32.2.1.sz)])) then (bif (sameO (h30.cells (h.next, 0) 2) (.agg [(.int .i64 x32.1), (.slice x32.2.1.a x32.2.1.len x32.2.1.cap x32.2.1.sz)])) then (bif (sameO (h26.cells (h.next, 0) 2) (.agg [(.int .i64 x32.1), (.slice x32.2.1.a x32.2.1.len x32.2.1.cap x32.2.1.sz)])) then (bif (sameO (h22.cells (h.next, 0) 2) (.agg [(.int .i64 x32.1), (.slice x32.2.1.a x32.2.1.len x32.2.1.cap x32.2.1.sz)])) then (bif (sameO (h20.cells (h.next, 0) 2) (.agg [(.int .i64 x32.1), (.slice x32.2.1.a x32.2.1.len x32.2.1.cap x32.2.1.sz)])) then (bif (sameO (h54.cells (h1.next, 0) 2) (.agg [(.int .i64 x28.1), (.slice x28.2.1.a x28.2.1.len x28.2.1.cap x28.2.1.sz)])) then (bif (sameO (h54.cells (h1.next, 0) 2) (.agg [(.int .i64 x28.1), (.slice x28.2.1.a x28.2.1.len x28.2.1.cap x28.2.1.sz)])) then (bif (sameO (h54.cells (h1.next, 0) 2) (.agg [(.int .i64 x28.1), (.slice x28.2.1.a x28.2.1.len x28.2.1.cap x28.2.1.sz)])) then (bif (sameO (h50.cells (h1.next, 0) 2) (.agg [(.int .i64 x28.1), (.slice x28.2.1.a x28.2.1.len x28.2.1.cap x28.2.1.sz)])) then (bif (sameO (h46.cells (h1.next, 0) 2) (.agg [(.int .i64 x28.1), (.slice x28.2.1.a x28.2.1.len x28.2.1.cap x28.2.1.sz)])) then (bif (sameO (h44.cells (h1.next, 0) 2) (.agg [(.int .i64 x28.1), (.slice x28.2.1.a x28.2.1.len x28.2.1.cap x28.2.1.sz)])) then (bif (sameO (h42.cells (h1.next, 0) 2) (.agg [(.int .i64 x28.1), (.slice x28.2.1.a x28.2.1.len x28.2.1.cap x28.2.1.sz)])) then (bif (sameO (h39.cells (h1.next, 0) 2) (.agg [(.int .i64 x28.1), (.slice x28.2.1.a x28.2.1.len x28.2.1.cap x28.2.1.sz)])) then (bif (sameO (h35.cells (h1.next, 0) 2) (.agg [(.int .i64 x28.1), (.slice x28.2.1.a x28.2.1.len x28.2.1.cap x28.2.1.sz)])) then (bif (sameO (h30.cells (h1.next, 0) 2) (.agg [(.int .i64 x28.1), (.slice x28.2.1.a x28.2.1.len x28.2.1.cap x28.2.1.sz)])) then (bif (sameO (h26.cells (h1.next, 0) 2) (.agg [(.int .i64 x28.1), (.slice x28.2.1.a x28.2.1.len x28.2.1.cap x28.2.1.sz)])) then (bif (sameO (h22.cells (h1.next, 0) 2) (.agg [(.int .i64 x28.1), (.slice x28.2.1.a x28.2.1.len x28.2.1.cap x28.2.1.sz)])) then (bif (sameO (h20.cells (h1.next, 0) 2) (.agg [(.int .i64 x28.1), (.slice x28.2.1.a x28.2.1.len x28.2.1.cap x28.2.1.sz)])) then (bif (sameO (h54.cells (h.next, 0) 2) (.agg [(.int .i64 x27.1), (.slice x27.2.1.a x27.2.1.len x27.2.1.cap x27.2.1.sz)])) then (bif (sameO (h54.cells (h.next, 0) 2) (.agg [(.int .i64 x27.1), (.slice x27.2.1.a x27.2.1.len x27.2.1.cap x27.2.1.sz)])) then (bif (sameO (h54.cells (h.next, 0) 2) (.agg [(.int .i64 x27.1), (.slice x27.2.1.a x27.2.1.len x27.2.1.cap x27.2.1.sz)])) then (bif (sameO (h50.cells (h.next, 0) 2) (.agg [(.int .i64 x27.1), (.slice x27.2.1.a x27.2.1.len x27.2.1.cap x27.2.1.sz)])) then (bif (sameO (h46.cells (h.next, 0) 2) (.agg [(.int .i64 x27.1), (.slice x27.2.1.a x27.2.1.len x27.2.1.cap x27.2.1.sz)])) then (bif (sameO (h44.cells (h.next, 0) 2) (.agg [(.int .i64 x27.1), (.slice x27.2.1.a x27.2.1.len x27.2.1.cap x27.2.1.sz)])) then (bif (sameO (h42.cells (h.next, 0) 2) (.agg [(.int .i64 x27.1), (.slice x27.2.1.a x27.2.1.len x27.2.1.cap x27.2.1.sz)])) then (bif (sameO (h39.cells (h.next, 0) 2) (.agg [(.int .i64 x27.1), (.slice x27.2.1.a x27.2.1.len x27.2.1.cap x27.2.1.sz)])) then (bif (sameO (h35.cells (h.next, 0) 2) (.agg [(.int .i64 x27.1), (.slice x27.2.1.a x27.2.1.len x27.2.1.cap x27.2.1.sz)])) then (bif (sameO (h30.cells (h.next, 0) 2) (.agg [(.int .i64 x27.1), (.slice x27.2.1.a x27.2.1.len x27.2.1.cap x27.2.1.sz)])) then (bif (sameO (h26.cells (h.next, 0) 2) (.agg [(.int .i64 x27.1), (.slice x27.2.1.a x27.2.1.len x27.2.1.cap x27.2.1.sz)])) then (bif (sameO (h22.cells (h.next, 0) 2) (.agg [(.int .i64 x27.1), (.slice x27.2.1.a x27.2.1.len x27.2.1.cap x27.2.1.sz)])) then (bif (sameO (h20.cells (h.next, 0) 2) (.agg [(.int .i64 x27.1), (.slice x27.2.1.a x27.2.1.len x27.2.1.cap x27.2.1.sz)])) then (bif (sameO (h54.cells (h1.next, 0) 2) (.agg [(.int .i64 x24.1), (.slice x24.2.1.a x24.2.1.len x24.2.1.cap x24.2.1.sz)])) then (bif (sameO (h54.cells (h1.next, 0) 2) (.agg [(.int .i64 x24.1), (.slice x24.2.1.a x24.2.1.len x24.2.1.cap x24.2.1.sz)])) then (bif (sameO (h54.cells (h1.next, 0) 2) (.agg [(.int .i64 x24.1), (.slice x24.2.1.a x24.2.1.len x24.2.1.cap x24.2.1.sz)])) then (bif (sameO (h50.cells (h1.next, 0) 2) (.agg [(.int .i64 x24.1), (.slice x24.2.1.a x24.2.1.len x24.2.1.cap x24.2.1.sz)])) then (bif (sameO (h46.cells (h1.next, 0) 2) (.agg [(.int .i64 x24.1), (.slice x24.2.1.a x24.2.1.len x24.2.1.cap x24.2.1.sz)])) then (bif (sameO (h44.cells (h1.next, 0) 2) (.agg [(.int .i64 x24.1), (.slice x24.2.1.a x24.2.1.len x24.2.1.cap x24.2.1.sz)])) then (bif (sameO (h42.cells (h1.next, 0) 2) (.agg [(.int .i64 x24.1), (.slice x24.2.1.a x24.2.1.len x24.2.1.cap x24.2.1.sz)])) then (bif (sameO (h39.cells (h1.next, 0) 2) (.agg [(.int .i64 x24.1), (.slice x24.2.1.a x24.2.1.len x24.2.1.cap x24.2.1.sz)])) then (bif (sameO (h35.cells (h1.next, 0) 2) (.agg [(.int .i64 x24.1), (.slice x24.2.1.a x24.2.1.len x24.2.1.cap x24.2.1.sz)])) then (bif (sameO (h30.cells (h1.next, 0) 2) (.agg [(.int .i64 x24.1), (.slice x24.2.1.a x24.2.1.len x24.2.1.cap x24.2.1.sz)])) then (bif (sameO (h26.cells (h1.next, 0) 2) (.agg [(.int .i64 x24.1), (.slice x24.2.1.a x24.2.1.len x24.2.1.cap x24.2.1.sz)])) then (bif (sameO (h22.cells (h1.next, 0) 2) (.agg [(.int .i64 x24.1), (.slice x24.2.1.a x24.2.1.len x24.2.1.cap x24.2.1.sz)])) then (bif (sameO (h20.cells (h1.next, 0) 2) (.agg [(.int .i64 x24.1), (.slice x24.2.1.a x24.2.1.len x24.2.1.cap x24.2.1.sz)])) then (bif (sameO (h54.cells (h.next, 0) 2) (.agg [(.int .i64 x23.1), (.slice x23.2.1.a x23.2.1.len x23.2.1.cap x23.2.1.sz)])) then (bif (sameO (h54.cells (h.next, 0) 2) (.agg [(.int .i64 x23.1), (.slice x23.2.1.a x23.2.1.len x23.2.1.cap x23.2.1.sz)])) then (bif (sameO (h54.cells (h.next, 0) 2) (.agg [(.int .i64 x23.1), (.slice x23.2.1.a x23.2.1.len x23.2.1.cap x23.2.1.sz)])) then (bif (sameO (h50.cells (h.next, 0) 2) (.agg [(.int .i64 x23.1), (.slice x23.2.1.a x23.2.1.len x23.2.1.cap x23.2.1.sz)])) then (bif (sameO (h46.cells (h.next, 0) 2) (.agg [(.int .i64 x23.1), (.slice x23.2.1.a x23.2.1.len x23.2.1.cap x23.2.1.sz)])) then (bif (sameO (h44.cells (h.next, 0) 2) (.agg [(.int .i64 x23.1), (.slice x23.2.1.a x23.2.1.len x23.2.1.cap x23.2.1.sz)])) then (bif (sameO (h42.cells (h.next, 0) 2) (.agg [(.int .i64 x23.1), (.slice x23.2.1.a x23.2.1.len x23.2.1.cap x23.2.1.sz)])) then (bif (sameO (h39.cells (h.next, 0) 2) (.agg [(.int .i64 x23.1), (.slice x23.2.1.a x23.2.1.len x23.2.1.cap x23.2.1.sz)])) then (bif (sameO (h35.cells (h.next, 0) 2) (.agg [(.int .i64 x23.1), (.slice x23.2.1.a x23.2.1.len x23.2.1.cap x23.2.1.sz)])) then (bif (sameO (h30.cells (h.next, 0) 2) (.agg [(.int .i64 x23.1), (.slice x23.2.1.a x23.2.1.len x23.2.1.cap x23.2.1.sz)])) then (bif (sameO (h26.cells (h.next, 0) 2) (.agg [(.int .i64 x23.1), (.slice x23.2.1.a x23.2.1.len x23.2.1.cap x23.2.1.sz)])) then (bif (sameO (h22.cells (h.next, 0) 2) (.agg [(.int .i64 x23.1), (.slice x23.2.1.a x23.2.1.len x23.2.1.cap x23.2.1.sz)])) then (bif (sameO (h20.cells (h.next, 0) 2) (.agg [(.int .i64 x23.1), (.slice x23.2.1.a x23.2.1.len x23.2.1.cap x23.2.1.sz)])) then true else false) else false) else false) else false) else false) else false) else false) else false) else false) else false) else false) else false) else false) else false) else false) else false) else false) else false) else false) else false) else false) else false) else false) else false) else false) else false) else false) else false) else false) else false) else false) else false) else false) else false) else false) else false) else false) else false) else false) else false) else false) else false) else false) else false) else false) else false) else false) else false) else false) else false) else false) else false) else false) else false) else false) else false) else false) else false) else false) else false) else false) else false) else false) else false) else false) else false) else false) else false) else false) else false) else false) else false) else false) else false) else false) else false) else false) else false) else false) else false) else false) else false) else false) else false) else false) else false) else false) else false) else false) else false) else false) else false) else false) else false) else false) else false) else false) else false) else false) else false) else false) else false) else false) else false) else false) else false) else false) else false) else false) else false) else false) else false) else false) else false) else false) else false) else false) else false) else false) else false) else false) else false) else false) else false) else false) else false) else false) else false) else false) else false) else false) else false) else false) else false) else false) else false) else false) else false) else false) else false) else false) else false) else false) else false) else false) else false) else false) else false) else false) else false) else false) else false) else false) else false) else false) else false) else false) else false) else false) else false) else false) else false) else false) else false) else false) else false) else false) else false) else false) else false) else false) else false) else false) else false) else false) else false) else false) else false) else false) else false) else false) else false) (
         some (false, h54))))))))))
       else
        (guardB (bif (sameO (h46.cells (h18.next, 0) 2) (.agg [(.int .i64 x43.1), (.slice x43.2.1.a x43.2.1.len x43.2.1.cap x43.2.1.sz)])) then (bif (sameO (h46.cells (h18.next, 0) 2) (.agg [(.int .i64 x43.1), (.slice x43.2.1.a x43.2.1.len x43.2.1.cap x43.2.1.sz)])) then (bif (sameO (h46.cells (h18.next, 0) 2) (.agg [(.int .i64 x43.1), (.slice x43.2.1.a x43.2.1.len x43.2.1.cap x43.2.1.sz)])) then (bif (sameO (h46.cells (h18.next, 0) 2) (.agg [(.int .i64 x43.1), (.slice x43.2.1.a x43.2.1.len x43.2.1.cap x43.2.1.sz)])) then (bif (sameO (h46.cells (h18.next, 0) 2) (.agg [(.int .i64 x43.1), (.slice x43.2.1.a x43.2.1.len x43.2.1.cap x43.2.1.sz)])) then (bif (sameO (h44.cells (h18.next, 0) 2) (.agg [(.int .i64 x43.1), (.slice x43.2.1.a x43.2.1.len x43.2.1.cap x43.2.1.sz)])) then (bif (sameO (h42.cells (h18.next, 0) 2) (.agg [(.int .i64 x43.1), (.slice x43.2.1.a x43.2.1.len x43.2.1.cap x43.2.1.sz)])) then (bif (sameO (h39.cells (h18.next, 0) 2) (.agg [(.int .i64 x43.1), (.slice x43.2.1.a x43.2.1.len x43.2.1.cap x43.2.1.sz)])) then (bif (sameO (h35.cells (h18.next, 0) 2) (.agg [(.int .i64 x43.1), (.slice x43.2.1.a x43.2.1.len x43.2.1.cap x43.2.1.sz)])) then (bif (sameO (h30.cells (h18.next, 0) 2) (.agg [(.int .i64 x43.1), (.slice x43.2.1.a x43.2.1.len x43.2.1.cap x43.2.1.sz)])) then (bif (sameO (h26.cells (h18.next, 0) 2) (.agg [(.int .i64 x43.1), (.slice x43.2.1.a x43.2.1.len x43.2.1.cap x43.2.1.sz)])) then (bif (sameO (h22.cells (h18.next, 0) 2) (.agg [(.int .i64 x43.1), (.slice x43.2.1.a x43.2.1.len x43.2.1.cap x43.2.1.sz)])) then (bif (sameO (h20.cells (h18.next, 0) 2) (.agg [(.int .i64 x43.1), (.slice x43.2.1.a x43.2.1.len x43.2.1.cap x43.2.1.sz)])) then (bif (sameO (h46.cells (h13.next, 0) 2) (.agg [(.int .i64 x41.1), (.slice x41.2.1.a x41.2.1.len x41.2.1.cap x41.2.1.sz)])) then (bif (sameO (h46.cells (h13.next, 0) 2) (.agg [(.int .i64 x41.1), (.slice x41.2.1.a x41.2.1.len x41.2.1.cap x41.2.1.sz)])) then (bif (sameO (h46.cells (h13.next, 0) 2) (.agg [(.int .i64 x41.1), (.slice x41.2.1.a x41.2.1.len x41.2.1.cap x41.2.1.sz)])) then (bif (sameO (h46.cells (h13.next, 0) 2) (.agg [(.int .i64 x41.1), (.slice x41.2.1.a x41.2.1.len x41.2.1.cap x41.2.1.sz)])) then (bif (sameO (h46.cells (h13.next, 0) 2) (.agg [(.int .i64 x41.1), (.slice x41.2.1.a x41.2.1.len x41.2.1.cap x41.2.1.sz)])) then (bif (sameO (h44.cells (h13.next, 0) 2) (.agg [(.int .i64 x41.1), (.slice x41.2.1.a x41.2.1.len x41.2.1.cap x41.2.1.sz)])) then (bif (sameO (h42.cells (h13.next, 0) 2) (.agg [(.int .i64 x41.1), (.slice x41.2.1.a x41.2.1.len x41.2.1.cap x41.2.1.sz)])) then (bif (sameO (h39.cells (h13.next, 0) 2) (.agg [(.int .i64 x41.1), (.slice x41.2.1.a x41.2.1.len x41.2.1.cap x41.2.1.sz)])) then (bif (sameO (h35.cells (h13.next, 0) 2) (.agg [(.int .i64 x41.1), (.slice x41.2.1.a x41.2.1.len x41.2.1.cap x41.2.1.sz)])) then (bif (sameO (h30.cells (h13.next, 0) 2) (.agg [(.int .i64 x41.1), (.slice x41.2.1.a x41.2.1.len x41.2.1.cap x41.2.1.sz)])) then (bif (sameO (h26.cells (h13.next, 0) 2) (.agg [(.int .i64 x41.1), (.slice x41.2.1.a x41.2.1.len x41.2.1.cap x41.2.1.sz)])) then (bif (sameO (h22.cells (h13.next, 0) 2) (.agg [(.int .i64 x41.1), (.slice x41.2.1.a x41.2.1.len x41.2.1.cap x41.2.1.sz)])) then (bif (sameO (h20.cells (h13.next, 0) 2) (.agg [(.int .i64 x41.1), (.slice x41.2.1.a x41.2.1.len x41.2.1.cap x41.2.1.sz)])) then (bif (sameO (h46.cells (h1.next, 0) 2) (.agg [(.int .i64 x37.1), (.slice x37.2.1.a x37.2.1.len x37.2.1.cap x37.2.1.sz)])) then (bif (sameO (h46.cells (h1.next, 0) 2) (.agg [(.int .i64 x37.1), (.slice x37.2.1.a x37.2.1.len x37.2.1.cap x37.2.1.sz)])) then (bif (sameO (h46.cells (h1.next, 0) 2) (.agg [(.int .i64 x37.1), (.slice x37.2.1.a x37.2.1.len x37.2.1.cap x37.2.1.sz)])) then (bif (sameO (h46.cells (h1.next, 0) 2) (.agg [(.int .i64 x37.1), (.slice x37.2.1.a x37.2.1.len x37.2.1.cap x37.2.1.sz)])) then (bif (sameO (h46.cells (h1.next, 0) 2) (.agg [(.int .i64 x37.1), (.slice x37.2.1.a x37.2.1.len x37.2.1.cap x37.2.1.sz)])) then (bif (sameO (h44.cells (h1.next, 0) 2) (.agg [(.int .i64 x37.1), (.slice x37.2.1.a x37.2.1.len x37.2.1.cap x37.2.1.sz)])) then (bif (sameO (h42.cells (h1.next, 0) 2) (.agg [(.int .i64 x37.1), (.slice x37.2.1.a x37.2.1.len x37.2.1.cap x37.2.1.sz)])) then (bif (sameO (h39.cells (h1.next, 0) 2) (.agg [(.int .i64 x37.1), (.slice x37.2.1.a x37.2.1.len x37.2.1.cap x37.2.1.sz)])) then (bif (sameO (h35.cells (h1.next, 0) 2) (.agg [(.int .i64 x37.1), (.slice x37.2.1.a x37.2.1.len x37.2.1.cap x37.2.1.sz)])) then (bif (sameO (h30.cells (h1.next, 0) 2) (.agg [(.int .i64 x37.1), (.slice x37.2.1.a x37.2.1.len x37.2.1.cap x37.2.1.sz)])) then (bif (sameO (h26.cells (h1.next, 0) 2) (.agg [(.int .i64 x37.1), (.slice x37.2.1.a x37.2.1.len x37.2.1.cap x37.2.1.sz)])) then (bif (sameO (h22.cells (h1.next, 0) 2) (.agg [(.int .i64 x37.1), (.slice x37.2.1.a x37.2.1.len x37.2.1.cap x37.2.1.sz)])) then (bif (sameO (h20.cells (h1.next, 0) 2) (.agg [(.int .i64 x37.1), (.slice x37.2.1.a x37.2.1.len x37.2.1.cap x37.2.1.sz)])) then (bif (sameO (h46.cells (h.next, 0) 2) (.agg [(.int .i64 x36.1), (.slice x36.2.1.a x36.2.1.len x36.2.1.cap x36.2.1.sz)])) then (bif (sameO (h46.cells (h.next, 0) 2) (.agg [(.int .i64 x36.1), (.slice x36.2.1.a x36.2.1.len x36.2.1.cap x36.2.1.sz)])) then (bif (sameO (h46.cells (h.next, 0) 2) (.agg [(.int .i64 x36.1), (.slice x36.2.1.a x36.2.1.len x36.2.1.cap x36.2.1.sz)])) then (bif (sameO (h46.cells (h.next, 0) 2) (.agg [(.int .i64 x36.1), (.slice x36.2.1.a x36.2.1.len x36.2.1.cap x36.2.1.sz)])) then (bif (sameO (h46.cells (h.next, 0) 2) (.agg [(.int .i64 x36.1), (.slice x36.2.1.a x36.2.1.len x36.2.1.cap x36.2.1.sz)])) then (bif (sameO (h44.cells (h.next, 0) 2) (.agg [(.int .i64 x36.1), (.slice x36.2.1.a x36.2.1.len x36.2.1.cap x36.2.1.sz)])) then (bif (sameO (h42.cells (h.next, 0) 2) (.agg [(.int .i64 x36.1), (.slice x36.2.1.a x36.2.1.len x36.2.1.cap x36.2.1.sz)])) then (bif (sameO (h39.cells (h.next, 0) 2) (.agg [(.int .i64 x36.1), (.slice x36.2.1.a x36.2.1.len x36.2.1.cap x36.2.1.sz)])) then (bif (sameO (h35.cells (h.next, 0) 2) (.agg [(.int .i64 x36.1), (.slice x36.2.1.a x36.2.1.len x36.2.1.cap x36.2.1.sz)])) then (bif (sameO (h30.cells (h.next, 0) 2) (.agg [(.int .i64 x36.1), (.slice x36.2.1.a x36.2.1.len x36.2.1.cap x36.2.1.sz)])) then (bif (sameO (h26.cells (h.next, 0) 2) (.agg [(.int .i64 x36.1), (.slice x36.2.1.a x36.2.1.len x36.2.1.cap x36.2.1.sz)])) then (bif (sameO (h22.cells (h.next, 0) 2) (.agg [(.int .i64 x36.1), (.slice x36.2.1.a x36.2.1.len x36.2.1.cap x36.2.1.sz)])) then (bif (sameO (h20.cells (h.next, 0) 2) (.agg [(.int .i64 x36.1), (.slice x36.2.1.a x36.2.1.len x36.2.1.cap x36.2.1.sz)])) then (bif (sameO (h46.cells (h1.next, 0) 2) (.agg [(.int .i64 x33.1), (.slice x33.2.1.a x33.2.1.len x33.2.1.cap x33.2.1.sz)])) then (bif (sameO (h46.cells (h1.next, 0) 2) (.agg [(.int .i64 x33.1), (.slice x33.2.1.a x33.2.1.len x33.2.1.cap x33.2.1.sz)])) then (bif (sameO (h46.cells (h1.next, 0) 2) (.agg [(.int .i64 x33.1), (.slice x33.2.1.a x33.2.1.len x33.2.1.cap x33.2.1.sz)])) then (bif (sameO (h46.cells (h1.next, 0) 2) (.agg [(.int .i64 x33.1), (.slice x33.2.1.a x33.2.1.len x33.2.1.cap x33.2.1.sz)])) then (bif (sameO (h46.cells (h1.next, 0) 2) (.agg [(.int .i64 x33.1), (.slice x33.2.1.a x33.2.1.len x33.2.1.cap x33.2.1.sz)])) then (bif (sameO (h44.cells (h1.next, 0) 2) (.agg [(.int .i64 x33.1), (.slice x33.2.1.a x33.2.1.len x33.2.1.cap x33.2.1.sz)])) then (bif (sameO (h42.cells (h1.next, 0) 2) (.agg [(.int .i64 x33.1), (.slice x33.2.1.a x33.2.1.len x33.2.1.cap x33.2.1.sz)])) then (bif (sameO (h39.cells (h1.next, 0) 2) (.agg [(.int .i64 x33.1), (.slice x33.2.1.a x33.2.1.len x33.2.1.cap x33.2.1.sz)])) then (bif (sameO (h35.cells (h1.next, 0) 2) (.agg [(.int .i64 x33.1), (.slice x33.2.1.a x33.2.1.len x33.2.1.cap x33.2.1.sz)])) then (bif (sameO (h30.cells (h1.next, 0) 2) (.agg [(.int .i64 x33.1), (.slice x33.2.1.a x33.2.1.len x33.2.1.cap x33.2.1.sz)])) then (bif (sameO (h26.cells (h1.next, 0) 2) (.agg [(.int .i64 x33.1), (.slice x33.2.1.a x33.2.1.len x33.2.1.cap x33.2.1.sz)])) then (bif (sameO (h22.cells (h1.next, 0) 2) (.agg [(.int .i64 x33.1), (.slice x33.2.1.a x33.2.1.len x33.2.1.cap x33.2.1.sz)])) then (bif (sameO (h20.cells (h1.next, 0) 2) (.agg [(.int .i64 x33.1), (.slice x33.2.1.a x33.2.1.len x33.2.1.cap x33.2.1.sz)])) then (bif (sameO (h46.cells (h.next, 0) 2) (.agg [(.int .i64 x32.1), (.slice x32.2.1.a x32.2.1.len x32.2.1.cap x32.2.1.sz)])) then (bif (sameO (h46.cells (h.next, 0) 2) (.agg [(.int .i64 x32.1), (.slice x32.2.1.a x32.2.1.len x32.2.1.cap x32.2.1.sz)])) then (bif (sameO (h46.cells (h.next, 0) 2) (.agg [(.int .i64 x32.1), (.slice x32.2.1.a x32.2.1.len x32.2.1.cap x32.2.1.sz)])) then (bif (sameO (h46.cells (h.next, 0) 2) (.agg [(.int .i64 x32.1), (.slice x32.2.1.a x32.2.1.len x32.2.1.cap x32.2.1.sz)])) then (bif (sameO (h46.cells (h.next, 0) 2) (.agg [(.int .i64 x32.1), (.slice x32.2.1.a x32.2.1.len x32.2.1.cap x32.2.1.sz)])) then (bif (sameO (h44.cells (h.next, 0) 2) (.agg [(.int .i64 x32.1), (.slice x32.2.1.a x32.2.1.len x32.2.1.cap x32.2.1.sz)])) then (bif (sameO (h42.cells (h.next, 0) 2) (.agg [(.int .i64 x32.1), (.slice x32.2.1.a x32.2.1.len x32.2.1.cap x32.2.1.sz)])) then (bif (sameO (h39.cells (h.next, 0) 2) (.agg [(.int .i64 x32.1), (.slice x32.2.1.a x32.2.1.len x32.2.1.cap x32.2.1.sz)])) then (bif (sameO (h35.cells (h.next, 0) 2) (.agg [(.int .i64 x32.1), (.slice x32.2.1.a x32.2.1.len x32.2.1.cap x32.2.1.sz)])) then (bif (sameO (h30.cells (h.next, 0) 2) (.agg [(.int .i64 x32.1), (.slice x32.2.1.a x32.2.1.len x32.2.1.cap x32.2.1.sz)])) then (bif (sameO (h26.cells (h.next, 0) 2) (.agg [(.int .i64 x32.1), (.slice x32.2.1.a x32.2.1.len x32.2.1.cap x32.2.1.sz)])) then (bif (sameO (h22.cells (h.next, 0) 2) (.agg [(.int .i64 x32.1), (.slice x32.2.1.a x32.2.1.len x32.2.1.cap x32.2.1.sz)])) then (bif (sameO (h20.cells (h.next, 0) 2) (.agg [(.int .i64 x32.1), (.slice x32.2.1.a x32.2.1.len x32.2.1.cap x32.2.1.sz)])) then (bif (sameO (h46.cells (h1.next, 0) 2) (.agg [(.int .i64 x28.1), (.slice x28.2.1.a x28.2.1.len x28.2.1.cap x28.2.1.sz)])) then (bif (sameO (h46.cells (h1.next, 0) 2) (.agg [(.int .i64 x28.1), (.slice x28.2.1.a x28.2.1.len x28.2.1.cap x28.2.1.sz)])) then (bif (sameO (h46.cells (h1.next, 0) 2) (.agg [(.int .i64 x28.1), (.slice x28.2.1.a x28.2.1.len x28.2.1.cap x28.2.1.sz)])) then (bif (sameO (h46.cells (h1.next, 0) 2) (.agg [(.int .i64 x28.1), (.slice x28.2.1.a x28.2.1.len x28.2.1.cap x28.2.1.sz)])) then (bif (sameO (h46.cells (h1.next, 0) 2) (.agg [(.int .i64 x28.1), (.slice x28.2.1.a x28.2.1.len x28.2.1.cap x28.2.1.sz)])) then (bif (sameO (h44.cells (h1.next, 0) 2) (.agg [(.int .i64 x28.1), (.slice x28.2.1.a x28.2.1.len x28.2.1.cap x28.2.1.sz)])) then (bif (sameO (h42.cells (h1.next, 0) 2) (.agg [(.int .i64 x28.1), (.slice x28.2.1.a x28.2.1.len x28.2.1.cap x28.2.1.sz)])) then (bif (sameO (h39.cells (h1.next, 0) 2) (.agg [(.int .i64 x28.1), (.slice x28.2.1.a x28.2.1.len x28.2.1.cap x28.2.1.sz)])) then (bif (sameO (h35.cells (h1.next, 0) 2) (.agg [(.int .i64 x28.1), (.slice x28.2.1.a x28.2.1.len x28.2.1.cap x28.2.1.sz)])) then (bif (sameO (h30.cells (h1.next, 0) 2) (.agg [(.int .i64 x28.1), (.slice x28.2.1.a x28.2.1.len x28.2.1.cap x28.2.1.sz)])) then (bif (sameO (h26.cells (h1.next, 0) 2) (.agg [(.int .i64 x28.1), (.slice x28.2.1.a x28.2.1.len x28.2.1.cap x28.2.1.sz)])) then (bif (sameO (h22.cells (h1.next, 0) 2) (.agg [(.int .i64 x28.1), (.slice x28.2.1.a x28.2.1.len x28.2.1.cap x28.2.1.sz)])) then (bif (sameO (h20.cells (h1.next, 0) 2) (.agg [(.int .i64 x28.1), (.slice x28.2.1.a x28.2.1.len x28.2.1.cap x28.2.1.sz)])) then (bif (sameO (h46.cells (h.next, 0) 2) (.agg [(.int .i64 x27.1), (.slice x27.2.1.a x27.2.1.len x27.2.1.cap x27.2.1.sz)])) then (bif (sameO (h46.cells (h.next, 0) 2) (.agg [(.int .i64 x27.1), (.slice x27.2.1.a x27.2.1.len x27.2.1.cap x27.2.1.sz)])) then (bif (sameO (h46.cells (h.next, 0) 2) (.agg [(.int .i64 x27.1), (.slice x27.2.1.a x27.2.1.len x27.2.1.cap x27.2.1.sz)])) then (bif (sameO (h46.cells (h.next, 0) 2) (.agg [(.int .i64 x27.1), (.slice x27.2.1.a x27.2.1.len x27.2.1.cap x27.2.1.sz)])) then (bif (sameO (h46.cells (h.next, 0) 2) (.agg [(.int .i64 x27.1), (.slice x27.2.1.a x27.2.1.len x27.2.1.cap x27.2.1.sz)])) then (bif (sameO (h44.cells (h.next, 0) 2) (.agg [(.int .i64 x27.1), (.slice x27.2.1.a x27.2.1.len x27.2.1.cap x27.2.1.sz)])) then (bif (sameO (h42.cells (h.next, 0) 2) (.agg [(.int .i64 x27.1), (.slice x27.2.1.a x27.2.1.len x27.2.1.cap x27.2.1.sz)])) then (bif (sameO (h39.cells (h.next, 0) 2) (.agg [(.int .i64 x27.1), (.slice x27.2.1.a x27.2.1.len x27.2.1.cap x27.2.1.sz)])) then (bif (sameO (h35.cells (h.next, 0) 2) (.agg [(.int .i64 x27.1), (.slice x27.2.1.a x27.2.1.len x27.2.1.cap x27.2.1.sz)])) then (bif (sameO (h30.cells (h.next, 0) 2) (.agg [(.int .i64 x27.1), (.slice x27.2.1.a x27.2.1.len x27.2.1.cap x27.2.1.sz)])) then (bif (sameO (h26.cells (h.next, 0) 2) (.agg [(.int .i64 x27.1), (.slice x27.2.1.a x27.2.1.len x27.2.1.cap x27.2.1.sz)])) then (bif (sameO (h22.cells (h.next, 0) 2) (.agg [(.int .i64 x27.1), (.slice x27.2.1.a x27.2.1.len x27.2.1.cap x27.2.1.sz)])) then (bif (sameO (h20.cells (h.next, 0) 2) (.agg [(.int .i64 x27.1), (.slice x27.2.1.a x27.2.1.len x27.2.1.cap x27.2.1.sz)])) then (bif (sameO (h46.cells (h1.next, 0) 2) (.agg [(.int .i64 x24.1), (.slice x24.2.1.a x24.2.1.len x24.2.1.cap x24.2.1.sz)])) then (bif (sameO (h46.cells (h1.next, 0) 2) (.agg [(.int .i64 x24.1), (.slice x24.2.1.a x24.2.1.len x24.2.1.cap x24.2.1.sz)])) then (bif (sameO (h46.cells (h1.next, 0) 2) (.agg [(.int .i64 x24.1), (.slice x24.2.1.a x24.2.1.len x24.2.1.cap x24.2.1.sz)])) then (bif (sameO (h46.cells (h1.next, 0) 2) (.agg [(.int .i64 x24.1), (.slice x24.2.1.a x24.2.1.len x24.2.1.cap x24.2.1.sz)])) then (bif (sameO (h46.cells (h1.next, 0) 2) (.agg [(.int .i64 x24.1), (.slice x24.2.1.a x24.2.1.len x24.2.1.cap x24.2.1.sz)])) then (bif (sameO (h44.cells (h1.next, 0) 2) (.agg [(.int .i64 x24.1), (.slice x24.2.1.a x24.2.1.len x24.2.1.cap x24.2.1.sz)])) then (bif (sameO (h42.cells (h1.next, 0) 2) (.agg [(.int .i64 x24.1), (.slice x24.2.1.a x24.2.1.len x24.2.1.cap x24.2.1.sz)])) then (bif (sameO (h39.cells (h1.next, 0) 2) (.agg [(.int .i64 x24.1), (.slice x24.2.1.a x24.2.1.len x24.2.1.cap x24.2.1.sz)])) then (bif (sameO (h35.cells (h1.next, 0) 2) (.agg [(.int .i64 x24.1), (.slice x24.2.1.a x24.2.1.len x24.2.1.cap x24.2.1.sz)])) then (bif (sameO (h30.cells (h1.next, 0) 2) (.agg [(.int .i64 x24.1), (.slice x24.2.1.a x24.2.1.len x24.2.1.cap x24.2.1.sz)])) then (bif (sameO (h26.cells (h1.next, 0) 2) (.agg [(.int .i64 x24.1), (.slice x24.2.1.a x24.2.1.len x24.2.1.cap x24.2.1.sz)])) then (bif (sameO (h22.cells (h1.next, 0) 2) (.agg [(.int .i64 x24.1), (.slice x24.2.1.a x24.2.1.len x24.2.1.cap x24.2.1.sz)])) then (bif (sameO (h20.cells (h1.next, 0) 2) (.agg [(.int .i64 x24.1), (.slice x24.2.1.a x24.2.1.len x24.2.1.cap x24.2.1.sz)])) then (bif (sameO (h46.cells (h.next, 0) 2) (.agg [(.int .i64 x23.1), (.slice x23.2.1.a x23.2.1.len x23.2.1.cap x23.2.1.sz)])) then (bif (sameO (h46.cells (h.next, 0) 2) (.agg [(.int .i64 x23.1), (.slice x23.2.1.a x23.2.1.len x23.2.1.cap x23.2.1.sz)])) then (bif (sameO (h46.cells (h.next, 0) 2) (.agg [(.int .i64 x23.1), (.slice x23.2.1.a x23.2.1.len x23.2.1.cap x23.2.1.sz)])) then (bif (sameO (h46.cells (h.next, 0) 2) (.agg [(.int .i64 x23.1), (.slice x23.2.1.a x23.2.1.len x23.2.1.cap x23.2.1.sz)])) then (bif (sameO (h46.cells (h.next, 0) 2) (.agg [(.int .i64 x23.1), (.slice x23.2.1.a x23.2.1.len x23.2.1.cap x23.2.1.sz)])) then (bif (sameO (h44.cells (h.next, 0) 2) (.agg [(.int .i64 x23.1), (.slice x23.2.1.a x23.2.1.len x23.2.1.cap x23.2.1.sz)])) then (bif (sameO (h42.cells (h.next, 0) 2) (.agg [(.int .i64 x23.1), (.slice x23.2.1.a x23.2.1.len x23.2.1.cap x23.2.1.sz)])) then (bif (sameO (h39.cells (h.next, 0) 2) (.agg [(.int .i64 x23.1), (.slice x23.2.1.a x23.2.1.len x23.2.1.cap x23.2.1.sz)])) then (bif (sameO (h35.cells (h.next, 0) 2) (.agg [(.int .i64 x23.1), (.slice x23.2.1.a x23.2.1.len x23.2.1.cap x23.2.1.sz)])) then (bif (sameO (h30.cells (h.next, 0) 2) (.agg [(.int .i64 x23.1), (.slice x23.2.1.a x23.2.1.len x23.2.1.cap x23.2.1.sz)])) then (bif (sameO (h26.cells (h.next, 0) 2) (.agg [(.int .i64 x23.1), (.slice x23.2.1.a x23.2.1.len x23.2.1.cap x23.2.1.sz)])) then (bif (sameO (h22.cells (h.next, 0) 2) (.agg [(.int .i64 x23.1), (.slice x23.2.1.a x23.2.1.len x23.2.1.cap x23.2.1.sz)])) then (bif (sameO (h20.cells (h.next, 0) 2) (.agg [(.int .i64 x23.1), (.slice x23.2.1.a x23.2.1.len x23.2.1.cap x23.2.1.sz)])) then true else false) else false) else false) else false) else false) else false) else false) else false) else false) else false) else false) else false) else false) else false) else false) else false) else false) else false) else false) else false) else false) else false) else false) else false) else false) else false) else false) else false) else false) else false) else false) else false) else false) else false) else false) else false) else false) else false) else false) else false) else false) else false) else false) else false) else false) else false) else false) else false) else false) else false) else false) else false) else false) else false) else false) else false) else false) else false) else false) else false) else false) else false) else false) else false) else false) else false) else false) else false) else false) else false) else false) else false) else false) else false) else false) else false) else false) else false) else false) else false) else false) else false) else false) else false) else false) else false) else false) else false) else false) else false) else false) else false) else false) else false) else false) else false) else false) else false) else false) else false) else false) else false) else false) else false) else false) else false) else false) else false) else false) else false) else false) else false) else false) else false) else false) else false) else false) else false) else false) else false) else false) else false) else false) else false) else false) else false) else false) else false) else false) else false) (
        some (false, h46)))))))
      else
       (guardB (bif (sameO (h39.cells (h1.next, 0) 2) (.agg [(.int .i64 x37.1), (.slice x37.2.1.a x37.2.1.len x37.2.1.cap x37.2.1.sz)])) then (bif (sameO (h39.cells (h1.next, 0) 2) (.agg [(.int .i64 x37.1), (.slice x37.2.1.a x37.2.1.len x37.2.1.cap x37.2.1.sz)])) then (bif (sameO (h39.cells (h1.next, 0) 2) (.agg [(.int .i64 x37.1), (.slice x37.2.1.a x37.2.1.len x37.2.1.cap x37.2.1.sz)])) then (bif (sameO (h39.cells (h1.next, 0) 2) (.agg [(.int .i64 x37.1), (.slice x37.2.1.a x37.2.1.len x37.2.1.cap x37.2.1.sz)])) then (bif (sameO (h39.cells (h1.next, 0) 2) (.agg [(.int .i64 x37.1), (.slice x37.2.1.a x37.2.1.len x37.2.1.cap x37.2.1.sz)])) then (bif (sameO (h39.cells (h1.next, 0) 2) (.agg [(.int .i64 x37.1), (.slice x37.2.1.a x37.2.1.len x37.2.1.cap x37.2.1.sz)])) then (bif (sameO (h39.cells (h1.next, 0) 2) (.agg [(.int .i64 x37.1), (.slice x37.2.1.a x37.2.1.len x37.2.1.cap x37.2.1.sz)])) then (bif (sameO (h39.cells (h1.next, 0) 2) (.agg [(.int .i64 x37.1), (.slice x37.2.1.a x37.2.1.len x37.2.1.cap x37.2.1.sz)])) then (bif (sameO (h35.cells (h1.next, 0) 2) (.agg [(.int .i64 x37.1), (.slice x37.2.1.a x37.2.1.len x37.2.1.cap x37.2.1.sz)])) then (bif (sameO (h30.cells (h1.next, 0) 2) (.agg [(.int .i64 x37.1), (.slice x37.2.1.a x37.2.1.len x37.2.1.cap x37.2.1.sz)])) then (bif (sameO (h26.cells (h1.next, 0) 2) (.agg [(.int .i64 x37.1), (.slice x37.2.1.a x37.2.1.len x37.2.1.cap x37.2.1.sz)])) then (bif (sameO (h22.cells (h1.next, 0) 2) (.agg [(.int .i64 x37.1), (.slice x37.2.1.a x37.2.1.len x37.2.1.cap x37.2.1.sz)])) then (bif (sameO (h20.cells (h1.next, 0) 2) (.agg [(.int .i64 x37.1), (.slice x37.2.1.a x37.2.1.len x37.2.1.cap x37.2.1.sz)])) then (bif (sameO (h39.cells (h.next, 0) 2) (.agg [(.int .i64 x36.1), (.slice x36.2.1.a x36.2.1.len x36.2.1.cap x36.2.1.sz)])) then (bif (sameO (h39.cells (h.next, 0) 2) (.agg [(.int .i64 x36.1), (.slice x36.2.1.a x36.2.1.len x36.2.1.cap x36.2.1.sz)])) then (bif (sameO (h39.cells (h.next, 0) 2) (.agg [(.int .i64 x36.1), (.slice x36.2.1.a x36.2.1.len x36.2.1.cap x36.2.1.sz)])) then (bif (sameO (h39.cells (h.next, 0) 2) (.agg [(.int .i64 x36.1), (.slice x36.2.1.a x36.2.1.len x36.2.1.cap x36.2.1.sz)])) then (bif (sameO (h39.cells (h.next, 0) 2) (.agg [(.int .i64 x36.1), (.slice x36.2.1.a x36.2.1.len x36.2.1.cap x36.2.1.sz)])) then (bif (sameO (h39.cells (h.next, 0) 2) (.agg [(.int .i64 x36.1), (.slice x36.2.1.a x36.2.1.len x36.2.1.cap x36.2.1.sz)])) then (bif (sameO (h39.cells (h.next, 0) 2) (.agg [(.int .i64 x36.1), (.slice x36.2.1.a x36.2.1.len x36.2.1.cap x36.2.1.sz)])) then (bif (sameO (h39.cells (h.next, 0) 2) (.agg [(.int .i64 x36.1), (.slice x36.2.1.a x36.2.1.len x36.2.1.cap x36.2.1.sz)])) then (bif (sameO (h35.cells (h.next, 0) 2) (.agg [(.int .i64 x36.1), (.slice x36.2.1.a x36.2.1.len x36.2.1.cap x36.2.1.sz)])) then (bif (sameO (h30.cells (h.next, 0) 2) (.agg [(.int .i64 x36.1), (.slice x36.2.1.a x36.2.1.len x36.2.1.cap x36.2.1.sz)])) then (bif (sameO (h26.cells (h.next, 0) 2) (.agg [(.int .i64 x36.1), (.slice x36.2.1.a x36.2.1.len x36.2.1.cap x36.2.1.sz)])) then (bif (sameO (h22.cells (h.next, 0) 2) (.agg [(.int .i64 x36.1), (.slice x36.2.1.a x36.2.1.len x36.2.1.cap x36.2.1.sz)])) then (bif (sameO (h20.cells (h.next, 0) 2) (.agg [(.int .i64 x36.1), (.slice x36.2.1.a x36.2.1.len x36.2.1.cap x36.2.1.sz)])) then (bif (sameO (h39.cells (h1.next, 0) 2) (.agg [(.int .i64 x33.1), (.slice x33.2.1.a x33.2.1.len x33.2.1.cap x33.2.1.sz)])) then (bif (sameO (h39.cells (h1.next, 0) 2) (.agg [(.int .i64 x33.1), (.slice x33.2.1.a x33.2.1.len x33.2.1.cap x33.2.1.sz)])) then (bif (sameO (h39.cells (h1.next, 0) 2) (.agg [(.int .i64 x33.1), (.slice x33.2.1.a x33.2.1.len x33.2.1.cap x33.2.1.sz)])) then (bif (sameO (h39.cells (h1.next, 0) 2) (.agg [(.int .i64 x33.1), (.slice x33.2.1.a x33.2.1.len x33.2.1.cap x33.2.1.sz)])) then (bif (sameO (h39.cells (h1.next, 0) 2) (.agg [(.int .i64 x33.1), (.slice x33.2.1.a x33.2.1.len x33.2.1.cap x33.2.1.sz)])) then (bif (sameO (h39.cells (h1.next, 0) 2) (.agg [(.int .i64 x33.1), (.slice x33.2.1.a x33.2.1.len x33.2.1.cap x33.2.1.sz)])) then (bif (sameO (h39.cells (h1.next, 0) 2) (.agg [(.int .i64 x33.1), (.slice x33.2.1.a x33.2.1.len x33.2.1.cap x33.2.1.sz)])) then (bif (sameO (h39.cells (h1.next, 0) 2) (.agg [(.int .i64 x33.1), (.slice x33.2.1.a x33.2.1.len x33.2.1.cap x33.2.1.sz)])) then (bif (sameO (h35.cells (h1.next, 0) 2) (.agg [(.int .i64 x33.1), (.slice x33.2.1.a x33.2.1.len x33.2.1.cap x33.2.1.sz)])) then (bif (sameO (h30.cells (h1.next, 0) 2) (.agg [(.int .i64 x33.1), (.slice x33.2.1.a x33.2.1.len x33.2.1.cap x33.2.1.sz)])) then (bif (sameO (h26.cells (h1.next, 0) 2) (.agg [(.int .i64 x33.1), (.slice x33.2.1.a x33.2.1.len x33.2.1.cap x33.2.1.sz)])) then (bif (sameO (h22.cells (h1.next, 0) 2) (.agg [(.int .i64 x33.1), (.slice x33.2.1.a x33.2.1.len x33.2.1.cap x33.2.1.sz)])) then (bif (sameO (h20.cells (h1.next, 0) 2) (.agg [(.int .i64 x33.1), (.slice x33.2.1.a x33.2.1.len x33.2.1.cap x33.2.1.sz)])) then (bif (sameO (h39.cells (h.next, 0) 2) (.agg [(.int .i64 x32.1), (.slice x32.2.1.a x32.2.1.len x32.2.1.cap x32.2.1.sz)])) then (bif (sameO (h39.cells (h.next, 0) 2) (.agg [(.int .i64 x32.1), (.slice x32.2.1.a x32.2.1.len x32.2.1.cap x32.2.1.sz)])) then (bif (sameO (h39.cells (h.next, 0) 2) (.agg [(.int .i64 x32.1), (.slice x32.2.1.a x32.2.1.len x32.2.1.cap x32.2.1.sz)])) then (bif (sameO (h39.cells (h.next, 0) 2) (.agg [(.int .i64 x32.1), (.slice x32.2.1.a x32.2.1.len x32.2.1.cap x32.2.1.sz)])) then (bif (sameO (h39.cells (h.next, 0) 2) (.agg [(.int .i64 x32.1), (.slice x32.2.1.a x32.2.1.len x32.2.1.cap x32.2.1.sz)])) then (bif (sameO (h39.cells (h.next, 0) 2) (.agg [(.int .i64 x32.1), (.slice x32.2.1.a x32.2.1.len x32.2.1.cap x32.2.1.sz)])) then (bif (sameO (h39.cells (h.next, 0) 2) (.agg [(.int .i64 x32.1), (.slice x32.2.1.a x32.2.1.len x32.2.1.cap x32.2.1.sz)])) then (bif (sameO (h39.cells (h.next, 0) 2) (.agg [(.int .i64 x32.1), (.slice x32.2.1.a x32.2.1.len x32.2.1.cap x32.2.1.sz)])) then (bif (sameO (h35.cells (h.next, 0) 2) (.agg [(.int .i64 x32.1), (.slice x32.2.1.a x32.2.1.len x32.2.1.cap x32.2.1.sz)])) then (bif (sameO (h30.cells (h.next, 0) 2) (.agg [(.int .i64 x32.1), (.slice x32.2.1.a x32.2.1.len x32.2.1.cap x32.2.1.sz)])) then (bif (sameO (h26.cells (h.next, 0) 2) (.agg [(.int .i64 x32.1), (.slice x32.2.1.a x32.2.1.len x32.2.1.cap x32.2.1.sz)])) then (bif (sameO (h22.cells (h.next, 0) 2) (.agg [(.int .i64 x32.1), (.slice x32.2.1.a x32.2.1.len x32.2.1.cap x32.2.1.sz)])) then (bif (sameO (h20.cells (h.next, 0) 2) (.agg [(.int .i64 x32.1), (.slice x32.2.1.a x32.2.1.len x32.2.1.cap x32.2.1.sz)])) then (bif (sameO (h39.cells (h1.next, 0) 2) (.agg [(.int .i64 x28.1), (.slice x28.2.1.a x28.2.1.len x28.2.1.cap x28.2.1.sz)])) then (bif (sameO (h39.cells (h1.next, 0) 2) (.agg [(.int .i64 x28.1), (.slice x28.2.1.a x28.2.1.len x28.2.1.cap x28.2.1.sz)])) then (bif (sameO (h39.cells (h1.next, 0) 2) (.agg [(.int .i64 x28.1), (.slice x28.2.1.a x28.2.1.len x28.2.1.cap x28.2.1.sz)])) then (bif (sameO (h39.cells (h1.next, 0) 2) (.agg [(.int .i64 x28.1), (.slice x28.2.1.a x28.2.1.len x28.2.1.cap x28.2.1.sz)])) then (bif (sameO (h39.cells (h1.next, 0) 2) (.agg [(.int .i64 x28.1), (.slice x28.2.1.a x28.2.1.len x28.2.1.cap x28.2.1.sz)])) then (bif (sameO (h39.cells (h1.next, 0) 2) (.agg [(.int .i64 x28.1), (.slice x28.2.1.a x28.2.1.len x28.2.1.cap x28.2.1.sz)])) then (bif (sameO (h39.cells (h1.next, 0) 2) (.agg [(.int .i64 x28.1), (.slice x28.2.1.a x28.2.1.len x28.2.1.cap x28.2.1.sz)])) then (bif (sameO (h39.cells (h1.next, 0) 2) (.agg [(.int .i64 x28.1), (.slice x28.2.1.a x28.2.1.len x28.2.1.cap x28.2.1.sz)])) then (bif (sameO (h35.cells (h1.next, 0) 2) (.agg [(.int .i64 x28.1), (.slice x28.2.1.a x28.2.1.len x28.2.1.cap x28.2.1.sz)])) then (bif (sameO (h30.cells (h1.next, 0) 2) (.agg [(.int .i64 x28.1), (.slice x28.2.1.a x28.2.1.len x28.2.1.cap x28.2.1.sz)])) then (bif (sameO (h26.cells (h1.next, 0) 2) (.agg [(.int .i64 x28.1), (.slice x28.2.1.a x28.2.1.len x28.2.1.cap x28.2.1.sz)])) then (bif (sameO (h22.cells (h1.next, 0) 2) (.agg [(.int .i64 x28.1), (.slice x28.2.1.a x28.2.1.len x28.2.1.cap x28.2.1.sz)])) then (bif (sameO (h20.cells (h1.next, 0) 2) (.agg [(.int .i64 x28.1), (.slice x28.2.1.a x28.2.1.len x28.2.1.cap x28.2.1.sz)])) then (bif (sameO (h39.cells (h.next, 0) 2) (.agg [(.int .i64 x27.1), (.slice x27.2.1.a x27.2.1.len x27.2.1.cap x27.2.1.sz)])) then (bif (sameO (h39.cells (h.next, 0) 2) (.agg [(.int .i64 x27.1), (.slice x27.2.1.a x27.2.1.len x27.2.1.cap x27.2.1.sz)])) then (bif (sameO (h39.cells (h.next, 0) 2) (.agg [(.int .i64 x27.1), (.slice x27.2.1.a x27.2.1.len x27.2.1.cap x27.2.1.sz)])) then (bif (sameO (h39.cells (h.next, 0) 2) (.agg [(.int .i64 x27.1), (.slice x27.2.1.a x27.2.1.len x27.2.1.cap x27.2.1.sz)])) then (bif (sameO (h39.cells (h.next, 0) 2) (.agg [(.int .i64 x27.1), (.slice x27.2.1.a x27.2.1.len x27.2.1.cap x27.2.1.sz)])) then (bif (sameO (h39.cells (h.next, 0) 2) (.agg [(.int .i64 x27.1), (.slice x27.2.1.a x27.2.1.len x27.2.1.cap x27.2.1.sz)])) then (bif (sameO (h39.cells (h.next, 0) 2) (.agg [(.int .i64 x27.1), (.slice x27.2.1.a x27.2.1.len x27.2.1.cap x27.2.1.sz)])) then (bif (sameO (h39.cells (h.next, 0) 2) (.agg [(.int .i64 x27.1), (.slice x27.2.1.a x27.2.1.len x27.2.1.cap x27.2.1.sz)])) then (bif (sameO (h35.cells (h.next, 0) 2) (.agg [(.int .i64 x27.1), (.slice x27.2.1.a x27.2.1.len x27.2.1.cap x27.2.1.sz)])) then (bif (sameO (h30.cells (h.next, 0) 2) (.agg [(.int .i64 x27.1), (.slice x27.2.1.a x27.2.1.len x27.2.1.cap x27.2.1.sz)])) then (bif (sameO (h26.cells (h.next, 0) 2) (.agg [(.int .i64 x27.1), (.slice x27.2.1.a x27.2.1.len x27.2.1.cap x27.2.1.sz)])) then (bif (sameO (h22.cells (h.next, 0) 2) (.agg [(.int .i64 x27.1), (.slice x27.2.1.a x27.2.1.len x27.2.1.cap x27.2.1.sz)])) then (bif (sameO (h20.cells (h.next, 0) 2) (.agg [(.int .i64 x27.1), (.slice x27.2.1.a x27.2.1.len x27.2.1.cap x27.2.1.sz)])) then (bif (sameO (h39.cells (h1.next, 0) 2) (.agg [(.int .i64 x24.1), (.slice x24.2.1.a x24.2.1.len x24.2.1.cap x24.2.1.sz)])) then (bif (sameO (h39.cells (h1.next, 0) 2) (.agg [(.int .i64 x24.1), (.slice x24.2.1.a x24.2.1.len x24.2.1.cap x24.2.1.sz)])) then (bif (sameO (h39.cells (h1.next, 0) 2) (.agg [(.int .i64 x24.1), (.slice x24.2.1.a x24.2.1.len x24.2.1.cap x24.2.1.sz)])) then (bif (sameO (h39.cells (h1.next, 0) 2) (.agg [(.int .i64 x24.1), (.slice x24.2.1.a x24.2.1.len x24.2.1.cap x24.2.1.sz)])) then (bif (sameO (h39.cells (h1.next, 0) 2) (.agg [(.int .i64 x24.1), (.slice x24.2.1.a x24.2.1.len x24.2.1.cap x24.2.1.sz)])) then (bif (sameO (h39.cells (h1.next, 0) 2) (.agg [(.int .i64 x24.1), (.slice x24.2.1.a x24.2.1.len x24.2.1.cap x24.2.1.sz)])) then (bif (sameO (h39.cells (h1.next, 0) 2) (.agg [(.int .i64 x24.1), (.slice x24.2.1.a x24.2.1.len x24.2.1.cap x24.2.1.sz)])) then (bif (sameO (h39.cells (h1.next, 0) 2) (.agg [(.int .i64 x24.1), (.slice x24.2.1.a x24.2.1.len x24.2.1.cap x24.2.1.sz)])) then (bif (sameO (h35.cells (h1.next, 0) 2) (.agg [(.int .i64 x24.1), (.slice x24.2.1.a x24.2.1.len x24.2.1.cap x24.2.1.sz)])) then (bif (sameO (h30.cells (h1.next, 0) 2) (.agg [(.int .i64 x24.1), (.slice x24.2.1.a x24.2.1.len x24.2.1.cap x24.2.1.sz)])) then (bif (sameO (h26.cells (h1.next, 0) 2) (.agg [(.int .i64 x24.1), (.slice x24.2.1.a x24.2.1.len x24.2.1.cap x24.2.1.sz)])) then (bif (sameO (h22.cells (h1.next, 0) 2) (.agg [(.int .i64 x24.1), (.slice x24.2.1.a x24.2.1.len x24.2.1.cap x24.2.1.sz)])) then (bif (sameO (h20.cells (h1.next, 0) 2) (.agg [(.int .i64 x24.1), (.slice x24.2.1.a x24.2.1.len x24.2.1.cap x24.2.1.sz)])) then (bif (sameO (h39.cells (h.next, 0) 2) (.agg [(.int .i64 x23.1), (.slice x23.2.1.a x23.2.1.len x23.2.1.cap x23.2.1.sz)])) then (bif (sameO (h39.cells (h.next, 0) 2) (.agg [(.int .i64 x23.1), (.slice x23.2.1.a x23.2.1.len x23.2.1.cap x23.2.1.sz)])) then (bif (sameO (h39.cells (h.next, 0) 2) (.agg [(.int .i64 x23.1), (.slice x23.2.1.a x23.2.1.len x23.2.1.cap x23.2.1.sz)])) then (bif (sameO (h39.cells (h.next, 0) 2) (.agg [(.int .i64 x23.1), (.slice x23.2.1.a x23.2.1.len x23.2.1.cap x23.2.1.sz)])) then (bif (sameO (h39.cells (h.next, 0) 2) (.agg [(.int .i64 x23.1), (.slice x23.2.1.a x23.2.1.len x23.2.1.cap x23.2.1.sz)])) then (bif (sameO (h39.cells (h.next, 0) 2) (.agg [(.int .i64 x23.1), (.slice x23.2.1.a x23.2.1.len x23.2.1.cap x23.2.1.sz)])) then (bif (sameO (h39.cells (h.next, 0) 2) (.agg [(.int .i64 x23.1), (.slice x23.2.1.a x23.2.1.len x23.2.1.cap x23.2.1.sz)])) then (bif (sameO (h39.cells (h.next, 0) 2) (.agg [(.int .i64 x23.1), (.slice x23.2.1.a x23.2.1.len x23.2.1.cap x23.2.1.sz)])) then (bif (sameO (h35.cells (h.next, 0) 2) (.agg [(.int .i64 x23.1), (.slice x23.2.1.a x23.2.1.len x23.2.1.cap x23.2.1.sz)])) then (bif (sameO (h30.cells (h.next, 0) 2) (.agg [(.int .i64 x23.1), (.slice x23.2.1.a x23.2.1.len x23.2.1.cap x23.2.1.sz)])) then (bif (sameO (h26.cells (h.next, 0) 2) (.agg [(.int .i64 x23.1), (.slice x23.2.1.a x23.2.1.len x23.2.1.cap x23.2.1.sz)])) then (bif (sameO (h22.cells (h.next, 0) 2) (.agg [(.int .i64 x23.1), (.slice x23.2.1.a x23.2.1.len x23.2.1.cap x23.2.1.sz)])) then (bif (sameO (h20.cells (h.next, 0) 2) (.agg [(.int .i64 x23.1), (.slice x23.2.1.a x23.2.1.len x23.2.1.cap x23.2.1.sz)])) then true else false) else false) else false) else false) else false) else false) else false) else false) else false) else false) else false) else false) else false) else false) else false) else false) else false) else false) else false) else false) else false) else false) else false) else false) else false) else false) else false) else false) else false) else false) else false) else false) else false) else false) else false) else false) else false) else false) else false) else false) else false) else false) else false) else false) else false) else false) else false) else false) else false) else false) else false) else false) else false) else false) else false) else false) else false) else false) else false) else false) else false) else false) else false) else false) else false) else false) else false) else false) else false) else false) else false) else false) else false) else false) else false) else false) else false) else false) else false) else false) else false) else false) else false) else false) else false) else false) else false) else false) else false) else false) else false) else false) else false) else false) else false) else false) else false) else false) else false) else false) else false) else false) else false) else false) (
       some (false, h39))))))))))
     else
      (guardB (bif (sameO (h30.cells (h1.next, 0) 2) (.agg [(.int .i64 x28.1), (.slice x28.2.1.a x28.2.1.len x28.2.1.cap x28.2.1.sz)])) then (bif (sameO (h30.cells (h1.next, 0) 2) (.agg [(.int .i64 x28.1), (.slice x28.2.1.a x28.2.1.len x28.2.1.cap x28.2.1.sz)])) then (bif (sameO (h30.cells (h1.next, 0) 2) (.agg [(.int .i64 x28.1), (.slice x28.2.1.a x28.2.1.len x28.2.1.cap x28.2.1.sz)])) then (bif (sameO (h30.cells (h1.next, 0) 2) (.agg [(.int .i64 x28.1), (.slice x28.2.1.a x28.2.1.len x28.2.1.cap x28.2.1.sz)])) then (bif (sameO (h30.cells (h1.next, 0) 2) (.agg [(.int .i64 x28.1), (.slice x28.2.1.a x28.2.1.len x28.2.1.cap x28.2.1.sz)])) then (bif (sameO (h30.cells (h1.next, 0) 2) (.agg [(.int .i64 x28.1), (.slice x28.2.1.a x28.2.1.len x28.2.1.cap x28.2.1.sz)])) then (bif (sameO (h30.cells (h1.next, 0) 2) (.agg [(.int .i64 x28.1), (.slice x28.2.1.a x28.2.1.len x28.2.1.cap x28.2.1.sz)])) then (bif (sameO (h30.cells (h1.next, 0) 2) (.agg [(.int .i64 x28.1), (.slice x28.2.1.a x28.2.1.len x28.2.1.cap x28.2.1.sz)])) then (bif (sameO (h30.cells (h1.next, 0) 2) (.agg [(.int .i64 x28.1), (.slice x28.2.1.a x28.2.1.len x28.2.1.cap x28.2.1.sz)])) then (bif (sameO (h30.cells (h1.next, 0) 2) (.agg [(.int .i64 x28.1), (.slice x28.2.1.a x28.2.1.len x28.2.1.cap x28.2.1.sz)])) then (bif (sameO (h26.cells (h1.next, 0) 2) (.agg [(.int .i64 x28.1), (.slice x28.2.1.a x28.2.1.len x28.2.1.cap x28.2.1.sz)])) then (bif (sameO (h22.cells (h1.next, 0) 2) (.agg [(.int .i64 x28.1), (.slice x28.2.1.a x28.2.1.len x28.2.1.cap x28.2.1.sz)])) then (bif (sameO (h20.cells (h1.next, 0) 2) (.agg [(.int .i64 x28.1), (.slice x28.2.1.a x28.2.1.len x28.2.1.cap x28.2.1.sz)])) then (bif (sameO (h30.cells (h.next, 0) 2) (.agg [(.int .i64 x27.1), (.slice x27.2.1.a x27.2.1.len x27.2.1.cap x27.2.1.sz)])) then (bif (sameO (h30.cells (h.next, 0) 2) (.agg [(.int .i64 x27.1), (.slice x27.2.1.a x27.2.1.len x27.2.1.cap x27.2.1.sz)])) then (bif (sameO (h30.cells (h.next, 0) 2) (.agg [(.int .i64 x27.1), (.slice x27.2.1.a x27.2.1.len x27.2.1.cap x27.2.1.sz)])) then (bif (sameO (h30.cells (h.next, 0) 2) (.agg [(.int .i64 x27.1), (.slice x27.2.1.a x27.2.1.len x27.2.1.cap x27.2.1.sz)])) then (bif (sameO (h30.cells (h.next, 0) 2) (.agg [(.int .i64 x27.1), (.slice x27.2.1.a x27.2.1.len x27.2.1.cap x27.2.1.sz)])) then (bif (sameO (h30.cells (h.next, 0) 2) (.agg [(.int .i64 x27.1), (.slice x27.2.1.a x27.2.1.len x27.2.1.cap x27.2.1.sz)])) then (bif (sameO (h30.cells (h.next, 0) 2) (.agg [(.int .i64 x27.1), (.slice x27.2.1.a x27.2.1.len x27.2.1.cap x27.2.1.sz)])) then (bif (sameO (h30.cells (h.next, 0) 2) (.agg [(.int .i64 x27.1), (.slice x27.2.1.a x27.2.1.len x27.2.1.cap x27.2.1.sz)])) then (bif (sameO (h30.cells (h.next, 0) 2) (.agg [(.int .i64 x27.1), (.slice x27.2.1.a x27.2.1.len x27.2.1.cap x27.2.1.sz)])) then (bif (sameO (h30.cells (h.next, 0) 2) (.agg [(.int .i64 x27.1), (.slice x27.2.1.a x27.2.1.len x27.2.1.cap x27.2.1.sz)])) then (bif (sameO (h26.cells (h.next, 0) 2) (.agg [(.int .i64 x27.1), (.slice x27.2.1.a x27.2.1.len x27.2.1.cap x27.2.1.sz)])) then (bif (sameO (h22.cells (h.next, 0) 2) (.agg [(.int .i64 x27.1), (.slice x27.2.1.a x27.2.1.len x27.2.1.cap x27.2.1.sz)])) then (bif (sameO (h20.cells (h.next, 0) 2) (.agg [(.int .i64 x27.1), (.slice x27.2.1.a x27.2.1.len x27.2.1.cap x27.2.1.sz)])) then (bif (sameO (h30.cells (h1.next, 0) 2) (.agg [(.int .i64 x24.1), (.slice x24.2.1.a x24.2.1.len x24.2.1.cap x24.2.1.sz)])) then (bif (sameO (h30.cells (h1.next, 0) 2) (.agg [(.int .i64 x24.1), (.slice x24.2.1.a x24.2.1.len x24.2.1.cap x24.2.1.sz)])) then (bif (sameO (h30.cells (h1.next, 0) 2) (.agg [(.int .i64 x24.1), (.slice x24.2.1.a x24.2.1.len x24.2.1.cap x24.2.1.sz)])) then (bif (sameO (h30.cells (h1.next, 0) 2) (.agg [(.int .i64 x24.1), (.slice x24.2.1.a x24.2.1.len x24.2.1.cap x24.2.1.sz)])) then (bif (sameO (h30.cells (h1.next, 0) 2) (.agg [(.int .i64 x24.1), (.slice x24.2.1.a x24.2.1.len x24.2.1.cap x24.2.1.sz)])) then (bif (sameO (h30.cells (h1.next, 0) 2) (.agg [(.int .i64 x24.1), (.slice x24.2.1.a x24.2.1.len x24.2.1.cap x24.2.1.sz)])) then (bif (sameO (h30.cells (h1.next, 0) 2) (.agg [(.int .i64 x24.1), (.slice x24.2.1.a x24.2.1.len x24.2.1.cap x24.2.1.sz)])) then (bif (sameO (h30.cells (h1.next, 0) 2) (.agg [(.int .i64 x24.1), (.slice x24.2.1.a x24.2.1.len x24.2.1.cap x24.2.1.sz)])) then (bif (sameO (h30.cells (h1.next, 0) 2) (.agg [(.int .i64 x24.1), (.slice x24.2.1.a x24.2.1.len x24.2.1.cap x24.2.1.sz)])) then (bif (sameO (h30.cells (h1.next, 0) 2) (.agg [(.int .i64 x24.1), (.slice x24.2.1.a x24.2.1.len x24.2.1.cap x24.2.1.sz)])) then (bif (sameO (h26.cells (h1.next, 0) 2) (.agg [(.int .i64 x24.1), (.slice x24.2.1.a x24.2.1.len x24.2.1.cap x24.2.1.sz)])) then (bif (sameO (h22.cells (h1.next, 0) 2) (.agg [(.int .i64 x24.1), (.slice x24.2.1.a x24.2.1.len x24.2.1.cap x24.2.1.sz)])) then (bif (sameO (h20.cells (h1.next, 0) 2) (.agg [(.int .i64 x24.1), (.slice x24.2.1.a x24.2.1.len x24.2.1.cap x24.2.1.sz)])) then (bif (sameO (h30.cells (h.next, 0) 2) (.agg [(.int .i64 x23.1), (.slice x23.2.1.a x23.2.1.len x23.2.1.cap x23.2.1.sz)])) then (bif (sameO (h30.cells (h.next, 0) 2) (.agg [(.int .i64 x23.1), (.slice x23.2.1.a x23.2.1.len x23.2.1.cap x23.2.1.sz)])) then (bif (sameO (h30.cells (h.next, 0) 2) (.agg [(.int .i64 x23.1), (.slice x23.2.1.a x23.2.1.len x23.2.1.cap x23.2.1.sz)])) then (bif (sameO (h30.cells (h.next, 0) 2) (.agg [(.int .i64 x23.1), (.slice x23.2.1.a x23.2.1.len x23.2.1.cap x23.2.1.sz)])) then (bif (sameO (h30.cells (h.next, 0) 2) (.agg [(.int .i64 x23.1), (.slice x23.2.1.a x23.2.1.len x23.2.1.cap x23.2.1.sz)])) then (bif (sameO (h30.cells (h.next, 0) 2) (.agg [(.int .i64 x23.1), (.slice x23.2.1.a x23.2.1.len x23.2.1.cap x23.2.1.sz)])) then (bif (sameO (h30.cells (h.next, 0) 2) (.agg [(.int .i64 x23.1), (.slice x23.2.1.a x23.2.1.len x23.2.1.cap x23.2.1.sz)])) then (bif (sameO (h30.cells (h.next, 0) 2) (.agg [(.int .i64 x23.1), (.slice x23.2.1.a x23.2.1.len x23.2.1.cap x23.2.1.sz)])) then (bif (sameO (h30.cells (h.next, 0) 2) (.agg [(.int .i64 x23.1), (.slice x23.2.1.a x23.2.1.len x23.2.1.cap x23.2.1.sz)])) then (bif (sameO (h30.cells (h.next, 0) 2) (.agg [(.int .i64 x23.1), (.slice x23.2.1.a x23.2.1.len x23.2.1.cap x23.2.1.sz)])) then (bif (sameO (h26.cells (h.next, 0) 2) (.agg [(.int .i64 x23.1), (.slice x23.2.1.a x23.2.1.len x23.2.1.cap x23.2.1.sz)])) then (bif (sameO (h22.cells (h.next, 0) 2) (.agg [(.int .i64 x23.1), (.slice x23.2.1.a x23.2.1.len x23.2.1.cap x23.2.1.sz)])) then (bif (sameO (h20.cells (h.next, 0) 2) (.agg [(.int .i64 x23.1), (.slice x23.2.1.a x23.2.1.len x23.2.1.cap x23.2.1.sz)])) then true else false) else false) else false) else false) else false) else false) else false) else false) else false) else false) else false) else false) else false) else false) else false) else false) else false) else false) else false) else false) else false) else false) else false) else false) else false) else false) else false) else false) else false) else false) else false) else false) else false) else false) else false) else false) else false) else false) else false) else false) else false) else false) else false) else false) else false) else false) else false) else false) else false) else false) else false) else false) (
      some (false, h30))))))))))
    else
     (guardB true (
     some (false, h22)))))))))))))))
noncomputable def ann3 : Ann := .n
theorem f3_ok (N : Nat) : FnOK Tryd.prog 3 [(.agg [(.int .i64), .slice]), (.agg [(.int .i64), .slice])] (.val (.one .bool)) (fun x h => f3 N x.1 x.2.1 h) :=
  runK_ok envOK hmix (addCall_ok (f17_ok N) (addCall_ok (f16_ok N) (addCall_ok (f15_ok N) (addCall_ok (f14_ok N) (addCall_ok (f13_ok N) (addCall_ok (f12_ok N) (addCall_ok (f11_ok N) (addCall_ok (f10_ok N) (addCall_ok (f9_ok N) (addCall_ok (f8_ok N) (addCall_ok (f7_ok N) (addCall_ok (f6_ok N) noCalls_ok)))))))))))) (N := N) (x := ann3) (fn := Tryd.f3) (c := Tryd.f3.body.getD .skip) (by kernel_rfl) (by kernel_rfl) (by kernel_rfl) (by kernel_rfl) (fun _ _ => by kernel_rfl)
end Go.Proofs.YtjeaammlambkeaaDoor.Mq

open Go Go.Proofs.YtjeaammlambkeaaDoor.Ai Go.Proofs
namespace Go.Proofs.YtjeaammlambkeaaDoor.Mq
variable {h h' : Heap} {s t : SL} {l m : List (List UInt8)} {N : Nat} {p q : Int × SL × Unit}
/-- a slice of texts -/
structure Stp (h : Heap) (s : SL) (l : List (List UInt8)) : Prop where
  one : One h s (l.map AV.str)
  cap : s.len ≤ s.cap
  nil : s.a = none → s.cap = 0
  sz : s.a = none ∨ s.sz = 1
  small : l.length ≤ 20
theorem Stp.len (x : Stp h s l) : s.len = l.length := by rw [x.one.1, List.length_map]
theorem Stp.keep (x : Stp h s l) (hk : Keep h.next h h') : Stp h' s l := ⟨x.one.keep hk x.one.2.2.under, x.cap, x.nil, x.sz, x.small⟩
theorem Stp.str {β : Type} (x : Stp h s l) {i : Int} (h0 : 0 ≤ i) (h1 : i < l.length) (K : List UInt8 → Option β) :
    (ixK s.a s.len i 1 fun q => bindV (.val (.one .str)) (h.cell q) K) = K (l.getD i.toNat []) := by
  rw [x.one.ixz h0 (by simpa using h1), x.one.cell (by simp; omega)]
  simp only [List.getElem_map, bindV_some, cast_str, List.getD]
  rw [List.getElem?_eq_getElem (by omega)]; rfl
def SL.hi (s : SL) (n : Nat) : SL := ⟨s.a, n, s.cap, s.sz⟩
def SL.lo (s : SL) (n : Nat) : SL := ⟨s.a.map fun q => (q.1, q.2 + n * s.sz), s.len - n, s.cap - n, s.sz⟩
theorem und22 : E.und 22 = some (.slice 9) := by kernel_rfl
theorem size9 : E.size 9 = some 1 := by kernel_rfl
theorem app22 : App1 E 22 9 := App1.of und22 (by kernel_rfl) (by kernel_rfl)
theorem Stp.sees (x : Stp h s l) : Sees h s (l.map AV.str) := x.one.2.2
theorem Stp.hiOk (x : Stp h s l) {n : Nat} (hn : n ≤ l.length) : sliceA E h 22 (.slice s.a s.len s.cap s.sz) none (some (.int .i64 (n : Int))) = some (.slice (SL.hi s n).a (SL.hi s n).len (SL.hi s n).cap (SL.hi s n).sz) ∧ Stp h (SL.hi s n) (l.take n) := by
  have hl := x.len
  have hc := x.cap
  have hb : Nat.ble n s.cap = true := by simp; omega
  have hnat : natOf (.int .i64 (n : Int)) = some n := rfl
  obtain ⟨h1, h2, h3⟩ := x.sees
  constructor
  · unfold SL.hi
    cases ha : s.a with
    | none => simp only [sliceA, und22, size9, boundA, hnat, hb, cond_true, Nat.sub_zero]
    | some q =>
      obtain ⟨A, off⟩ := q
      have hz : s.sz = 1 := by
        rcases x.sz with h9 | h9
        · rw [ha] at h9; cases h9
        · exact h9
      rw [hz]
      simp only [sliceA, und22, size9, show Nat.beq 1 1 = true from rfl, cond_true, boundA, hnat, hb, Nat.zero_mul, Nat.add_zero, Nat.sub_zero]
  · have hlen : (l.take n).length = n := by rw [List.length_take]; omega
    refine ⟨⟨by rw [List.length_map, hlen]; rfl, ?_, ?_, fun ha => ?_, fun A off ha => ?_⟩, by show n ≤ s.cap; omega, x.nil, x.sz, by have := x.small; omega⟩
    · rcases x.sz with h | h
      · right; have := x.nil h; show n = 0; omega
      · left; exact h
    · rw [List.length_map, hlen]
      show n = n * s.sz
      rcases x.sz with h | h
      · have := x.nil h
        have : n = 0 := by omega
        rw [this, Nat.zero_mul]
      · rw [h, Nat.mul_one]
    · have := x.nil ha; show n = 0; omega
    · obtain ⟨h4, cs, h5, h6⟩ := h3 A off ha
      refine ⟨h4, cs, h5, ?_⟩
      rw [List.length_map] at h6
      rw [List.length_map, hlen, List.map_take, ← h6, List.take_take, Nat.min_eq_left hn]
theorem Stp.loOk (x : Stp h s l) {n : Nat} (hn : n ≤ l.length) : sliceA E h 22 (.slice s.a s.len s.cap s.sz) (some (.int .i64 (n : Int))) none = some (.slice (SL.lo s n).a (SL.lo s n).len (SL.lo s n).cap (SL.lo s n).sz) ∧ Stp h (SL.lo s n) (l.drop n) := by
  have hl := x.len
  have hc := x.cap
  have hb : Nat.ble n s.len = true := by simp; omega
  have hnat : natOf (.int .i64 (n : Int)) = some n := rfl
  obtain ⟨h1, h2, h3⟩ := x.sees
  constructor
  · unfold SL.lo
    cases ha : s.a with
    | none => simp only [sliceA, und22, size9, boundA, hnat, hb, cond_true, Option.map_none]
    | some q =>
      obtain ⟨A, off⟩ := q
      have hz : s.sz = 1 := by
        rcases x.sz with h9 | h9
        · rw [ha] at h9; cases h9
        · exact h9
      rw [hz]
      simp only [sliceA, und22, size9, show Nat.beq 1 1 = true from rfl, cond_true, boundA, hnat, hb, Option.map_some]
  · have hlen : (l.drop n).length = s.len - n := by rw [List.length_drop]; omega
    refine ⟨⟨by rw [List.length_map, hlen]; rfl, ?_, ?_, fun ha => ?_, fun A off ha => ?_⟩, by show s.len - n ≤ s.cap - n; omega, fun ha => ?_, ?_, by have := x.small; rw [List.length_drop]; omega⟩
    · rcases x.sz with h | h
      · right; have := x.nil h; show s.len - n = 0; omega
      · left; exact h
    · rw [List.length_map, hlen]
      show s.len - n = (s.len - n) * s.sz
      rcases x.sz with h | h
      · have := x.nil h
        have : s.len - n = 0 := by omega
        rw [this, Nat.zero_mul]
      · rw [h, Nat.mul_one]
    · have : s.a = none := by simpa [SL.lo] using ha
      have := x.nil this; show s.len - n = 0; omega
    · have ha' : s.a.map (fun q => (q.1, q.2 + n * s.sz)) = some (A, off) := ha
      cases hq : s.a with
      | none => rw [hq] at ha'; simp at ha'
      | some q =>
        obtain ⟨A', off'⟩ := q
        rw [hq] at ha'
        simp only [Option.map_some, Option.some.injEq, Prod.mk.injEq] at ha'
        obtain ⟨rfl, rfl⟩ := ha'
        have hz : s.sz = 1 := by
          rcases x.sz with h9 | h9
          · rw [hq] at h9; cases h9
          · exact h9
        obtain ⟨h4, cs, h5, h6⟩ := h3 A' off' hq
        refine ⟨h4, cs, h5, ?_⟩
        rw [List.length_map] at h6
        rw [List.length_map, hlen, hz, Nat.mul_one, List.map_drop, ← h6, List.drop_take, List.drop_drop, hl]
    · have : s.a = none := by simpa [SL.lo] using ha
      have := x.nil this; show s.cap - n = 0; omega
    · rcases x.sz with h | h
      · left; show s.a.map _ = none; rw [h]; rfl
      · right; exact h
/-! the library's functions -/
theorem equal_loop (x : Stp h s l) (y : Stp h t m) (hlm : l.length = m.length) : ∀ (M i : Nat), i ≤ l.length → l.length - i < M →
    f23_l1 N M s t false (Int.ofNat l.length) (i : Int) h = if l.drop i = m.drop i then some ((Out.exit 0), (false, ()), h) else some (Out.ret, (false, ()), h)
  | 0, i, hi, hM => by omega
  | M + 1, i, hi, hM => by
    have h20 := x.small
    rw [f23_l1_succ, f23_l1_b]
    by_cases hlt : i < l.length
    · have e1 : ltInt (i : Int) (Int.ofNat l.length) = true := by rw [ltInt_dec]; simp only [decide_eq_true_eq]; exact Int.ofNat_lt.2 hlt
      have hg1 : l.drop i = l.getD i [] :: l.drop (i + 1) := by rw [getD_lt _ _ hlt]; exact List.drop_eq_getElem_cons hlt
      have hg2 : m.drop i = m.getD i [] :: m.drop (i + 1) := by rw [getD_lt _ _ (by omega)]; exact List.drop_eq_getElem_cons (by omega)
      simp only [e1, cond_true]
      rw [x.str (by omega) (by omega), y.str (by omega) (by omega)]
      simp only [Int.toNat_natCast]
      rw [eqBytes_dec]
      by_cases he : l.getD i [] = m.getD i []
      · have hd : decide (l.getD i [] = m.getD i []) = true := by simpa using he
        rw [hd]
        simp only [Bool.not_true, cond_false]
        rw [wrapA_small (by omega) (by omega)]
        have := equal_loop x y hlm M (i + 1) (by omega) (by omega)
        rw [show ((i : Int) + 1) = ((i + 1 : Nat) : Int) by omega, this, hg1, hg2, he]
        simp only [List.cons.injEq, true_and]
      · have hd : decide (l.getD i [] = m.getD i []) = false := by simpa using he
        rw [hd]
        simp only [Bool.not_false, cond_true]
        rw [hg1, hg2, if_neg (by simp only [List.cons.injEq, he, false_and, not_false_eq_true])]
    · have e1 : ltInt (i : Int) (Int.ofNat l.length) = false := by rw [ltInt_dec]; simp only [decide_eq_false_iff_not]; intro q; exact hlt (Int.ofNat_lt.1 q)
      have : i = l.length := by omega
      simp only [e1, cond_false]
      rw [List.drop_eq_nil_of_le (by omega), List.drop_eq_nil_of_le (by omega), if_pos rfl]
theorem equal_spec (hN : 30 ≤ N) (x : Stp h s l) (y : Stp h t m) : f23 N s t h = some (decide (l = m), h) := by
  have h20 := x.small
  unfold f23
  rw [x.len, y.len]
  by_cases hlm : l.length = m.length
  · have e1 : eqInt (Int.ofNat l.length) (Int.ofNat m.length) = true := by rw [eqInt_dec]; simp only [decide_eq_true_eq]; rw [hlm]
    simp only [e1, Bool.not_true, cond_false]
    have := equal_loop (N := N) x y hlm N 0 (by omega) (by omega)
    rw [show (0 : Int) = ((0 : Nat) : Int) from rfl, this, List.drop_zero, List.drop_zero]
    by_cases he : l = m
    · rw [if_pos he]
      simp only [bind3_some, show eqOut (.exit 0) (.exit 0) = true from rfl, cond_true, he, decide_true]
    · rw [if_neg he]
      simp only [bind3_some, show eqOut .ret (.exit 0) = false from rfl, cond_false, he, decide_false]
  · have e1 : eqInt (Int.ofNat l.length) (Int.ofNat m.length) = false := by rw [eqInt_dec]; simp only [decide_eq_false_iff_not]; intro q; exact hlm (Int.ofNat.inj q)
    have he : l ≠ m := fun q => hlm (by rw [q])
    simp only [e1, Bool.not_false, cond_true, he, decide_false]
theorem index_loop (x : Stp h s l) (v : List UInt8) : ∀ (M i : Nat), i ≤ posF v l → l.length - i < M →
    f22_l1 N M s v 0 (Int.ofNat l.length) (i : Int) h = if posF v l < l.length then some (Out.ret, ((posF v l : Int), ()), h) else some ((Out.exit 0), (0, ()), h)
  | 0, i, hi, hM => by omega
  | M + 1, i, hi, hM => by
    have h20 := x.small
    have hle := posF_le v l
    rw [f22_l1_succ, f22_l1_b]
    by_cases hlt : i < l.length
    · have e1 : ltInt (i : Int) (Int.ofNat l.length) = true := by rw [ltInt_dec]; simp only [decide_eq_true_eq]; exact Int.ofNat_lt.2 hlt
      simp only [e1, cond_true]
      rw [x.str (by omega) (by omega)]
      simp only [Int.toNat_natCast]
      rw [getD_lt _ _ hlt]
      by_cases hp : i < posF v l
      · rw [posF_lt v l i hlt hp]
        simp only [cond_false]
        rw [wrapA_small (by omega) (by omega)]
        exact index_loop x v M (i + 1) hp (by omega)
      · have : i = posF v l := by omega
        subst this
        rw [posF_at v l hlt, if_pos hlt]
        simp only [cond_true]
    · have e1 : ltInt (i : Int) (Int.ofNat l.length) = false := by rw [ltInt_dec]; simp only [decide_eq_false_iff_not]; intro q; exact hlt (Int.ofNat_lt.1 q)
      simp only [e1, cond_false]
      rw [if_neg (by omega)]
theorem index_spec (hN : 30 ≤ N) (x : Stp h s l) (v : List UInt8) : f22 N s v h = some ((if posF v l < l.length then (posF v l : Int) else -1), h) := by
  have h20 := x.small
  unfold f22
  rw [x.len]
  have : f22_l1 N N s v 0 (Int.ofNat l.length) 0 h = _ := index_loop (N := N) x v N 0 (by omega) (by omega)
  rw [this]
  by_cases hp : posF v l < l.length
  · rw [if_pos hp, if_pos hp]; rfl
  · rw [if_neg hp, if_neg hp]; rfl
theorem contains_spec (hN : 30 ≤ N) (x : Stp h s l) (v : List UInt8) : f24 N s v h = some (decide (v ∈ l), h) := by
  unfold f24
  rw [index_spec hN x v]
  simp only [bind2_some]
  rw [leInt_dec]
  by_cases hp : posF v l < l.length
  · have := (posF_mem v l).2 hp
    rw [if_pos hp]
    simp only [this, decide_true, show (0 : Int) ≤ (posF v l : Int) by omega]
  · have : ¬ v ∈ l := fun q => hp ((posF_mem v l).1 q)
    rw [if_neg hp]
    simp only [this, decide_false, show ¬ (0 : Int) ≤ -1 by omega]
theorem cmp_spec (a b : List UInt8) : f46 N a b h = some (cmp1 a b, h) := by
  have e : ∀ x : List UInt8, f61 N x h = some (false, h) := fun x => by unfold f61; simp only [eqBytes_refl, Bool.not_true]
  unfold f46 cmp1
  simp only [e, bind2_some, cond_false]
  show (bindV _ (some (.bool (bytesLt a b))) _) = _
  simp only [bindV_some, cast_bool]
  cases bytesLt a b with
  | true => rfl
  | false =>
    simp only [cond_false]
    show (bindV _ (some (.bool (bytesLt b a))) _) = _
    simp only [bindV_some, cast_bool]
    cases bytesLt b a <;> rfl
theorem compare_loop (x : Stp h s l) (y : Stp h t m) : ∀ (M i : Nat), i ≤ l.length → i ≤ m.length → l.length - i < M →
    ∃ o j, f26_l1 N M s t 0 s (Int.ofNat l.length) (i : Int) h = some (o, j, h) ∧ ((o = Out.ret ∧ j.2.2.1 = cmpS (l.drop i) (m.drop i)) ∨ (o = Out.exit 0 ∧ j.1 = s ∧ j.2.1 = t ∧ cmpS (l.drop i) (m.drop i) = if l.length < m.length then -1 else 0))
  | 0, i, hi, hj, hM => by omega
  | M + 1, i, hi, hj, hM => by
    have h20 := x.small
    rw [f26_l1_succ, f26_l1_b]
    by_cases hlt : i < l.length
    · have e1 : ltInt (i : Int) (Int.ofNat l.length) = true := by rw [ltInt_dec]; simp only [decide_eq_true_eq]; exact Int.ofNat_lt.2 hlt
      have hg1 : l.drop i = l.getD i [] :: l.drop (i + 1) := by rw [getD_lt _ _ hlt]; exact List.drop_eq_getElem_cons hlt
      simp only [e1, cond_true]
      rw [x.str (by omega) (by omega), y.len]
      simp only [Int.toNat_natCast]
      by_cases hm : i < m.length
      · have e2 : leInt (Int.ofNat m.length) (i : Int) = false := by rw [leInt_dec]; simp only [decide_eq_false_iff_not]; intro q; have := Int.ofNat_le.1 q; omega
        have hg2 : m.drop i = m.getD i [] :: m.drop (i + 1) := by rw [getD_lt _ _ (by omega)]; exact List.drop_eq_getElem_cons (by omega)
        simp only [e2, cond_false]
        have hy := fun (K : List UInt8 → Option (Out × (SL × SL × Int × Unit) × Heap)) => y.str (i := (i : Int)) (by omega) (by omega) K
        rw [y.len] at hy
        rw [hy]
        simp only [Int.toNat_natCast, cmp_spec, bind2_some]
        rw [hg1, hg2]
        cases he : eqInt (cmp1 (l.getD i []) (m.getD i [])) 0 with
        | true =>
          simp only [Bool.not_true, cond_false]
          rw [wrapA_small (by omega) (by omega)]
          obtain ⟨o, j, h1, h2⟩ := compare_loop x y M (i + 1) (by omega) (by omega) (by omega)
          refine ⟨o, j, h1, ?_⟩
          rw [cmpS, he, cond_true]
          exact h2
        | false =>
          simp only [Bool.not_false, cond_true]
          refine ⟨_, _, rfl, .inl ⟨rfl, ?_⟩⟩
          rw [cmpS, he, cond_false]
      · have e2 : leInt (Int.ofNat m.length) (i : Int) = true := by rw [leInt_dec]; simp only [decide_eq_true_eq]; exact Int.ofNat_le.2 (by omega)
        simp only [e2, cond_true]
        refine ⟨_, _, rfl, .inl ⟨rfl, ?_⟩⟩
        rw [hg1, show m.drop i = [] from List.drop_eq_nil_of_le (by omega)]; rfl
    · have e1 : ltInt (i : Int) (Int.ofNat l.length) = false := by rw [ltInt_dec]; simp only [decide_eq_false_iff_not]; intro q; exact hlt (Int.ofNat_lt.1 q)
      simp only [e1, cond_false]
      refine ⟨_, _, rfl, .inr ⟨rfl, rfl, rfl, ?_⟩⟩
      rw [List.drop_eq_nil_of_le (by omega)]
      by_cases hm : l.length < m.length
      · rw [if_pos hm, List.drop_eq_getElem_cons (by omega : i < m.length)]; rfl
      · rw [if_neg hm, List.drop_eq_nil_of_le (by omega)]; rfl
theorem compare_spec (hN : 30 ≤ N) (x : Stp h s l) (y : Stp h t m) : f26 N s t h = some (cmpS l m, h) := by
  have h20 := x.small
  unfold f26
  rw [x.len]
  obtain ⟨o, j, h1, h2⟩ := compare_loop (N := N) x y N 0 (by omega) (by omega) (by omega)
  have h1 : f26_l1 N N s t 0 s (Int.ofNat l.length) 0 h = _ := h1
  rw [h1]
  simp only [bind3_some]
  rw [List.drop_zero, List.drop_zero] at h2
  rcases h2 with ⟨rfl, h2⟩ | ⟨rfl, h2, h3, h4⟩
  · simp only [show eqOut .ret (.exit 0) = false from rfl, cond_false, h2]
  · simp only [show eqOut (.exit 0) (.exit 0) = true from rfl, cond_true, h2, h3, x.len, y.len]
    rw [h4, ltInt_dec]
    by_cases hm : l.length < m.length
    · have : decide (Int.ofNat l.length < Int.ofNat m.length) = true := by simp only [decide_eq_true_eq]; exact Int.ofNat_lt.2 hm
      rw [this, if_pos hm]; rfl
    · have : decide (Int.ofNat l.length < Int.ofNat m.length) = false := by simp only [decide_eq_false_iff_not]; intro q; exact hm (Int.ofNat_lt.1 q)
      rw [this, if_neg hm]; rfl
end Go.Proofs.YtjeaammlambkeaaDoor.Mq

open Go Go.Proofs.YtjeaammlambkeaaDoor.Ai Go.Proofs
namespace Go.Proofs.YtjeaammlambkeaaDoor.Mq
variable {h h' : Heap} {N : Nat} {p q : Int × SL × Unit} {a b : PP} {A B : Nat} {v0 v1 : AV}
/-- a path -/
structure Pa (h : Heap) (p : Int × SL × Unit) (a : PP) : Prop where
  i : p.1 = a.1
  s : Stp h p.2.1 a.2
theorem Pa.keep (x : Pa h p a) (hk : Keep h.next h h') : Pa h' p a := ⟨x.i, x.s.keep hk⟩
/-- a block of two cells -/
structure Has (h : Heap) (A : Nat) (v0 v1 : AV) : Prop where
  g : h.g A = some (.row [v0, v1] .own)
  lt : A < h.next
theorem Has.keep (x : Has h A v0 v1) (hk : Keep h.next h h') : Has h' A v0 v1 := ⟨by rw [hk.g A x.lt]; exact x.g, Nat.lt_of_lt_of_le x.lt hk.next⟩
theorem Has.push (x : Has h A v0 v1) (b : Blk) : Has (h.push b) A v0 v1 := x.keep ((Keep.refl h.next h).push (Nat.le_refl _) b)
theorem Has.new (h : Heap) (v0 v1 : AV) : Has (h.push (.row [v0, v1] .own)) h.next v0 v1 := ⟨g_push_eq _ rfl, by simp⟩
theorem Has.c0 (x : Has h A v0 v1) : h.cell ((A, 0).1, (A, 0).2 + 0) = some v0 := by
  rw [Heap.cell_g, x.g]; rfl
theorem Has.c1 (x : Has h A v0 v1) : h.cell ((A, 0).1, (A, 0).2 + 1) = some v1 := by
  rw [Heap.cell_g, x.g]; rfl
theorem Has.cs (x : Has h A v0 v1) : h.cells (A, 0) 2 = some (.agg [v0, v1]) := by
  rw [Heap.cells_g, x.g]; rfl
def HP (h : Heap) (A : Nat) (p : Int × SL × Unit) : Prop := Has h A (.int .i64 p.1) (.slice p.2.1.a p.2.1.len p.2.1.cap p.2.1.sz)
theorem HP.path {β : Type} (x : HP h A p) (K : (Int × SL × Unit) → Option β) : bindV (.val (.agg [(.int .i64), .slice])) (h.cells (A, 0) 2) K = K p := by
  rw [Has.cs x]; rfl
def sv (s : SL) : AV := .slice s.a s.len s.cap s.sz
def k2 (p q : Int × SL × Unit) (h : Heap) : Heap := (h.push (.row [.int .i64 p.1, .slice p.2.1.a p.2.1.len p.2.1.cap p.2.1.sz] .own)).push (.row [.int .i64 q.1, .slice q.2.1.a q.2.1.len q.2.1.cap q.2.1.sz] .own)
theorem k2_keep (p q : Int × SL × Unit) (h : Heap) : Keep h.next h (k2 p q h) :=
  ((Keep.refl h.next h).push (Nat.le_refl _) _).push (Nat.le_refl _) _
theorem k2_p (p q : Int × SL × Unit) (h : Heap) : Has (k2 p q h) h.next (.int .i64 p.1) (.slice p.2.1.a p.2.1.len p.2.1.cap p.2.1.sz) := (Has.new h _ _).push _
theorem k2_q (p q : Int × SL × Unit) (h : Heap) : Has (k2 p q h) (h.next + 1) (.int .i64 q.1) (.slice q.2.1.a q.2.1.len q.2.1.cap q.2.1.sz) := Has.new _ _ _
noncomputable def prB (a b : PP) : Bool := @decide (Pre a b) (Classical.propDecidable _)
noncomputable def shB (a b : PP) : Bool := @decide (Sh a b) (Classical.propDecidable _)
noncomputable def lsB (a b : PP) : Bool := @decide (Ls a b) (Classical.propDecidable _)
theorem prB_t (h : Pre a b) : prB a b = true := by unfold prB; exact @decide_eq_true _ (Classical.propDecidable _) h
theorem prB_f (h : ¬ Pre a b) : prB a b = false := by unfold prB; exact @decide_eq_false _ (Classical.propDecidable _) h
theorem shB_t (h : Sh a b) : shB a b = true := by unfold shB; exact @decide_eq_true _ (Classical.propDecidable _) h
theorem shB_f (h : ¬ Sh a b) : shB a b = false := by unfold shB; exact @decide_eq_false _ (Classical.propDecidable _) h
theorem lsB_t (h : Ls a b) : lsB a b = true := by unfold lsB; exact @decide_eq_true _ (Classical.propDecidable _) h
theorem lsB_f (h : ¬ Ls a b) : lsB a b = false := by unfold lsB; exact @decide_eq_false _ (Classical.propDecidable _) h
theorem prefix_spec (hN : 30 ≤ N) (x : Pa h p a) (y : Pa h q b) : f9 N p q h = some (prB a b, k2 p q h) := by
  have hk := k2_keep p q h
  have P := k2_p p q h
  have Q := k2_q p q h
  have xs := x.s.keep hk
  have ys := y.s.keep hk
  have hlx := x.s.len
  have hly := y.s.len
  have Qc0 : (k2 p q h).cell (((h.push (.row [.int .i64 p.1, .slice p.2.1.a p.2.1.len p.2.1.cap p.2.1.sz] .own)).next, 0).1, ((h.push (.row [.int .i64 p.1, .slice p.2.1.a p.2.1.len p.2.1.cap p.2.1.sz] .own)).next, 0).2 + 0) = _ := Q.c0
  have Qc1 : (k2 p q h).cell (((h.push (.row [.int .i64 p.1, .slice p.2.1.a p.2.1.len p.2.1.cap p.2.1.sz] .own)).next, 0).1, ((h.push (.row [.int .i64 p.1, .slice p.2.1.a p.2.1.len p.2.1.cap p.2.1.sz] .own)).next, 0).2 + 1) = _ := Q.c1
  have hk2 : (h.push (.row [.int .i64 p.1, .slice p.2.1.a p.2.1.len p.2.1.cap p.2.1.sz] .own)).push (.row [.int .i64 q.1, .slice q.2.1.a q.2.1.len q.2.1.cap q.2.1.sz] .own) = k2 p q h := rfl
  unfold f9
  simp only [hk2, P.c0, P.c1, Qc0, Qc1, bindV_some, cast_int, cast_slice]
  rw [eqInt_dec]
  by_cases hi : p.1 = q.1
  · have e1 : decide (p.1 = q.1) = true := by simpa using hi
    rw [e1, leInt_dec]
    simp only [cond_true]
    by_cases hl : p.2.1.len ≤ q.2.1.len
    · have e2 : decide (Int.ofNat p.2.1.len ≤ Int.ofNat q.2.1.len) = true := by simp only [decide_eq_true_eq]; exact Int.ofNat_le.2 hl
      rw [e2]
      simp only [cond_true]
      obtain ⟨h1, h2⟩ := ys.hiOk (n := p.2.1.len) (by omega)
      have h1' : sliceA E (k2 p q h) 22 (.slice q.2.1.a q.2.1.len q.2.1.cap q.2.1.sz) none (some (.int .i64 (Int.ofNat p.2.1.len))) = _ := h1
      rw [h1']
      simp only [bindV_some, cast_slice]
      have h3 := equal_spec hN xs h2
      have h3' : f23 N ⟨p.2.1.a, p.2.1.len, p.2.1.cap, p.2.1.sz⟩ ⟨(SL.hi q.2.1 p.2.1.len).a, (SL.hi q.2.1 p.2.1.len).len, (SL.hi q.2.1 p.2.1.len).cap, (SL.hi q.2.1 p.2.1.len).sz⟩ (k2 p q h) = _ := h3
      rw [h3']
      simp only [bind2_some]
      by_cases hp : a.2 = b.2.take p.2.1.len
      · rw [prB_t ⟨by rw [← x.i, ← y.i]; exact hi, by rw [List.prefix_iff_eq_take, ← hlx]; exact hp⟩]
        simp only [hp, decide_true]
      · rw [prB_f (fun hq => hp (by have := List.prefix_iff_eq_take.1 hq.2; rw [hlx]; exact this))]
        simp only [hp, decide_false]
    · have e2 : decide (Int.ofNat p.2.1.len ≤ Int.ofNat q.2.1.len) = false := by simp only [decide_eq_false_iff_not]; intro hq; exact hl (Int.ofNat_le.1 hq)
      rw [e2, prB_f (fun hq => by have := hq.2.length_le; omega)]
      simp only [cond_false]
  · have e1 : decide (p.1 = q.1) = false := by simpa using hi
    rw [e1, prB_f (fun hq => hi (by rw [x.i, y.i]; exact hq.1))]
    simp only [cond_false]
theorem less_spec (hN : 30 ≤ N) (x : Pa h p a) (y : Pa h q b) : f14 N p q h = some (lsB a b, k2 p q h) := by
  have hk := k2_keep p q h
  have P := k2_p p q h
  have Q := k2_q p q h
  have xs := x.s.keep hk
  have ys := y.s.keep hk
  have Qc0 : (k2 p q h).cell (((h.push (.row [.int .i64 p.1, .slice p.2.1.a p.2.1.len p.2.1.cap p.2.1.sz] .own)).next, 0).1, ((h.push (.row [.int .i64 p.1, .slice p.2.1.a p.2.1.len p.2.1.cap p.2.1.sz] .own)).next, 0).2 + 0) = _ := Q.c0
  have Qc1 : (k2 p q h).cell (((h.push (.row [.int .i64 p.1, .slice p.2.1.a p.2.1.len p.2.1.cap p.2.1.sz] .own)).next, 0).1, ((h.push (.row [.int .i64 p.1, .slice p.2.1.a p.2.1.len p.2.1.cap p.2.1.sz] .own)).next, 0).2 + 1) = _ := Q.c1
  have hk2 : (h.push (.row [.int .i64 p.1, .slice p.2.1.a p.2.1.len p.2.1.cap p.2.1.sz] .own)).push (.row [.int .i64 q.1, .slice q.2.1.a q.2.1.len q.2.1.cap q.2.1.sz] .own) = k2 p q h := rfl
  unfold f14
  simp only [hk2, P.c0, P.c1, Qc0, Qc1, bindV_some, cast_int, cast_slice]
  rw [eqInt_dec]
  have hx := x.i
  have hy := y.i
  by_cases hi : p.1 = q.1
  · have e1 : decide (p.1 = q.1) = true := by simpa using hi
    have h3 := compare_spec hN xs ys
    have h3' : f26 N ⟨p.2.1.a, p.2.1.len, p.2.1.cap, p.2.1.sz⟩ ⟨q.2.1.a, q.2.1.len, q.2.1.cap, q.2.1.sz⟩ (k2 p q h) = _ := h3
    rw [e1, h3']
    simp only [Bool.not_true, cond_false, bind2_some]
    rw [ltInt_dec]
    by_cases hc : cmpS a.2 b.2 < 0
    · rw [lsB_t (.inr ⟨by omega, (cmpS_lt _ _).1 hc⟩)]
      simp only [hc, decide_true]
    · rw [lsB_f (fun hq => by
        rcases hq with hq | ⟨_, hq⟩
        · omega
        · exact hc ((cmpS_lt _ _).2 hq))]
      simp only [hc, decide_false]
  · have e1 : decide (p.1 = q.1) = false := by simpa using hi
    rw [e1]
    simp only [Bool.not_false, cond_true]
    rw [ltInt_dec]
    by_cases hc : p.1 < q.1
    · rw [lsB_t (.inl (by omega))]
      simp only [hc, decide_true]
    · rw [lsB_f (fun hq => by rcases hq with hq | ⟨hq, _⟩ <;> omega)]
      simp only [hc, decide_false]
theorem shallow_spec (hN : 30 ≤ N) (x : Pa h p a) (y : Pa h q b) : f11 N p q h = some (shB a b, k2 p q (k2 p q h)) := by
  have hk := k2_keep p q h
  have P := k2_p p q h
  have Q := k2_q p q h
  have xs := x.keep hk
  have ys := y.keep hk
  have hlx := x.s.len
  have hk' := k2_keep p q (k2 p q h)
  have P' := P.keep hk'
  have Q' := Q.keep hk'
  have ys' := ys.keep hk'
  have Qcs : (k2 p q h).cells ((h.push (.row [.int .i64 p.1, .slice p.2.1.a p.2.1.len p.2.1.cap p.2.1.sz] .own)).next, 0) 2 = _ := Q.cs
  have Qc1 : (k2 p q (k2 p q h)).cell (((h.push (.row [.int .i64 p.1, .slice p.2.1.a p.2.1.len p.2.1.cap p.2.1.sz] .own)).next, 0).1, ((h.push (.row [.int .i64 p.1, .slice p.2.1.a p.2.1.len p.2.1.cap p.2.1.sz] .own)).next, 0).2 + 1) = _ := Q'.c1
  have hk2 : (h.push (.row [.int .i64 p.1, .slice p.2.1.a p.2.1.len p.2.1.cap p.2.1.sz] .own)).push (.row [.int .i64 q.1, .slice q.2.1.a q.2.1.len q.2.1.cap q.2.1.sz] .own) = k2 p q h := rfl
  have h9 : f9 N (p.1, p.2.1, ()) (q.1, q.2.1, ()) (k2 p q h) = some (prB a b, k2 p q (k2 p q h)) := prefix_spec hN xs ys
  have Pp := HP.path (β := Bool × Heap) (p := p) P
  have Qp : ∀ (K : (Int × SL × Unit) → Option (Bool × Heap)), bindV (.val (.agg [(.int .i64), .slice])) ((k2 p q h).cells ((h.push (.row [.int .i64 p.1, .slice p.2.1.a p.2.1.len p.2.1.cap p.2.1.sz] .own)).next, 0) 2) K = K q := HP.path (β := Bool × Heap) (p := q) Q
  unfold f11
  simp only [hk2, Pp, Qp, h9, bind2_some]
  by_cases hp : Pre a b
  · rw [prB_t hp]
    have hle := hp.2.length_le
    obtain ⟨h1, h2⟩ := ys'.s.loOk (n := p.2.1.len) (by omega)
    have h1' : sliceA E (k2 p q (k2 p q h)) 22 (.slice q.2.1.a q.2.1.len q.2.1.cap q.2.1.sz) (some (.int .i64 (Int.ofNat p.2.1.len))) none = _ := h1
    have h3 : f24 N ⟨(SL.lo q.2.1 p.2.1.len).a, (SL.lo q.2.1 p.2.1.len).len, (SL.lo q.2.1 p.2.1.len).cap, (SL.lo q.2.1 p.2.1.len).sz⟩ [42] (k2 p q (k2 p q h)) = _ := contains_spec hN h2 [42]
    simp only [cond_true, P'.c1, Qc1, bindV_some, cast_slice, h1', h3, bind2_some]
    by_cases hm : [42] ∈ b.2.drop p.2.1.len
    · rw [shB_f (fun hq => hq.2 (by rw [← hlx]; exact hm))]
      simp only [hm, decide_true, Bool.not_true]
    · rw [shB_t ⟨hp, by rw [← hlx]; exact hm⟩]
      simp only [hm, decide_false, Bool.not_false]
  · rw [prB_f hp, shB_f (fun hq => hp hq.1)]
    simp only [cond_false]
theorem growA_pins {h h' : Heap} {a : Option (Nat × Nat)} {len cap sz n : Nat} {new : List AV} {v : AV} (hx : growA h a len cap sz n new = some (v, h')) : h'.pins = h.pins := by
  unfold growA at hx
  split at hx
  · simp only [Option.some.injEq, Prod.mk.injEq] at hx; rw [← hx.2]; rfl
  · split at hx
    · split at hx
      · cases hb : Nat.ble (len + n) cap with
        | true =>
          rw [hb, cond_true] at hx
          split at hx
          · simp only [Option.some.injEq, Prod.mk.injEq] at hx; rw [← hx.2]; rfl
          · cases hx
        | false =>
          rw [hb, cond_false] at hx
          simp only [Option.some.injEq, Prod.mk.injEq] at hx; rw [← hx.2]; rfl
      · cases hx
    · split at hx
      · simp only [Option.some.injEq, Prod.mk.injEq] at hx; rw [← hx.2]; rfl
      · cases hx
    · cases hx
theorem appendA_pins {E : Env} {h h' : Heap} {st t : TypeId} {x y v : AV} (hx : appendA E st t x y h = some (v, h')) : h'.pins = h.pins := by
  unfold appendA at hx
  split at hx
  · cases hx
  · rename_i d hd
    cases hi : isIntD d with
    | true => rw [hi, cond_true] at hx; cases hx
    | false =>
      rw [hi, cond_false] at hx
      split at hx
      · split at hx
        · rename_i i z _ _
          split at hx
          · rename_i n _
            split at hx
            · cases hn : Nat.beq n 0 with
              | true =>
                rw [hn, cond_true] at hx
                simp only [Option.some.injEq, Prod.mk.injEq] at hx; rw [← hx.2]
              | false =>
                rw [hn, cond_false] at hx
                revert hx
                generalize (Nat.ble _ roomA && _ && _ && _ && _) = c
                intro hx
                cases c with
                | true => exact growA_pins hx
                | false => cases hx
            · cases hx
          · cases hx
        · cases hx
      · cases hx
theorem front_spec (hN : 30 ≤ N) (x : Pa h p a) : ∃ s' h', f7 N p h = some ((p.1, s', ()), h') ∧ Pa h' (p.1, s', ()) (fr a) ∧ Keep h.next h h' ∧ h'.pins = h.pins := by
  obtain ⟨pi, ps, ⟨⟩⟩ := p
  obtain ⟨pa, pl, pc, pz⟩ := ps
  let h1 := h.push (.row [.int .i64 pi, .slice pa pl pc pz] .own)
  let h2 := h1.push (.row [.int .i64 0, .slice none 0 0 0] .own)
  have hk : Keep h.next h h2 := ((Keep.refl h.next h).push (Nat.le_refl _) _).push (Nat.le_refl _) _
  have P : Has h2 h.next (.int .i64 pi) (.slice pa pl pc pz) := (Has.new h _ _).push _
  have Q : Has h2 (h.next + 1) (.int .i64 0) (.slice none 0 0 0) := Has.new _ _ _
  have xs : Stp h2 ⟨pa, pl, pc, pz⟩ a.2 := x.s.keep hk
  have hlx : pl = a.2.length := xs.len
  have hple := posF_le [42] a.2
  have h20 := xs.small
  obtain ⟨g1, g2⟩ := xs.hiOk (n := posF [42] a.2) hple
  have g1' : sliceA E h2 22 (.slice pa pl pc pz) none (some (.int .i64 (posF [42] a.2 : Int))) = some (.slice pa (posF [42] a.2) pc pz) := g1
  obtain ⟨s', h16, e1, o1, b1, _⟩ := append_ownN (B := h2.next) (h := h2) (s := ⟨none, 0, 0, 0⟩) (vs := []) app22 g2.one (fun w hw => by obtain ⟨z, _, rfl⟩ := List.mem_map.1 hw; rfl) (Own1.nil _ _ _) (Nat.le_refl _) (by simp; omega)
  have e1' : appendA E 22 22 (.slice none 0 0 0) (.slice pa (posF [42] a.2) pc pz) h2 = some (.slice s'.a s'.len s'.cap s'.sz, h16) := e1
  rw [List.nil_append] at o1
  have hk16 : Keep h2.next h2 h16 := b1.keep (Nat.le_refl _) (fun A hA => by simp [SL.blk] at hA)
  have P16 := P.keep hk16
  have Q16 := Q.keep hk16
  let h17 := h16.put (h.next + 1) (.row [.int .i64 pi, .slice s'.a s'.len s'.cap s'.sz] .own)
  have est : h16.store (h.next + 1, 0) [.int .i64 pi, .slice s'.a s'.len s'.cap s'.sz] = some h17 := by
    rw [Heap.store_g, Q16.g, storeB_own]; rfl
  have b17 : But (some (h.next + 1)) h16 h17 := ⟨fun C hC hne => g_put_ne _ (fun e => hne (by rw [e])), Nat.le_refl _⟩
  have hn2 : h2.next = h.next + 2 := rfl
  have o17 : Own1 h2.next h17 s' ((a.2.take (posF [42] a.2)).map AV.str) := o1.but b17 (fun A hA => by
    have := o1.ge A hA
    intro e; simp only [Option.some.injEq] at e; omega)
  have Q17 : Has h17 (h.next + 1) (.int .i64 pi) (.slice s'.a s'.len s'.cap s'.sz) := ⟨g_put_eq _ rfl, Q16.lt⟩
  have hk17 : Keep h.next h h17 := (hk.trans (hk16.mono (by omega))).put (by omega) _
  have hS : Stp h17 s' (a.2.take (posF [42] a.2)) := by
    refine ⟨o17.one, ?_, ?_, ?_, by rw [List.length_take]; omega⟩
    · rcases o17 with ⟨_, q1, q2, _⟩ | ⟨A, cs, st, _, _, _, _, _, _, _, _, q1, _⟩
      · omega
      · exact q1
    · intro hn
      rcases o17 with ⟨_, q1, q2, _⟩ | ⟨A, cs, st, q1, _⟩
      · exact q2
      · rw [q1] at hn; cases hn
    · rcases o17 with ⟨q1, _⟩ | ⟨A, cs, st, _, q1, _⟩
      · exact .inl q1
      · exact .inr q1
  refine ⟨s', h17, ?_, ⟨x.i, hS⟩, hk17, (appendA_pins e1).trans rfl⟩
  have ei : f22 N ⟨pa, pl, pc, pz⟩ [42] h2 = _ := index_spec hN xs [42]
  have c0 : h2.cell ((h.next, 0).1, (h.next, 0).2 + 0) = _ := P.c0
  have c1 : h2.cell ((h.next, 0).1, (h.next, 0).2 + 1) = _ := P.c1
  have d0 : h16.cell ((h.next, 0).1, (h.next, 0).2 + 0) = _ := P16.c0
  have q17 : ∀ (K : (Int × SL × Unit) → Option ((Int × SL × Unit) × Heap)), bindV (.val (.agg [(.int .i64), .slice])) (h17.cells (h1.next, 0) 2) K = K (pi, s', ()) := HP.path (β := (Int × SL × Unit) × Heap) (p := (pi, s', ())) Q17
  have est' : h16.store (h1.next, 0) [.int .i64 pi, .slice s'.a s'.len s'.cap s'.sz] = some h17 := est
  unfold f7
  show (bindV (.val (.one .slice)) (h2.cell ((h.next, 0).1, (h.next, 0).2 + 1)) _) = _
  simp only [c1, bindV_some, cast_slice]
  show (bind2 (f22 N ⟨pa, pl, pc, pz⟩ [42] h2) _) = _
  rw [ei]
  simp only [bind2_some]
  rw [ltInt_dec]
  generalize hj : (bif decide ((if posF [42] a.2 < a.2.length then (posF [42] a.2 : Int) else -1) < 0) then
      (bindV (.val (.one .slice)) (h2.cell ((h.next, 0).1, (h.next, 0).2 + 1)) fun (x7 : SL) => some (((some (h.next, 0)), (some (h1.next, 0)), (Int.ofNat x7.len), ()), h2))
    else some (((some (h.next, 0)), (some (h1.next, 0)), (if posF [42] a.2 < a.2.length then (posF [42] a.2 : Int) else -1), ()), h2) : Option ((Option (Nat × Nat) × Option (Nat × Nat) × Int × Unit) × Heap)) = j
  have ej : j = some (((some (h.next, 0)), (some (h1.next, 0)), (posF [42] a.2 : Int), ()), h2) := by
    rw [← hj]
    by_cases hp : posF [42] a.2 < a.2.length
    · rw [if_pos hp]
      have : decide ((posF [42] a.2 : Int) < 0) = false := by simp only [decide_eq_false_iff_not]; omega
      rw [this]; rfl
    · rw [if_neg hp]
      have hpe : posF [42] a.2 = pl := by omega
      show (bindV (.val (.one .slice)) (h2.cell ((h.next, 0).1, (h.next, 0).2 + 1)) _) = _
      rw [c1, hpe]; rfl
  rw [ej]
  simp only [bind2_some, need_some, c0, c1, bindV_some, cast_int, cast_slice, g1', e1', bindT_some, est', d0, sameO_some, cond_true, guardB]
  rw [q17]
end Go.Proofs.YtjeaammlambkeaaDoor.Mq

set_option linter.unusedVariables false
set_option linter.unusedSimpArgs false
open Go Go.Proofs.YtjeaammlambkeaaDoor.Ai Go.Proofs
namespace Go.Proofs.YtjeaammlambkeaaDoor.Mq
variable {h h' : Heap} {N : Nat} {p q : Int × SL × Unit} {a b : PP} {A B : Nat} {v0 v1 : AV} {s t : SL} {l m : List (List UInt8)}
theorem lt_of (i : Nat) (n : Nat) : ltInt (i : Int) (Int.ofNat n) = decide (i < n) := by
  rw [ltInt_dec]
  by_cases q : i < n
  · simp only [q, decide_true, decide_eq_true_eq]; exact Int.ofNat_lt.2 q
  · simp only [q, decide_false, decide_eq_false_iff_not]; intro r; exact q (Int.ofNat_lt.1 r)
theorem HP.keep (x : HP h A p) (hk : Keep h.next h h') : HP h' A p := Has.keep x hk
theorem HP.c1 (x : HP h A p) : h.cell (((A, 0) : Nat × Nat).1, ((A, 0) : Nat × Nat).2 + 1) = some (.slice p.2.1.a p.2.1.len p.2.1.cap p.2.1.sz) := Has.c1 x
theorem HP.c0 (x : HP h A p) : h.cell (((A, 0) : Nat × Nat).1, ((A, 0) : Nat × Nat).2 + 0) = some (.int .i64 p.1) := Has.c0 x
/-! the document's Prefix -/
theorem rpre_loop (P : HP h A p) (Q : HP h B q) (x : Stp h p.2.1 l) (y : Stp h q.2.1 m) (hlm : l.length ≤ m.length) : ∀ (M i : Nat), i ≤ l.length → l.length - i < M →
    f10_l1 N M (some (A, 0)) (some (B, 0)) false (i : Int) h = some ((if l.drop i <+: m.drop i then Out.exit 0 else Out.ret), (false, ()), h)
  | 0, i, hi, hM => by omega
  | M + 1, i, hi, hM => by
    have h20 := x.small
    rw [f10_l1_succ, f10_l1_b]
    simp only [need_some, P.c1, bindV_some, cast_slice, x.len, lt_of]
    by_cases hlt : i < l.length
    · have hg1 : l.drop i = l.getD i [] :: l.drop (i + 1) := by rw [getD_lt _ _ hlt]; exact List.drop_eq_getElem_cons hlt
      have hg2 : m.drop i = m.getD i [] :: m.drop (i + 1) := by rw [getD_lt _ _ (by omega)]; exact List.drop_eq_getElem_cons (by omega)
      have hx := fun (K : List UInt8 → Option (Out × (Bool × Unit) × Heap)) => x.str (i := (i : Int)) (by omega) (by omega) K
      rw [x.len] at hx
      simp only [hlt, decide_true, cond_true, hx, Q.c1, bindV_some, cast_slice]
      rw [y.str (by omega) (by omega)]
      simp only [Int.toNat_natCast]
      rw [eqBytes_dec, hg1, hg2]
      by_cases he : l.getD i [] = m.getD i []
      · have hd : decide (l.getD i [] = m.getD i []) = true := by simpa using he
        rw [hd]
        simp only [Bool.not_true, cond_false]
        rw [wrapA_small (by omega) (by omega)]
        have := rpre_loop P Q x y hlm M (i + 1) (by omega) (by omega)
        rw [show ((i : Int) + 1) = ((i + 1 : Nat) : Int) by omega, this]
        simp only [List.cons_prefix_cons, he, true_and]
      · have hd : decide (l.getD i [] = m.getD i []) = false := by simpa using he
        rw [hd]
        simp only [Bool.not_false, cond_true]
        rw [if_neg (by simp only [List.cons_prefix_cons, he, false_and, not_false_eq_true])]
    · simp only [hlt, decide_false, cond_false]
      rw [List.drop_eq_nil_of_le (by omega), if_pos (List.nil_prefix)]
theorem rprefix_spec (hN : 30 ≤ N) (x : Pa h p a) (y : Pa h q b) : f10 N p q h = some (prB a b, k2 p q h) := by
  have hk := k2_keep p q h
  have P : HP (k2 p q h) h.next p := k2_p p q h
  have Q : HP (k2 p q h) (h.next + 1) q := k2_q p q h
  have xs := x.s.keep hk
  have ys := y.s.keep hk
  have hlx := x.s.len
  have hly := y.s.len
  have h20 := xs.small
  have hk2 : (h.push (.row [.int .i64 p.1, .slice p.2.1.a p.2.1.len p.2.1.cap p.2.1.sz] .own)).push (.row [.int .i64 q.1, .slice q.2.1.a q.2.1.len q.2.1.cap q.2.1.sz] .own) = k2 p q h := rfl
  have hn : (h.push (.row [.int .i64 p.1, .slice p.2.1.a p.2.1.len p.2.1.cap p.2.1.sz] .own)).next = h.next + 1 := rfl
  unfold f10
  simp only [hk2, hn, P.c0, P.c1, Q.c0, Q.c1, bindV_some, cast_int, cast_slice]
  rw [eqInt_dec]
  by_cases hi : p.1 = q.1
  · have e1 : decide (p.1 = q.1) = true := by simpa using hi
    rw [e1]
    simp only [Bool.not_true, cond_false]
    rw [ltInt_dec]
    by_cases hl : q.2.1.len < p.2.1.len
    · have e2 : decide (Int.ofNat q.2.1.len < Int.ofNat p.2.1.len) = true := by simp only [decide_eq_true_eq]; exact Int.ofNat_lt.2 hl
      rw [e2, prB_f (fun hq => by have := hq.2.length_le; omega)]
      simp only [cond_true]
    · have e2 : decide (Int.ofNat q.2.1.len < Int.ofNat p.2.1.len) = false := by simp only [decide_eq_false_iff_not]; intro hq; exact hl (Int.ofNat_lt.1 hq)
      rw [e2]
      simp only [cond_false]
      have hloop : f10_l1 N N (some (h.next, 0)) (some (h.next + 1, 0)) false 0 (k2 p q h) = _ := rpre_loop (N := N) P Q xs ys (by omega) N 0 (by omega) (by omega)
      rw [hloop]
      simp only [bind3_some, List.drop_zero]
      by_cases hp : a.2 <+: b.2
      · rw [if_pos hp, prB_t ⟨by rw [← x.i, ← y.i]; exact hi, hp⟩]
        simp only [show eqOut (.exit 0) (.exit 0) = true from rfl, cond_true]
      · rw [if_neg hp, prB_f (fun hq => hp hq.2)]
        simp only [show eqOut .ret (.exit 0) = false from rfl, cond_false]
  · have e1 : decide (p.1 = q.1) = false := by simpa using hi
    rw [e1, prB_f (fun hq => hi (by rw [x.i, y.i]; exact hq.1))]
    simp only [Bool.not_false, cond_true]
/-! the document's Shallow -/
theorem rsh_loop (Q : HP h B q) (y : Stp h q.2.1 m) : ∀ (M i : Nat), i ≤ m.length → m.length - i < M →
    f12_l1 N M (some (B, 0)) false (i : Int) h = some ((if [42] ∈ m.drop i then Out.ret else Out.exit 0), (false, ()), h)
  | 0, i, hi, hM => by omega
  | M + 1, i, hi, hM => by
    have h20 := y.small
    rw [f12_l1_succ, f12_l1_b]
    simp only [need_some, Q.c1, bindV_some, cast_slice, y.len, lt_of]
    by_cases hlt : i < m.length
    · have hg2 : m.drop i = m.getD i [] :: m.drop (i + 1) := by rw [getD_lt _ _ (by omega)]; exact List.drop_eq_getElem_cons (by omega)
      have hy := fun (K : List UInt8 → Option (Out × (Bool × Unit) × Heap)) => y.str (i := (i : Int)) (by omega) (by omega) K
      rw [y.len] at hy
      simp only [hlt, decide_true, cond_true, hy, Int.toNat_natCast]
      rw [eqBytes_dec, hg2]
      by_cases he : m.getD i [] = [42]
      · have hd : decide (m.getD i [] = [42]) = true := by simpa using he
        rw [hd]
        simp only [cond_true]
        rw [if_pos (by rw [he]; exact List.mem_cons_self)]
      · have hd : decide (m.getD i [] = [42]) = false := by simpa using he
        rw [hd]
        simp only [cond_false]
        rw [wrapA_small (by omega) (by omega)]
        have := rsh_loop Q y M (i + 1) (by omega) (by omega)
        rw [show ((i : Int) + 1) = ((i + 1 : Nat) : Int) by omega, this]
        have e : ([42] ∈ m.getD i [] :: m.drop (i + 1)) = ([42] ∈ m.drop (i + 1)) := by
          rw [List.mem_cons]
          exact propext ⟨fun h => h.resolve_left (fun e => he e.symm), .inr⟩
        simp only [e]
    · simp only [hlt, decide_false, cond_false]
      rw [List.drop_eq_nil_of_le (by omega), if_neg (by simp)]
theorem rshallow_spec (hN : 30 ≤ N) (x : Pa h p a) (y : Pa h q b) : f12 N p q h = some (shB a b, k2 p q (k2 p q h)) := by
  have hk := k2_keep p q h
  have P : HP (k2 p q h) h.next p := k2_p p q h
  have Q : HP (k2 p q h) (h.next + 1) q := k2_q p q h
  have xs := x.keep hk
  have ys := y.keep hk
  have hlx := x.s.len
  have hk' := k2_keep p q (k2 p q h)
  have P' := P.keep hk'
  have Q' := Q.keep hk'
  have ys' := ys.keep hk'
  have h20 := ys'.s.small
  have hk2 : (h.push (.row [.int .i64 p.1, .slice p.2.1.a p.2.1.len p.2.1.cap p.2.1.sz] .own)).push (.row [.int .i64 q.1, .slice q.2.1.a q.2.1.len q.2.1.cap q.2.1.sz] .own) = k2 p q h := rfl
  have hn : (h.push (.row [.int .i64 p.1, .slice p.2.1.a p.2.1.len p.2.1.cap p.2.1.sz] .own)).next = h.next + 1 := rfl
  have h9 : f10 N (p.1, p.2.1, ()) (q.1, q.2.1, ()) (k2 p q h) = some (prB a b, k2 p q (k2 p q h)) := rprefix_spec hN xs ys
  have Pp := HP.path (β := Bool × Heap) (p := p) P
  have Qp := HP.path (β := Bool × Heap) (p := q) Q
  unfold f12
  simp only [hk2, hn, Pp, Qp, h9, bind2_some]
  by_cases hp : Pre a b
  · rw [prB_t hp]
    have hle := hp.2.length_le
    simp only [Bool.not_true, cond_false, P'.c1, bindV_some, cast_slice]
    have hloop : f12_l1 N N (some (h.next + 1, 0)) false (Int.ofNat p.2.1.len) (k2 p q (k2 p q h)) = _ := rsh_loop (N := N) Q' ys'.s N p.2.1.len (by omega) (by omega)
    rw [hloop]
    simp only [bind3_some]
    by_cases hm : [42] ∈ b.2.drop p.2.1.len
    · rw [if_pos hm, shB_f (fun hq => hq.2 (by rw [← hlx]; exact hm))]
      simp only [show eqOut .ret (.exit 0) = false from rfl, cond_false]
    · rw [if_neg hm, shB_t ⟨hp, by rw [← hlx]; exact hm⟩]
      simp only [show eqOut (.exit 0) (.exit 0) = true from rfl, cond_true]
  · rw [prB_f hp, shB_f (fun hq => hp hq.1)]
    simp only [Bool.not_false, cond_true]
/-! the document's Less -/
theorem rless_loop (P : HP h A p) (Q : HP h B q) (x : Stp h p.2.1 l) (y : Stp h q.2.1 m) : ∀ (M i : Nat), i ≤ l.length → i ≤ m.length → l.length - i < M →
    ∃ o j, f15_l1 N M (some (A, 0)) (some (B, 0)) false (i : Int) h = some (o, j, h) ∧ ((o = Out.ret ∧ (j.2.2.1 = true ↔ ltS (l.drop i) (m.drop i))) ∨ (o = Out.exit 0 ∧ j.1 = some (A, 0) ∧ j.2.1 = some (B, 0) ∧ (ltS (l.drop i) (m.drop i) ↔ l.length < m.length)))
  | 0, i, hi, hj, hM => by omega
  | M + 1, i, hi, hj, hM => by
    have h20 := x.small
    rw [f15_l1_succ, f15_l1_b]
    simp only [need_some, P.c1, Q.c1, bindV_some, cast_slice, x.len, y.len, lt_of]
    by_cases hlt : i < l.length
    · have hg1 : l.drop i = l.getD i [] :: l.drop (i + 1) := by rw [getD_lt _ _ hlt]; exact List.drop_eq_getElem_cons hlt
      simp only [hlt, decide_true, cond_true]
      by_cases hm : i < m.length
      · have hg2 : m.drop i = m.getD i [] :: m.drop (i + 1) := by rw [getD_lt _ _ (by omega)]; exact List.drop_eq_getElem_cons (by omega)
        have hx := fun (K : List UInt8 → Option (Out × (Option (Nat × Nat) × Option (Nat × Nat) × Bool × Unit) × Heap)) => x.str (i := (i : Int)) (by omega) (by omega) K
        have hy := fun (K : List UInt8 → Option (Out × (Option (Nat × Nat) × Option (Nat × Nat) × Bool × Unit) × Heap)) => y.str (i := (i : Int)) (by omega) (by omega) K
        rw [x.len] at hx
        rw [y.len] at hy
        simp only [hm, decide_true, cond_true, hx, hy, Int.toNat_natCast]
        rw [eqBytes_dec, hg1, hg2]
        by_cases he : l.getD i [] = m.getD i []
        · have hd : decide (l.getD i [] = m.getD i []) = true := by simpa using he
          rw [hd]
          simp only [Bool.not_true, cond_false]
          rw [wrapA_small (by omega) (by omega)]
          obtain ⟨o, j, h1, h2⟩ := rless_loop P Q x y M (i + 1) (by omega) (by omega) (by omega)
          refine ⟨o, j, h1, ?_⟩
          have e : ltS (l.getD i [] :: l.drop (i + 1)) (m.getD i [] :: m.drop (i + 1)) ↔ ltS (l.drop (i + 1)) (m.drop (i + 1)) := by
            rw [he]
            constructor
            · rintro (h | ⟨_, h⟩)
              · exact absurd h (ltB_ord.irr _)
              · exact h
            · exact fun h => .inr ⟨rfl, h⟩
          rw [e]; exact h2
        · have hd : decide (l.getD i [] = m.getD i []) = false := by simpa using he
          rw [hd]
          simp only [Bool.not_false, cond_true]
          refine ⟨_, _, rfl, .inl ⟨rfl, ?_⟩⟩
          show bytesLt (l.getD i []) (m.getD i []) = true ↔ _
          rw [bytesLt_iff]
          constructor
          · exact fun h => .inl h
          · rintro (h | ⟨h, _⟩)
            · exact h
            · exact absurd h he
      · simp only [hm, decide_false, cond_false]
        refine ⟨_, _, rfl, .inr ⟨rfl, rfl, rfl, ?_⟩⟩
        rw [show m.drop i = [] from List.drop_eq_nil_of_le (by omega), hg1]
        exact ⟨fun h => absurd h (fun h => h), fun h => by omega⟩
    · simp only [hlt, decide_false, cond_false]
      refine ⟨_, _, rfl, .inr ⟨rfl, rfl, rfl, ?_⟩⟩
      rw [show l.drop i = [] from List.drop_eq_nil_of_le (by omega)]
      by_cases hm : i < m.length
      · rw [List.drop_eq_getElem_cons hm]
        exact ⟨fun _ => by omega, fun _ => trivial⟩
      · rw [List.drop_eq_nil_of_le (by omega)]
        exact ⟨fun h => absurd h (fun h => h), fun h => by omega⟩
theorem rless_spec (hN : 30 ≤ N) (x : Pa h p a) (y : Pa h q b) : f15 N p q h = some (lsB a b, k2 p q h) := by
  have hk := k2_keep p q h
  have P : HP (k2 p q h) h.next p := k2_p p q h
  have Q : HP (k2 p q h) (h.next + 1) q := k2_q p q h
  have xs := x.s.keep hk
  have ys := y.s.keep hk
  have hlx := x.s.len
  have hly := y.s.len
  have h20 := xs.small
  have hk2 : (h.push (.row [.int .i64 p.1, .slice p.2.1.a p.2.1.len p.2.1.cap p.2.1.sz] .own)).push (.row [.int .i64 q.1, .slice q.2.1.a q.2.1.len q.2.1.cap q.2.1.sz] .own) = k2 p q h := rfl
  have hn : (h.push (.row [.int .i64 p.1, .slice p.2.1.a p.2.1.len p.2.1.cap p.2.1.sz] .own)).next = h.next + 1 := rfl
  have hx := x.i
  have hy := y.i
  unfold f15
  simp only [hk2, hn, P.c0, P.c1, Q.c0, Q.c1, bindV_some, cast_int, cast_slice]
  rw [eqInt_dec]
  by_cases hi : p.1 = q.1
  · have e1 : decide (p.1 = q.1) = true := by simpa using hi
    rw [e1]
    simp only [Bool.not_true, cond_false]
    obtain ⟨o, j, h1, h2⟩ := rless_loop (N := N) P Q xs ys N 0 (by omega) (by omega) (by omega)
    have h1 : f15_l1 N N (some (h.next, 0)) (some (h.next + 1, 0)) false 0 (k2 p q h) = _ := h1
    rw [h1]
    simp only [bind3_some]
    rw [List.drop_zero, List.drop_zero] at h2
    have hl : lsB a b = true ↔ ltS a.2 b.2 := by
      by_cases hq : ltS a.2 b.2
      · rw [lsB_t (.inr ⟨by omega, hq⟩)]; simp [hq]
      · rw [lsB_f (fun h => by
          rcases h with h | ⟨_, h⟩
          · omega
          · exact hq h)]; simp [hq]
    rcases h2 with ⟨rfl, h2⟩ | ⟨rfl, h2, h3, h4⟩
    · simp only [show eqOut .ret (.exit 0) = false from rfl, cond_false]
      have : j.2.2.1 = lsB a b := by rw [Bool.eq_iff_iff, h2, hl]
      rw [this]
    · simp only [show eqOut (.exit 0) (.exit 0) = true from rfl, cond_true, h2, h3, need_some, P.c1, Q.c1, bindV_some, cast_slice]
      have : ltInt (Int.ofNat p.2.1.len) (Int.ofNat q.2.1.len) = lsB a b := by
        rw [Bool.eq_iff_iff, hl, h4, ltInt_dec, decide_eq_true_eq, hlx, hly]
        exact Int.ofNat_lt
      rw [this]
  · have e1 : decide (p.1 = q.1) = false := by simpa using hi
    rw [e1]
    simp only [Bool.not_false, cond_true]
    rw [ltInt_dec]
    by_cases hc : p.1 < q.1
    · rw [lsB_t (.inl (by omega))]
      simp only [hc, decide_true]
    · rw [lsB_f (fun hq => by rcases hq with hq | ⟨hq, _⟩ <;> omega)]
      simp only [hc, decide_false]
end Go.Proofs.YtjeaammlambkeaaDoor.Mq

set_option linter.unusedVariables false
set_option linter.unusedSimpArgs false
open Go Go.Proofs.YtjeaammlambkeaaDoor.Ai Go.Proofs
namespace Go.Proofs.YtjeaammlambkeaaDoor.Mq
variable {h h' : Heap} {N : Nat} {p q : Int × SL × Unit} {a b : PP} {A B : Nat} {v0 v1 : AV} {s t : SL} {l m : List (List UInt8)}
/-! the document's Front -/
theorem rfront_loop (P : HP h A p) (Q : Has h B v0 v1) (x : Stp h p.2.1 l) : ∀ (M i : Nat), i ≤ posF [42] l → l.length - i < M →
    f8_l1 N M (some (A, 0)) (some (B, 0)) (i : Int) h = if posF [42] l < l.length then some (Out.ret, (some (A, 0), some (B, 0), ()), h.put B (.row [.int .i64 p.1, .slice (SL.hi p.2.1 (posF [42] l)).a (SL.hi p.2.1 (posF [42] l)).len (SL.hi p.2.1 (posF [42] l)).cap (SL.hi p.2.1 (posF [42] l)).sz] .own)) else some (Out.exit 0, (some (A, 0), some (B, 0), ()), h)
  | 0, i, hi, hM => by omega
  | M + 1, i, hi, hM => by
    have h20 := x.small
    have hle := posF_le [42] l
    rw [f8_l1_succ, f8_l1_b]
    simp only [need_some, P.c1, bindV_some, cast_slice, x.len, lt_of]
    by_cases hlt : i < l.length
    · have hx := fun (K : List UInt8 → Option (Out × (Option (Nat × Nat) × Option (Nat × Nat) × Unit) × Heap)) => x.str (i := (i : Int)) (by omega) (by omega) K
      rw [x.len] at hx
      simp only [hlt, decide_true, cond_true, hx, Int.toNat_natCast]
      rw [getD_lt _ _ hlt]
      by_cases hp : i < posF [42] l
      · have e := posF_lt [42] l i hlt hp
        rw [eqBytes_dec] at e
        have e' : eqBytes l[i] [42] = false := by
          rw [eqBytes_dec]
          simp only [decide_eq_false_iff_not] at e ⊢
          exact fun h => e h.symm
        rw [e']
        simp only [cond_false]
        rw [wrapA_small (by omega) (by omega)]
        exact rfront_loop P Q x M (i + 1) hp (by omega)
      · have he : i = posF [42] l := by omega
        have e := posF_at [42] l (by omega)
        have e' : eqBytes l[i] [42] = true := by
          rw [eqBytes_dec] at e ⊢
          simp only [decide_eq_true_eq] at e ⊢
          simp only [he]
          exact e.symm
        rw [e']
        obtain ⟨g1, g2⟩ := x.hiOk (n := posF [42] l) hle
        have g1' : sliceA E h 22 (.slice p.2.1.a l.length p.2.1.cap p.2.1.sz) none (some (.int .i64 (i : Int))) = some (.slice (SL.hi p.2.1 (posF [42] l)).a (SL.hi p.2.1 (posF [42] l)).len (SL.hi p.2.1 (posF [42] l)).cap (SL.hi p.2.1 (posF [42] l)).sz) := by
          rw [← x.len, he]; exact g1
        have est : h.store (B, 0) [.int .i64 p.1, .slice (SL.hi p.2.1 (posF [42] l)).a (SL.hi p.2.1 (posF [42] l)).len (SL.hi p.2.1 (posF [42] l)).cap (SL.hi p.2.1 (posF [42] l)).sz] = some (h.put B (.row [.int .i64 p.1, .slice (SL.hi p.2.1 (posF [42] l)).a (SL.hi p.2.1 (posF [42] l)).len (SL.hi p.2.1 (posF [42] l)).cap (SL.hi p.2.1 (posF [42] l)).sz] .own)) := by
          rw [Heap.store_g, Q.g, storeB_own]; rfl
        rw [if_pos (by omega)]
        simp only [cond_true, P.c0, bindV_some, cast_int, cast_slice, g1', est, need_some]
    · simp only [hlt, decide_false, cond_false]
      rw [if_neg (by omega)]
theorem rfront_spec (hN : 30 ≤ N) (x : Pa h p a) : ∃ s' h', f8 N p h = some ((p.1, s', ()), h') ∧ Pa h' (p.1, s', ()) (fr a) ∧ Keep h.next h h' ∧ h'.pins = h.pins := by
  let h2 := (h.push (.row [.int .i64 p.1, .slice p.2.1.a p.2.1.len p.2.1.cap p.2.1.sz] .own)).push (.row [.int .i64 0, .slice none 0 0 0] .own)
  have hk : Keep h.next h h2 := ((Keep.refl h.next h).push (Nat.le_refl _) _).push (Nat.le_refl _) _
  have P : HP h2 h.next p := (Has.new h _ _).push _
  have Q : Has h2 (h.next + 1) (.int .i64 0) (.slice none 0 0 0) := Has.new _ _ _
  have xs := x.s.keep hk
  have h20 := xs.small
  have hle := posF_le [42] a.2
  have hh2 : (h.push (.row [.int .i64 p.1, .slice p.2.1.a p.2.1.len p.2.1.cap p.2.1.sz] .own)).push (.row [.int .i64 0, .slice none 0 0 0] .own) = h2 := rfl
  have hn : (h.push (.row [.int .i64 p.1, .slice p.2.1.a p.2.1.len p.2.1.cap p.2.1.sz] .own)).next = h.next + 1 := rfl
  have hloop : f8_l1 N N (some (h.next, 0)) (some (h.next + 1, 0)) 0 h2 = _ := rfront_loop (N := N) P Q xs N 0 (by omega) (by omega)
  by_cases hp : posF [42] a.2 < a.2.length
  · rw [if_pos hp] at hloop
    obtain ⟨g1, g2⟩ := xs.hiOk (n := posF [42] a.2) hle
    let h3 := h2.put (h.next + 1) (.row [.int .i64 p.1, .slice (SL.hi p.2.1 (posF [42] a.2)).a (SL.hi p.2.1 (posF [42] a.2)).len (SL.hi p.2.1 (posF [42] a.2)).cap (SL.hi p.2.1 (posF [42] a.2)).sz] .own)
    have hk3 : Keep h.next h h3 := hk.put (by omega) _
    have R : HP h3 (h.next + 1) (p.1, SL.hi p.2.1 (posF [42] a.2), ()) := ⟨g_put_eq _ rfl, Q.lt⟩
    have hS : Stp h (SL.hi p.2.1 (posF [42] a.2)) (a.2.take (posF [42] a.2)) := (x.s.hiOk hle).2
    refine ⟨SL.hi p.2.1 (posF [42] a.2), h3, ?_, ⟨x.i, hS.keep hk3⟩, hk3, rfl⟩
    unfold f8
    simp only [hh2, hn, hloop, bind3_some, show eqOut .ret (.exit 0) = false from rfl, cond_false, need_some]
    exact R.path _
  · rw [if_neg hp] at hloop
    have hpe : posF [42] a.2 = a.2.length := by omega
    let h3 := h2.put (h.next + 1) (.row [.int .i64 p.1, .slice p.2.1.a p.2.1.len p.2.1.cap p.2.1.sz] .own)
    have hk3 : Keep h.next h h3 := hk.put (by omega) _
    have R : HP h3 (h.next + 1) (p.1, p.2.1, ()) := ⟨g_put_eq _ rfl, Q.lt⟩
    have est : h2.store (h.next + 1, 0) [.int .i64 p.1, .slice p.2.1.a p.2.1.len p.2.1.cap p.2.1.sz] = some h3 := by
      rw [Heap.store_g, Q.g, storeB_own]; rfl
    refine ⟨p.2.1, h3, ?_, ⟨x.i, ?_⟩, hk3, rfl⟩
    · unfold f8
      simp only [hh2, hn, hloop, bind3_some, show eqOut (.exit 0) (.exit 0) = true from rfl, cond_true, need_some]
      refine (P.path _).trans ?_
      simp only [est, need_some]
      exact R.path _
    · show Stp h3 p.2.1 (a.2.take (posF [42] a.2))
      rw [hpe, List.take_length]
      exact x.s.keep hk3
/-! the document's equality of paths -/
theorem texts_loop (x : Stp h s l) (y : Stp h t l) : ∀ (M i : Nat), i ≤ l.length → l.length - i < M →
    f45_l1 N M s t false (i : Int) h = some ((Out.exit 0), (false, ()), h)
  | 0, i, hi, hM => by omega
  | M + 1, i, hi, hM => by
    have h20 := x.small
    rw [f45_l1_succ, f45_l1_b]
    simp only [x.len, lt_of]
    by_cases hlt : i < l.length
    · have hx := fun (K : List UInt8 → Option (Out × (Bool × Unit) × Heap)) => x.str (i := (i : Int)) (by omega) (by omega) K
      rw [x.len] at hx
      simp only [hlt, decide_true, cond_true, hx]
      rw [y.str (by omega) (by omega)]
      rw [eqBytes_refl]
      simp only [Bool.not_true, cond_false]
      rw [wrapA_small (by omega) (by omega)]
      exact texts_loop x y M (i + 1) (by omega) (by omega)
    · simp only [hlt, decide_false, cond_false]
theorem texts_spec (hN : 30 ≤ N) (x : Stp h s l) (y : Stp h t l) : f45 N s t h = some (true, h) := by
  have h20 := x.small
  unfold f45
  rw [x.len, y.len]
  have e1 : eqInt (Int.ofNat l.length) (Int.ofNat l.length) = true := by rw [eqInt_dec]; simp
  have hloop : f45_l1 N N s t false 0 h = _ := texts_loop (N := N) x y N 0 (by omega) (by omega)
  simp only [e1, Bool.not_true, cond_false, hloop, bind3_some, show eqOut (.exit 0) (.exit 0) = true from rfl, cond_true]
theorem path_spec (hN : 30 ≤ N) (x : Pa h p a) (y : Pa h q a) : f25 N p q h = some (true, k2 p q h) := by
  have hk := k2_keep p q h
  have P : HP (k2 p q h) h.next p := k2_p p q h
  have Q : HP (k2 p q h) (h.next + 1) q := k2_q p q h
  have hk2 : (h.push (.row [.int .i64 p.1, .slice p.2.1.a p.2.1.len p.2.1.cap p.2.1.sz] .own)).push (.row [.int .i64 q.1, .slice q.2.1.a q.2.1.len q.2.1.cap q.2.1.sz] .own) = k2 p q h := rfl
  have hn : (h.push (.row [.int .i64 p.1, .slice p.2.1.a p.2.1.len p.2.1.cap p.2.1.sz] .own)).next = h.next + 1 := rfl
  have e1 : eqInt p.1 q.1 = true := by rw [eqInt_dec, x.i, y.i]; simp
  have h3 : f45 N ⟨p.2.1.a, p.2.1.len, p.2.1.cap, p.2.1.sz⟩ ⟨q.2.1.a, q.2.1.len, q.2.1.cap, q.2.1.sz⟩ (k2 p q h) = _ := texts_spec hN (x.s.keep hk) (y.s.keep hk)
  unfold f25
  simp only [hk2, hn, P.c0, P.c1, Q.c0, Q.c1, bindV_some, cast_int, cast_slice, e1, cond_true, h3, bind2_some]
theorem paths_spec (hN : 30 ≤ N) (P : HP h A p) (Q : HP h B q) (x : Pa h p a) (y : Pa h q a) : f13 N ⟨some (A, 0), 1, 1, 2⟩ ⟨some (B, 0), 1, 1, 2⟩ h = some (true, k2 p q h) := by
  obtain ⟨M, rfl⟩ : ∃ M, N = M + 2 := ⟨N - 2, by omega⟩
  have e25 : f25 (M + 2) (p.1, p.2.1, ()) (q.1, q.2.1, ()) h = _ := path_spec hN x y
  have i0 : ∀ {β : Type} (X : Nat) (K : Nat × Nat → Option β), ixK (some (X, 0)) 1 0 2 K = K (X, 0) := fun X K => rfl
  have w1 : wrapA .i64 (0 + 1) = 1 := wrapA_small (by omega) (by omega)
  have hl : f13_l1 (M + 2) (M + 2) ⟨some (A, 0), 1, 1, 2⟩ ⟨some (B, 0), 1, 1, 2⟩ false 0 h = some (Out.exit 0, (false, ()), k2 p q h) := by
    rw [f13_l1_succ, f13_l1_b]
    simp only [show ltInt 0 (Int.ofNat 1) = true from rfl, cond_true, i0]
    refine (P.path _).trans ?_
    refine (Q.path _).trans ?_
    simp only [e25, bind2_some, Bool.not_true, cond_false, w1]
    rw [f13_l1_succ, f13_l1_b]
    rfl
  unfold f13
  simp only [show eqInt (Int.ofNat 1) (Int.ofNat 1) = true from rfl, Bool.not_true, cond_false, hl, bind3_some, show eqOut (.exit 0) (.exit 0) = true from rfl, cond_true]
end Go.Proofs.YtjeaammlambkeaaDoor.Mq

set_option linter.unusedVariables false
set_option linter.unusedSimpArgs false
open Go Go.Proofs.YtjeaammlambkeaaDoor.Ai Go.Proofs
namespace Go.Proofs.YtjeaammlambkeaaDoor.Mq
variable {h h' : Heap} {N : Nat} {p q : Int × SL × Unit} {a b : PP} {A B : Nat} {v0 v1 : AV} {s t : SL} {l m : List (List UInt8)}
def tl (l : List (List UInt8)) : List UInt8 := (l.map fun s => (46 : UInt8) :: s).flatten
theorem tl_cons (x : List UInt8) (l : List (List UInt8)) : tl (x :: l) = 46 :: (x ++ tl l) := by simp [tl]
theorem joinL_tl : ∀ (x : List UInt8) (l : List (List UInt8)), Nj.joinL (x :: l) [46] = x ++ tl l
  | x, [] => by simp [Nj.joinL, tl]
  | x, y :: r => by
    show x ++ ([46] ++ Nj.joinL (y :: r) [46]) = _
    rw [joinL_tl y r, tl_cons]; rfl
/-- the table stands -/
structure Tb (h : Heap) : Prop where
  p : (0, Nj.tabLoc) ∈ h.pins
  g : h.g 0 = some (.row Nj.tab .ro)
  n : 0 < h.next
theorem Tb.keep (x : Tb h) (hk : Keep h.next h h') (hp : h'.pins = h.pins) : Tb h' := ⟨by rw [hp]; exact x.p, by rw [hk.g 0 x.n]; exact x.g, Nat.lt_of_lt_of_le x.n hk.next⟩
theorem Tb.itoa (x : Tb h) {i : Int} (h0 : -9223372036854775808 ≤ i) (h1 : i ≤ 9223372036854775807) : Nj.itoaF i h = some (Lib.itoa i, h) := by
  unfold Nj.itoaF
  exact if_pos ⟨x.p, x.g, h0, h1⟩
theorem strs_of : ∀ l : List (List UInt8), Nj.strsOf (l.map AV.str) = some l
  | [] => rfl
  | x :: r => by simp only [List.map_cons, Nj.strsOf, strs_of r]
theorem join_some (x : One h s (l.map AV.str)) (hc : s.len ≤ s.cap) (hne : l ≠ []) (sep : List UInt8) (h1 : l.length ≤ 1000) (h2 : (Nj.joinL l sep).length ≤ 140737488355328) : Nj.joinF s sep h = some (Nj.joinL l sep, h) := by
  have hl : s.len = l.length := by have := x.1; rwa [List.length_map] at this
  have hpos : 0 < l.length := List.length_pos_iff.2 hne
  have e0 : Nat.beq s.len 0 = false := by
    cases hq : Nat.beq s.len 0 with
    | false => rfl
    | true => have := Nat.eq_of_beq_eq_true hq; omega
  obtain ⟨g1, g2, g3, g4, g5⟩ := x
  unfold Nj.joinF
  rw [e0, cond_false]
  cases ha : s.a with
  | none => have := g4 ha; omega
  | some q =>
    obtain ⟨A, off⟩ := q
    obtain ⟨_, cs, g6, g7⟩ := g5 A off ha
    have hlen : ((cs.drop off).take (l.map AV.str).length).length = (l.map AV.str).length := by rw [g7]
    rw [List.length_take] at hlen
    have hrd : h.read A off s.len = some (l.map AV.str) := by
      simp only [Heap.read, row_of_rowB A g6]
      rw [g1, takeN_of _ _ (by omega), g7]
    have e1 : Nat.ble s.len s.cap = true := by simpa using hc
    have e2 : (Nat.ble l.length 140737488355328 && Nat.ble (Nj.joinL l sep).length 140737488355328) = true := by
      simp only [Bool.and_eq_true, Nat.ble_eq]; omega
    simp only [e1, cond_true, hrd, strs_of, e2]
/-- a path's text -/
def tx (a : PP) : List UInt8 := Lib.itoa a.1 ++ tl a.2
/-- what is asked of a path's numbers -/
structure Fit (a : PP) : Prop where
  lo : -9223372036854775808 ≤ a.1
  hi : a.1 ≤ 9223372036854775807
  tl : (tl a.2).length ≤ 100000000
theorem Has.own (h : Heap) (x : AV) : Own1 h.next (h.push (.row [x] .own)) ⟨some (h.next, 0), 1, 1, 1⟩ [x] :=
  .inr ⟨h.next, [x], .own, rfl, rfl, Nat.le_refl _, by simp, g_push_eq _ rfl, rfl, by simp, rfl, Nat.le_refl _, .inr ⟨rfl, rfl⟩⟩
theorem text_spec (hN : 30 ≤ N) (x : Pa h p a) (tb : Tb h) (ft : Fit a) : ∃ h', f16 N p h = some (tx a, h') ∧ Keep h.next h h' ∧ h'.pins = h.pins := by
  let h1 := h.push (.row [.int .i64 p.1, .slice p.2.1.a p.2.1.len p.2.1.cap p.2.1.sz] .own)
  have hk1 : Keep h.next h h1 := (Keep.refl h.next h).push (Nat.le_refl _) _
  have P1 : HP h1 h.next p := Has.new h _ _
  have tb1 : Tb h1 := tb.keep hk1 rfl
  have ei : Nj.itoaF p.1 h1 = some (Lib.itoa p.1, h1) := tb1.itoa (by rw [x.i]; exact ft.lo) (by rw [x.i]; exact ft.hi)
  let h5 := h1.push (.row [.str (Lib.itoa p.1)] .own)
  have hk5 : Keep h1.next h1 h5 := (Keep.refl h1.next h1).push (Nat.le_refl _) _
  have hk15 : Keep h.next h h5 := hk1.trans (hk5.mono hk1.next)
  have P5 : HP h5 h.next p := P1.keep hk5
  have xs := x.s.keep hk15
  have h20 := xs.small
  obtain ⟨s', h8, e1, o1, b1, _⟩ := append_ownN (B := h1.next) (h := h5) (s := ⟨some (h1.next, 0), 1, 1, 1⟩) (vs := [.str (Lib.itoa p.1)]) app22 xs.one (fun w hw => by obtain ⟨z, _, rfl⟩ := List.mem_map.1 hw; rfl) (Has.own h1 _) (Nat.le_succ _) (by simp; omega)
  have e1' : appendA E 22 22 (.slice (some (h1.next, 0)) 1 1 1) (.slice p.2.1.a p.2.1.len p.2.1.cap p.2.1.sz) h5 = some (.slice s'.a s'.len s'.cap s'.sz, h8) := e1
  have hk8 : Keep h1.next h5 h8 := b1.keep (Nat.le_succ _) (fun A hA => by simp [SL.blk] at hA; omega)
  have hkf : Keep h.next h h8 := hk15.trans (hk8.mono hk1.next)
  have hpins : h8.pins = h.pins := (appendA_pins e1).trans rfl
  have hone : One h8 s' ((Lib.itoa p.1 :: a.2).map AV.str) := o1.one
  have hcap : s'.len ≤ s'.cap := by
    rcases o1 with ⟨_, q1, q2, _⟩ | ⟨A, cs, st, _, _, _, _, _, _, _, _, q1, _⟩
    · omega
    · exact q1
  have hil : (Lib.itoa p.1).length ≤ 21 := Lib.itoa_length_le _ (by rw [x.i]; exact ft.lo) (by rw [x.i]; exact ft.hi)
  have ej : Nj.joinF s' [46] h8 = some (Nj.joinL (Lib.itoa p.1 :: a.2) [46], h8) := join_some hone hcap (by simp) [46] (by simp; omega) (by
    rw [joinL_tl, List.length_append]; have := ft.tl; omega)
  have ej' : f27 N ⟨s'.a, s'.len, s'.cap, s'.sz⟩ [46] h8 = some (tx a, h8) := by
    show Nj.joinF s' [46] h8 = _
    rw [ej, joinL_tl]
    unfold tx; rw [x.i]
  have ei' : f28 N p.1 h1 = some (Lib.itoa p.1, h1) := ei
  have hh1 : h.push (.row [.int .i64 p.1, .slice p.2.1.a p.2.1.len p.2.1.cap p.2.1.sz] .own) = h1 := rfl
  have hh5 : h1.push (.row [.str (Lib.itoa p.1)] .own) = h5 := rfl
  refine ⟨h8, ?_, hkf, hpins⟩
  unfold f16
  simp only [hh1, P1.c0, bindV_some, cast_int, ei', bind2_some, hh5, P5.c1, cast_slice, e1', bindT_some, ej', P1.c1, sameO_some, cond_true, guardB]
theorem rtext_loop (P : HP h A p) (x : Stp h p.2.1 l) : ∀ (M i : Nat) (acc : List UInt8), i ≤ l.length → l.length - i < M → acc.length + (tl (l.drop i)).length ≤ 1099511627776 →
    f17_l1 N M (some (A, 0)) acc (i : Int) h = some (Out.exit 0, (acc ++ tl (l.drop i), ()), h)
  | 0, i, acc, hi, hM, hl => by omega
  | M + 1, i, acc, hi, hM, hl => by
    have h20 := x.small
    rw [f17_l1_succ, f17_l1_b]
    simp only [need_some, P.c1, bindV_some, cast_slice, x.len, lt_of]
    by_cases hlt : i < l.length
    · have hg1 : l.drop i = l.getD i [] :: l.drop (i + 1) := by rw [getD_lt _ _ hlt]; exact List.drop_eq_getElem_cons hlt
      rw [hg1, tl_cons] at hl ⊢
      simp only [List.length_cons, List.length_append] at hl
      have hx := fun (K : List UInt8 → Option (Out × (List UInt8 × Unit) × Heap)) => x.str (i := (i : Int)) (by omega) (by omega) K
      rw [x.len] at hx
      have b1 : binStr .add acc [46] = some (.str (acc ++ [46])) := by
        have : Nat.ble (acc.length + [(46 : UInt8)].length) 1099511627776 = true := by simp; omega
        simp only [binStr, this, cond_true]
      have b2 : binStr .add (acc ++ [46]) (l.getD i []) = some (.str ((acc ++ [46]) ++ l.getD i [])) := by
        have : Nat.ble ((acc ++ [46]).length + (l.getD i []).length) 1099511627776 = true := by
          simp only [List.length_append, List.length_singleton, Nat.ble_eq]; omega
        simp only [binStr, this, cond_true]
      simp only [hlt, decide_true, cond_true, b1, bindV_some, cast_str, hx, Int.toNat_natCast, b2]
      rw [wrapA_small (by omega) (by omega)]
      have := rtext_loop P x M (i + 1) (acc ++ [46] ++ l.getD i []) (by omega) (by omega) (by simp only [List.length_append, List.length_singleton]; omega)
      rw [show ((i : Int) + 1) = ((i + 1 : Nat) : Int) by omega, this]
      simp
    · simp only [hlt, decide_false, cond_false]
      rw [List.drop_eq_nil_of_le (by omega)]
      simp [tl]
theorem rtext_spec (hN : 30 ≤ N) (x : Pa h p a) (tb : Tb h) (ft : Fit a) : ∃ h', f17 N p h = some (tx a, h') ∧ Keep h.next h h' ∧ h'.pins = h.pins := by
  let h1 := h.push (.row [.int .i64 p.1, .slice p.2.1.a p.2.1.len p.2.1.cap p.2.1.sz] .own)
  have hk1 : Keep h.next h h1 := (Keep.refl h.next h).push (Nat.le_refl _) _
  have P1 : HP h1 h.next p := Has.new h _ _
  have tb1 : Tb h1 := tb.keep hk1 rfl
  have ei : Nj.itoaF p.1 h1 = some (Lib.itoa p.1, h1) := tb1.itoa (by rw [x.i]; exact ft.lo) (by rw [x.i]; exact ft.hi)
  have xs := x.s.keep hk1
  have h20 := xs.small
  have hil : (Lib.itoa p.1).length ≤ 21 := Lib.itoa_length_le _ (by rw [x.i]; exact ft.lo) (by rw [x.i]; exact ft.hi)
  have ei' : f28 N p.1 h1 = some (Lib.itoa p.1, h1) := ei
  have hh1 : h.push (.row [.int .i64 p.1, .slice p.2.1.a p.2.1.len p.2.1.cap p.2.1.sz] .own) = h1 := rfl
  have hloop : f17_l1 N N (some (h.next, 0)) (Lib.itoa p.1) 0 h1 = _ := rtext_loop (N := N) P1 xs N 0 (Lib.itoa p.1) (by omega) (by omega) (by rw [List.drop_zero]; have := ft.tl; omega)
  refine ⟨h1, ?_, hk1, rfl⟩
  unfold f17
  simp only [hh1, P1.c0, bindV_some, cast_int, ei', bind2_some, hloop, bind3_some, List.drop_zero]
  unfold tx; rw [x.i]
end Go.Proofs.YtjeaammlambkeaaDoor.Mq

set_option linter.unusedVariables false
set_option linter.unusedSimpArgs false
set_option maxRecDepth 100000
open Go Go.Proofs.YtjeaammlambkeaaDoor.Ai Go.Proofs
namespace Go.Proofs.YtjeaammlambkeaaDoor.Mq
variable {h h' : Heap} {N : Nat} {p q : Int × SL × Unit} {a b : PP} {ia ib : Int} {sa sb s1 s2 : SL} {A B F G : Nat}
theorem Pa.push (x : Pa h p a) (bl : Blk) : Pa (h.push bl) p a := x.keep ((Keep.refl h.next h).push (Nat.le_refl _) bl)
theorem HP.push (x : HP h A p) (bl : Blk) : HP (h.push bl) A p := Has.push x bl
theorem HP.new (h : Heap) (i : Int) (s : SL) : HP (h.push (.row [.int .i64 i, .slice s.a s.len s.cap s.sz] .own)) h.next (i, s, ()) := Has.new h _ _
theorem Tb.push (x : Tb h) (bl : Blk) : Tb (h.push bl) := x.keep ((Keep.refl h.next h).push (Nat.le_refl _) bl) rfl
structure Iv (a b : PP) (ia ib : Int) (sa sb : SL) (A B : Nat) (h : Heap) : Prop where
  A : HP h A (ia, sa, ())
  B : HP h B (ib, sb, ())
  a : Pa h (ia, sa, ()) a
  b : Pa h (ib, sb, ()) b
  t : Tb h
theorem Iv.keep (x : Iv a b ia ib sa sb A B h) (hk : Keep h.next h h') (hp : h'.pins = h.pins) : Iv a b ia ib sa sb A B h' := ⟨x.A.keep hk, x.B.keep hk, x.a.keep hk, x.b.keep hk, x.t.keep hk hp⟩
structure Iw (a b : PP) (ia ib : Int) (sa sb s1 s2 : SL) (A B F G : Nat) (h : Heap) : Prop where
  i : Iv a b ia ib sa sb A B h
  F : HP h F (ia, s1, ())
  G : HP h G (ia, s2, ())
  f : Pa h (ia, s1, ()) (fr a)
  g : Pa h (ia, s2, ()) (fr a)
theorem Iw.keep (x : Iw a b ia ib sa sb s1 s2 A B F G h) (hk : Keep h.next h h') (hp : h'.pins = h.pins) : Iw a b ia ib sa sb s1 s2 A B F G h' := ⟨x.i.keep hk hp, x.F.keep hk, x.G.keep hk, x.f.keep hk, x.g.keep hk⟩
abbrev HQ (a b : PP) (ia ib : Int) (sa sb s1 s2 : SL) (A B F G : Nat) := { h : Heap // Iw a b ia ib sa sb s1 s2 A B F G h }
def mm (p q : Int × SL × Unit) (x : HQ a b ia ib sa sb s1 s2 A B F G) : HQ a b ia ib sa sb s1 s2 A B F G := ⟨k2 p q x.1, x.2.keep (k2_keep p q x.1) rfl⟩
def pw (bl : Blk) (x : HQ a b ia ib sa sb s1 s2 A B F G) : HQ a b ia ib sa sb s1 s2 A B F G := ⟨x.1.push bl, x.2.keep ((Keep.refl x.1.next x.1).push (Nat.le_refl _) bl) rfl⟩
theorem pw_eq (x : HQ a b ia ib sa sb s1 s2 A B F G) (bl : Blk) : x.1.push bl = (pw bl x).1 := rfl
theorem bind2_of {α β : Type} {X : Option (α × Heap)} {v : α} {h' : Heap} (e : X = some (v, h')) (K : α → Heap → Option β) : bind2 X K = K v h' := by rw [e]; rfl
theorem guardB_true {β : Type} (k : Option β) : guardB true k = k := rfl
theorem cself {β : Type} (x : Bool) (k l : β) : (bif (bif x then x else !x) then k else l) = k := by cases x <;> rfl
theorem sm {i : Int} {s : SL} (x : HP h A (i, s, ())) : sameO (h.cells (A, 0) 2) (.agg [.int .i64 i, .slice s.a s.len s.cap s.sz]) = true := by
  rw [Has.cs x]; exact sameO_some _
theorem paths_true (hN : 30 ≤ N) (h : Heap) (tb : Tb h) (ha : Stp h sa a.2 ∨ 20 < sa.len) (hb : Stp h sb b.2 ∨ 20 < sb.len) (ea : ia = a.1) (eb : ib = b.1) (ft : Fit a) :
    ∃ h', f3 N (ia, sa, ()) (ib, sb, ()) h = some (true, h') := by
  unfold f3
  dsimp only
  have hA : HP ((h.push (.row [.int .i64 ia, .slice sa.a sa.len sa.cap sa.sz] .own)).push (.row [.int .i64 ib, .slice sb.a sb.len sb.cap sb.sz] .own)) h.next (ia, sa, ()) := (HP.new h ia sa).push _
  have hB : HP ((h.push (.row [.int .i64 ia, .slice sa.a sa.len sa.cap sa.sz] .own)).push (.row [.int .i64 ib, .slice sb.a sb.len sb.cap sb.sz] .own)) (h.push (.row [.int .i64 ia, .slice sa.a sa.len sa.cap sa.sz] .own)).next (ib, sb, ()) := HP.new _ ib sb
  have hk : Keep h.next h ((h.push (.row [.int .i64 ia, .slice sa.a sa.len sa.cap sa.sz] .own)).push (.row [.int .i64 ib, .slice sb.a sb.len sb.cap sb.sz] .own)) := ((Keep.refl h.next h).push (Nat.le_refl _) _).push (Nat.le_refl _) _
  have Ha := ha.imp (fun x => x.keep hk) id
  have Hb := hb.imp (fun x => x.keep hk) id
  have ht : Tb ((h.push (.row [.int .i64 ia, .slice sa.a sa.len sa.cap sa.sz] .own)).push (.row [.int .i64 ib, .slice sb.a sb.len sb.cap sb.sz] .own)) := tb.keep hk rfl
  clear hk ha hb tb
  generalize h.next = A at hA ⊢
  generalize (h.push (.row [.int .i64 ia, .slice sa.a sa.len sa.cap sa.sz] .own)).next = B at hB ⊢
  generalize ((h.push (.row [.int .i64 ia, .slice sa.a sa.len sa.cap sa.sz] .own)).push (.row [.int .i64 ib, .slice sb.a sb.len sb.cap sb.sz] .own)) = h3 at hA hB Ha Hb ht ⊢
  have cA : h3.cell (A, 0 + 1) = some (.slice sa.a sa.len sa.cap sa.sz) := Has.c1 hA
  have cB : h3.cell (B, 0 + 1) = some (.slice sb.a sb.len sb.cap sb.sz) := Has.c1 hB
  have told : ∀ {β : Type} (h : Heap) (K : Bool → Heap → Option β), bind2 (f6 N h) K = K true h := fun _ _ => rfl
  have l20 : ∀ n : Nat, ltInt 20 (Int.ofNat n) = decide (20 < n) := fun n => lt_of 20 n
  by_cases qa : 20 < sa.len
  · simp only [cA, ↓bindV_some, ↓cast_slice, l20, qa, decide_true, ↓cond_true, ↓told]
    exact ⟨_, rfl⟩
  by_cases qb : 20 < sb.len
  · simp only [cA, cB, ↓bindV_some, ↓cast_slice, l20, qa, qb, decide_true, decide_false, ↓cond_true, ↓cond_false, ↓told]
    exact ⟨_, rfl⟩
  have ha := Ha.resolve_right qa
  have hb := Hb.resolve_right qb
  have hI : Iv a b ia ib sa sb A B h3 := ⟨hA, hB, ⟨ea, ha⟩, ⟨eb, hb⟩, ht⟩
  obtain ⟨s1, h13, e7, p7, k7, n7⟩ := front_spec hN hI.a
  have e7' : f7 N (ia, sa, ()) h3 = some ((ia, s1, ()), h13) := e7
  have hI1 := hI.keep k7 n7
  have est1 : (h13.push (.row [.int .i64 0, .slice none 0 0 0] .own)).store (h13.next, 0) [.int .i64 ia, .slice s1.a s1.len s1.cap s1.sz] = some ((h13.push (.row [.int .i64 0, .slice none 0 0 0] .own)).put h13.next (.row [.int .i64 ia, .slice s1.a s1.len s1.cap s1.sz] .own)) := by
    rw [Heap.store_g, g_push_eq _ rfl, storeB_own]; rfl
  have rA1 := HP.path (β := Bool × Heap) hI.A
  simp only [cA, cB, ↓bindV_some, ↓cast_slice, l20, qa, qb, decide_false, ↓cond_false]
  refine (congrArg (fun o => ∃ h', o = some (true, h')) (hI.A.path _)).mpr ?_
  simp only [e7', ↓bind2_some, est1, ↓need_some]
  have k15 : Keep h13.next h13 ((h13.push (.row [.int .i64 0, .slice none 0 0 0] .own)).put h13.next (.row [.int .i64 ia, .slice s1.a s1.len s1.cap s1.sz] .own)) := ((Keep.refl h13.next h13).push (Nat.le_refl _) _).put (Nat.le_refl _) _
  have hI2 := hI1.keep k15 rfl
  have hf2 := p7.keep k15
  have hF2 : HP ((h13.push (.row [.int .i64 0, .slice none 0 0 0] .own)).put h13.next (.row [.int .i64 ia, .slice s1.a s1.len s1.cap s1.sz] .own)) h13.next (ia, s1, ()) := ⟨g_put_eq _ rfl, by show h13.next < h13.next + 1; omega⟩
  clear est1 k15 hI1 p7 k7 n7 e7 e7' rA1
  generalize h13.next = F at hF2 hI2 hf2 ⊢
  generalize (h13.push (.row [.int .i64 0, .slice none 0 0 0] .own)).put F (.row [.int .i64 ia, .slice s1.a s1.len s1.cap s1.sz] .own) = h15 at hF2 hI2 hf2 ⊢
  obtain ⟨s2, h18, e8, p8, k8, n8⟩ := rfront_spec hN hI2.a
  have e8' : f8 N (ia, sa, ()) h15 = some ((ia, s2, ()), h18) := e8
  have est2 : (h18.push (.row [.int .i64 0, .slice none 0 0 0] .own)).store (h18.next, 0) [.int .i64 ia, .slice s2.a s2.len s2.cap s2.sz] = some ((h18.push (.row [.int .i64 0, .slice none 0 0 0] .own)).put h18.next (.row [.int .i64 ia, .slice s2.a s2.len s2.cap s2.sz] .own)) := by
    rw [Heap.store_g, g_push_eq _ rfl, storeB_own]; rfl
  refine (congrArg (fun o => ∃ h', o = some (true, h')) (hI2.A.path _)).mpr ?_
  simp only [e8', ↓bind2_some, est2, ↓need_some]
  have k20 : Keep h18.next h18 ((h18.push (.row [.int .i64 0, .slice none 0 0 0] .own)).put h18.next (.row [.int .i64 ia, .slice s2.a s2.len s2.cap s2.sz] .own)) := ((Keep.refl h18.next h18).push (Nat.le_refl _) _).put (Nat.le_refl _) _
  have hI3 := (hI2.keep k8 n8).keep k20 rfl
  have hf3 := (hf2.keep k8).keep k20
  have hF3 := (hF2.keep k8).keep k20
  have hg3 := p8.keep k20
  have hG3 : HP ((h18.push (.row [.int .i64 0, .slice none 0 0 0] .own)).put h18.next (.row [.int .i64 ia, .slice s2.a s2.len s2.cap s2.sz] .own)) h18.next (ia, s2, ()) := ⟨g_put_eq _ rfl, by show h18.next < h18.next + 1; omega⟩
  clear est2 k20 p8 k8 n8 e8 e8' hI2 hf2 hF2
  generalize h18.next = G at hG3 hI3 hf3 hF3 hg3 ⊢
  generalize (h18.push (.row [.int .i64 0, .slice none 0 0 0] .own)).put G (.row [.int .i64 ia, .slice s2.a s2.len s2.cap s2.sz] .own) = h20 at hG3 hI3 hf3 hF3 hg3 ⊢
  obtain ⟨y, rfl⟩ : ∃ y : HQ a b ia ib sa sb s1 s2 A B F G, y.1 = h20 := ⟨⟨h20, hI3, hF3, hG3, hf3, hg3⟩, rfl⟩
  clear hI3 hF3 hG3 hf3 hg3
  have rA : ∀ {β : Type} (x : HQ a b ia ib sa sb s1 s2 A B F G) (K : (Int × SL × Unit) → Option β), bindV (.val (.agg [(.int .i64), .slice])) (x.1.cells (A, 0) 2) K = K (ia, sa, ()) := fun x K => x.2.i.A.path K
  have rB : ∀ {β : Type} (x : HQ a b ia ib sa sb s1 s2 A B F G) (K : (Int × SL × Unit) → Option β), bindV (.val (.agg [(.int .i64), .slice])) (x.1.cells (B, 0) 2) K = K (ib, sb, ()) := fun x K => x.2.i.B.path K
  have rF : ∀ {β : Type} (x : HQ a b ia ib sa sb s1 s2 A B F G) (K : (Int × SL × Unit) → Option β), bindV (.val (.agg [(.int .i64), .slice])) (x.1.cells (F, 0) 2) K = K (ia, s1, ()) := fun x K => x.2.F.path K
  have rG : ∀ {β : Type} (x : HQ a b ia ib sa sb s1 s2 A B F G) (K : (Int × SL × Unit) → Option β), bindV (.val (.agg [(.int .i64), .slice])) (x.1.cells (G, 0) 2) K = K (ia, s2, ()) := fun x K => x.2.G.path K
  have tA : ∀ (x : HQ a b ia ib sa sb s1 s2 A B F G), sameO (x.1.cells (A, 0) 2) (.agg [.int .i64 ia, .slice sa.a sa.len sa.cap sa.sz]) = true := fun x => sm x.2.i.A
  have tB : ∀ (x : HQ a b ia ib sa sb s1 s2 A B F G), sameO (x.1.cells (B, 0) 2) (.agg [.int .i64 ib, .slice sb.a sb.len sb.cap sb.sz]) = true := fun x => sm x.2.i.B
  have tF : ∀ (x : HQ a b ia ib sa sb s1 s2 A B F G), sameO (x.1.cells (F, 0) 2) (.agg [.int .i64 ia, .slice s1.a s1.len s1.cap s1.sz]) = true := fun x => sm x.2.F
  have tG : ∀ (x : HQ a b ia ib sa sb s1 s2 A B F G), sameO (x.1.cells (G, 0) 2) (.agg [.int .i64 ia, .slice s2.a s2.len s2.cap s2.sz]) = true := fun x => sm x.2.G
  have q9 : ∀ {β : Type} (x : HQ a b ia ib sa sb s1 s2 A B F G) (K : Bool → Heap → Option β), bind2 (f9 N (ia, sa, ()) (ib, sb, ()) x.1) K = K (prB a b) (mm (ia, sa, ()) (ib, sb, ()) x).1 := fun x K => bind2_of (prefix_spec hN x.2.i.a x.2.i.b) K
  have q10 : ∀ {β : Type} (x : HQ a b ia ib sa sb s1 s2 A B F G) (K : Bool → Heap → Option β), bind2 (f10 N (ia, sa, ()) (ib, sb, ()) x.1) K = K (prB a b) (mm (ia, sa, ()) (ib, sb, ()) x).1 := fun x K => bind2_of (rprefix_spec hN x.2.i.a x.2.i.b) K
  have q11 : ∀ {β : Type} (x : HQ a b ia ib sa sb s1 s2 A B F G) (K : Bool → Heap → Option β), bind2 (f11 N (ia, sa, ()) (ib, sb, ()) x.1) K = K (shB a b) (mm (ia, sa, ()) (ib, sb, ()) (mm (ia, sa, ()) (ib, sb, ()) x)).1 := fun x K => bind2_of (shallow_spec hN x.2.i.a x.2.i.b) K
  have q12 : ∀ {β : Type} (x : HQ a b ia ib sa sb s1 s2 A B F G) (K : Bool → Heap → Option β), bind2 (f12 N (ia, sa, ()) (ib, sb, ()) x.1) K = K (shB a b) (mm (ia, sa, ()) (ib, sb, ()) (mm (ia, sa, ()) (ib, sb, ()) x)).1 := fun x K => bind2_of (rshallow_spec hN x.2.i.a x.2.i.b) K
  have q14 : ∀ {β : Type} (x : HQ a b ia ib sa sb s1 s2 A B F G) (K : Bool → Heap → Option β), bind2 (f14 N (ia, sa, ()) (ib, sb, ()) x.1) K = K (lsB a b) (mm (ia, sa, ()) (ib, sb, ()) x).1 := fun x K => bind2_of (less_spec hN x.2.i.a x.2.i.b) K
  have q15 : ∀ {β : Type} (x : HQ a b ia ib sa sb s1 s2 A B F G) (K : Bool → Heap → Option β), bind2 (f15 N (ia, sa, ()) (ib, sb, ()) x.1) K = K (lsB a b) (mm (ia, sa, ()) (ib, sb, ()) x).1 := fun x K => bind2_of (rless_spec hN x.2.i.a x.2.i.b) K
  have q13 : ∀ {β : Type} (x : HQ a b ia ib sa sb s1 s2 A B F G) (K : Bool → Heap → Option β), bind2 (f13 N ⟨some (x.1.next, 0), 1, 1, 2⟩ ⟨some ((pw (.row [.int .i64 ia, .slice s1.a s1.len s1.cap s1.sz] .own) x).1.next, 0), 1, 1, 2⟩ (pw (.row [.int .i64 ia, .slice s2.a s2.len s2.cap s2.sz] .own) (pw (.row [.int .i64 ia, .slice s1.a s1.len s1.cap s1.sz] .own) x)).1) K = K true (mm (ia, s1, ()) (ia, s2, ()) (pw (.row [.int .i64 ia, .slice s2.a s2.len s2.cap s2.sz] .own) (pw (.row [.int .i64 ia, .slice s1.a s1.len s1.cap s1.sz] .own) x))).1 := fun x K =>
    bind2_of (paths_spec hN (p := (ia, s1, ())) (q := (ia, s2, ())) (HP.push (HP.new x.1 ia s1) _) (HP.new _ ia s2) (pw _ (pw _ x)).2.f (pw _ (pw _ x)).2.g) K
  obtain ⟨z16, q16⟩ : ∃ z : HQ a b ia ib sa sb s1 s2 A B F G → HQ a b ia ib sa sb s1 s2 A B F G, ∀ {β : Type} x (K : List UInt8 → Heap → Option β), bind2 (f16 N (ia, sa, ()) x.1) K = K (tx a) (z x).1 := by
    have : ∀ x : HQ a b ia ib sa sb s1 s2 A B F G, ∃ y : HQ a b ia ib sa sb s1 s2 A B F G, f16 N (ia, sa, ()) x.1 = some (tx a, y.1) := fun x => by
      obtain ⟨h', e, k, n⟩ := text_spec hN x.2.i.a x.2.i.t ft
      exact ⟨⟨h', x.2.keep k n⟩, e⟩
    exact ⟨fun x => Classical.choose (this x), fun x K => bind2_of (Classical.choose_spec (this x)) K⟩
  obtain ⟨z17, q17⟩ : ∃ z : HQ a b ia ib sa sb s1 s2 A B F G → HQ a b ia ib sa sb s1 s2 A B F G, ∀ {β : Type} x (K : List UInt8 → Heap → Option β), bind2 (f17 N (ia, sa, ()) x.1) K = K (tx a) (z x).1 := by
    have : ∀ x : HQ a b ia ib sa sb s1 s2 A B F G, ∃ y : HQ a b ia ib sa sb s1 s2 A B F G, f17 N (ia, sa, ()) x.1 = some (tx a, y.1) := fun x => by
      obtain ⟨h', e, k, n⟩ := rtext_spec hN x.2.i.a x.2.i.t ft
      exact ⟨⟨h', x.2.keep k n⟩, e⟩
    exact ⟨fun x => Classical.choose (this x), fun x K => bind2_of (Classical.choose_spec (this x)) K⟩
  simp only [↓told, ↓cond_true, ↓rA, ↓rB, ↓rF, ↓rG, ↓q9, ↓q10, ↓q11, ↓q12, ↓cself, pw_eq, ↓q13, ↓q14, ↓q15, ↓q16, ↓q17, tA, tB, tF, tG, eqBytes_refl, ↓guardB_true]
  exact ⟨_, rfl⟩
end Go.Proofs.YtjeaammlambkeaaDoor.Mq

set_option maxRecDepth 100000
open Go Go.Proofs.YtjeaammlambkeaaDoor.Ai Go.Proofs
open Go.ChangeShapes Go.WideShapes
open Go.RowKit (Below)
namespace Go.Proofs.YtjeaammlambkeaaDoor.Mq
open Go.Proofs.YtjeaammlambkeaaDoor
/-! the arguments -/
theorem undP24 : ∃ fs : Array Field, Tryd.prog.underlying 24 = some (.struct fs) ∧ fs.toList.map (·.type) = [3, 22] := by
  have : (match Tryd.prog.underlying 24 with | some (.struct fs) => (fs.toList.map (·.type)) == [3, 22] | _ => false) = true := by kernel_rfl
  split at this
  · rename_i fs hfs
    exact ⟨fs, hfs, by simpa using this⟩
  · cases this
theorem undP22 : Tryd.prog.underlying 22 = some (.slice 9) := by kernel_rfl
theorem undP9 : Tryd.prog.underlying 9 = some .string := by kernel_rfl
theorem undP3 : Tryd.prog.underlying 3 = some (.int .i64) := by kernel_rfl
theorem cells9 : Tryd.prog.cellsOf 9 = 1 := by kernel_rfl
theorem strs_bulk {H : Type} {h : Heap} : ∀ (ass : List (List AV)) (ds : List (DataW H)), ass.length = ds.length → (∀ (i : Nat) a d, ass[i]? = some a → ds[i]? = some d → Rd Tryd.prog h 9 a d) →
    ∃ xs : List (List UInt8), ass.flatten = xs.map AV.str ∧ xs.length = ass.length ∧ (tl xs).length ≤ Rows.uptoBulkAll ds
  | [], [], _, _ => ⟨[], rfl, rfl, Nat.zero_le _⟩
  | a :: r, d :: q, hl, hx => by
    obtain ⟨z, rfl, rfl, _⟩ := Rd.str_inv undP9 (hx 0 a d rfl rfl)
    obtain ⟨xs, h1, h2, h3⟩ := strs_bulk r q (by simpa using hl) fun i a d h1 h2 => hx (i + 1) a d (by simpa using h1) (by simpa using h2)
    refine ⟨z :: xs, by simp [h1], by simp [h2], ?_⟩
    rw [tl_cons]
    simp only [List.length_cons, List.length_append, Rows.uptoBulkAll, Rows.uptoBulk]
    omega
  | [], _ :: _, hl, _ => by simp at hl
  | _ :: _, [], hl, _ => by simp at hl
theorem steps_inv {H : Type} {h : Heap} {cs : List AV} {d : DataW H} (hx : Rd Tryd.prog h 22 cs d) : ∃ (s : SL) (l : List (List UInt8)), cs = [.slice s.a s.len s.cap s.sz] ∧ One h s (l.map AV.str) ∧ s.len ≤ s.cap ∧ (s.a = none → s.cap = 0) ∧ (s.a = none ∨ s.sz = 1) ∧ (tl l).length ≤ Rows.uptoBulk d := by
  rcases Rd.slice_inv undP22 hx with ⟨rfl, _⟩ | ⟨A, ass, ds, sp, rfl, rfl, h1, h2, h3, h4, h5⟩
  · exact ⟨⟨none, 0, 0, 0⟩, [], rfl, One.nil h, Nat.le_refl _, fun _ => rfl, .inl rfl, Nat.zero_le _⟩
  · obtain ⟨xs, h6, h7, h8⟩ := strs_bulk ass ds h4 h5
    rw [cells9]
    have hlen : xs.length = ds.length := by omega
    refine ⟨⟨some (A, 0), ds.length, ds.length, 1⟩, xs, rfl, ⟨by rw [List.length_map]; exact hlen.symm, .inl rfl, by rw [List.length_map, hlen]; exact (Nat.mul_one _).symm, fun ha => by simp at ha, fun A' off ha => ?_⟩, Nat.le_refl _, fun ha => by simp at ha, .inr rfl, ?_⟩
    · simp only [Option.some.injEq, Prod.mk.injEq] at ha
      obtain ⟨rfl, rfl⟩ := ha
      refine ⟨h2, ass.flatten, ?_, by rw [h6, List.drop_zero, List.take_length]⟩
      show rowB (h.t.get A) = _
      rw [h1]; rfl
    · simp only [Rows.uptoBulk]; omega
theorem part_le {H : Type} {d : DataW H} : ∀ {l : List (DataW H)}, d ∈ l → Rows.uptoBulk d ≤ Rows.uptoBulkAll l
  | x :: r, h => by
    simp only [Rows.uptoBulkAll]
    rcases List.mem_cons.1 h with rfl | e
    · omega
    · have := part_le e; omega
theorem path_inv {H : Type} {h : Heap} {cs : List AV} {d : DataW H} (hx : Rd Tryd.prog h 24 cs d) : ∃ (i : Int) (s : SL) (l : List (List UInt8)), cs = [.int .i64 i, .slice s.a s.len s.cap s.sz] ∧ -9223372036854775808 ≤ i ∧ i ≤ 9223372036854775807 ∧ (Stp h s l ∨ 20 < s.len) ∧ (tl l).length ≤ Rows.uptoBulk d := by
  obtain ⟨fs, hu, hfs⟩ := undP24
  obtain ⟨ass, ds, rfl, rfl, h1, h2, h3⟩ := Rd.struct_inv hu hx
  have hsz : fs.size = 2 := by
    have := congrArg List.length hfs
    simpa using this
  have ft : ∀ i, i < 2 → ∃ f, fs[i]? = some f ∧ some f.type = ([3, 22] : List Nat)[i]? := fun i hi => by
    refine ⟨fs[i], by rw [Array.getElem?_eq_getElem (by omega)], ?_⟩
    rw [← hfs, List.getElem?_map, List.getElem?_eq_getElem (by simp; omega)]
    simp
  have hal : ass.length = 2 := by omega
  have hdl : ds.length = 2 := by omega
  obtain ⟨f, hf1, hf2⟩ := ft 0 (by omega)
  have h4 := h3 0 f ass[0] ds[0] hf1 (by rw [List.getElem?_eq_getElem]) (by rw [List.getElem?_eq_getElem])
  have h5 : f.type = 3 := by simpa using hf2
  rw [h5] at h4
  obtain ⟨n0, hn0, _, hb1, hb2⟩ := Rd.int_inv undP3 h4
  obtain ⟨f', hf1', hf2'⟩ := ft 1 (by omega)
  have h4' := h3 1 f' ass[1] ds[1] hf1' (by rw [List.getElem?_eq_getElem]) (by rw [List.getElem?_eq_getElem])
  have h5' : f'.type = 22 := by simpa using hf2'
  rw [h5'] at h4'
  obtain ⟨s, l, hs, h6, h7, h8, h9, h10⟩ := steps_inv h4'
  refine ⟨n0, s, l, ?_, hb1, hb2, ?_, ?_⟩
  · have g0 : ass[0]? = some [.int .i64 n0] := by rw [List.getElem?_eq_getElem (by omega), hn0]
    have g1 : ass[1]? = some [.slice s.a s.len s.cap s.sz] := by rw [List.getElem?_eq_getElem (by omega), hs]
    clear hn0 hs h4 h4' h3
    match ass, hal, g0, g1 with
    | [x0, x1], _, g0, g1 =>
      simp only [List.getElem?_cons_zero, List.getElem?_cons_succ, Option.some.injEq] at g0 g1
      rw [g0, g1]; rfl
  · by_cases q : 20 < s.len
    · exact .inr q
    · have := h6.1
      rw [List.length_map] at this
      exact .inl ⟨h6, h7, h8, h9, by omega⟩
  · have := part_le (List.getElem_mem (l := ds) (n := 1) (by omega))
    simp only [Rows.uptoBulk]; omega
theorem pathlaw_true {H : Type} (h : Heap) (tb : Tb h) (vs : List AV) (ds : List (DataW H)) (hb : Rows.uptoBulkAll ds ≤ 1048576) (hr : RdArgs Tryd.prog h [24, 24] vs ds) : ∃ xs : vdens [.agg [.int .i64, .slice], .agg [.int .i64, .slice]], ∃ h', VTy.tos _ xs = vs ∧ (fun (x : vdens [.agg [.int .i64, .slice], .agg [.int .i64, .slice]]) h => f3 100 x.1 x.2.1 h) xs h = some (true, h') := by
  obtain ⟨c0, d0, _, _, rfl, rfl, r0, hr⟩ := hr.cons_inv
  obtain ⟨c1, d1, _, _, rfl, rfl, r1, hr⟩ := hr.cons_inv
  obtain ⟨rfl, rfl⟩ := hr.nil_inv
  obtain ⟨i0, s0, l0, rfl, b1, b2, q0, b3⟩ := path_inv r0
  obtain ⟨i1, s1, l1, rfl, _, _, q1, _⟩ := path_inv r1
  simp only [Rows.uptoBulkAll] at hb
  obtain ⟨h', e⟩ := paths_true (N := 100) (a := (i0, l0)) (b := (i1, l1)) (by omega) h tb q0 q1 rfl rfl ⟨b1, b2, by show (tl l0).length ≤ _; omega⟩
  obtain ⟨fs, hu, _⟩ := undP24
  exact ⟨((i0, s0, ()), (i1, s1, ()), ()), h', by simp only [argOf_struct hu]; rfl, e⟩
/-! the heap that the call begins with -/
def h0 : Heap := { t := Tr.set .nil 0 (.row Nj.tab .ro), next := 1, pins := [(0, Nj.tabLoc)] }
def μ0 : Mu := fun A => if A = 0 then some Nj.tabLoc else none
theorem start_ok {w : World} (ht : Lib.TabIs Tryd.prog w "internal/strconv.uint64pow10" .u64 Lib.pow10Tab) : HR μ0 h0 w ∧ Rof h0 := by
  unfold Lib.TabIs World.var? at ht
  rw [Nj.gTab_is] at ht
  have ht : (match w.heap[Nj.gTab]? with | some (.cells cs _ _) => some cs | _ => none) = some ((Lib.pow10Tab.map fun z => Value.int .u64 z).toArray) := ht
  cases hq : w.heap[Nj.gTab]? with
  | none => rw [hq] at ht; cases ht
  | some o =>
    rw [hq] at ht
    cases o with
    | cells cs e fz =>
      simp only [Option.some.injEq] at ht
      subst ht
      have hl := Lib.pow10Tab_length
      have hμ : ∀ A l, μ0 A = some l → A = 0 ∧ l = Nj.tabLoc := fun A l hA => by
        unfold μ0 at hA
        split at hA
        · rename_i h; cases hA; exact ⟨h, rfl⟩
        · cases hA
      have hg : ∀ A b, h0.t.get A = some b → A = 0 ∧ b = .row Nj.tab .ro := fun A b hA => by
        rcases Tr.get_set hA with h | ⟨_, h⟩
        · exact h
        · simp [Tr.get_nil] at h
      refine ⟨⟨?_, ?_, ?_, ?_⟩, ⟨?_, ?_⟩⟩
      · intro A l hA
        obtain ⟨rfl, rfl⟩ := hμ A l hA
        exact ⟨Nat.one_pos, (Array.getElem?_eq_some_iff.1 hq).1⟩
      · intro A B la lb ba bb hA hB _ _ _ _ hne
        exact absurd ((hμ A la hA).1.trans (hμ B lb hB).1.symm) hne
      · intro A l b hA hb
        obtain ⟨rfl, rfl⟩ := hμ A l hA
        obtain ⟨_, rfl⟩ := hg 0 b hb
        refine ⟨⟨e, ?_⟩, ?_, ?_⟩
        · show w.shape? Nj.gTab = _
          simp only [World.shape?, hq]
          simp [hl, Nj.tabLoc]
        · show 0 + Nj.tab.length ≤ 20
          rw [Nj.tab_len]; omega
        · intro i x hx
          refine ⟨.int .u64 (Lib.pow10Tab.getD i 0), ?_, ?_⟩
          · show w.cell? ⟨Nj.gTab, 0 + i, none⟩ = _
            have hi : i < 20 := by have := (List.getElem?_eq_some_iff.1 hx).1; rw [Nj.tab_len] at this; exact this
            simp only [World.cell?, hq, Option.isSome_none, Bool.false_eq_true, if_false, Nat.zero_add]
            simp [hl, hi]
          · unfold Nj.tab at hx
            rw [List.getElem?_map] at hx
            cases hz : Lib.pow10Tab[i]? with
            | none => rw [hz] at hx; cases hx
            | some z =>
              rw [hz] at hx
              simp only [Option.map_some, Option.some.injEq] at hx
              subst hx
              simp only [VR]
              rw [List.getD_eq_getElem?_getD, hz]; rfl
      · intro x hx
        rw [List.mem_singleton.1 hx]; rfl
      · intro A b hA
        obtain ⟨_, rfl⟩ := hg A b hA
        exact ⟨_, rfl⟩
      · intro A hA
        cases hb : h0.t.get A with
        | none => rfl
        | some b =>
          have := (hg A b hb).1
          have h1 : (1 : Nat) ≤ A := hA
          omega
    | _ => cases ht
theorem start_tb {h : Heap} (hl : HLe h0 h) : Tb h := ⟨by rw [hl.pins]; exact List.mem_singleton.2 rfl, hl.get 0 _ (by exact Tr.get_set_same), hl.next⟩
theorem law_from {H : Type} {enc : TypeId × Value → H} {P : Program} {w : World} {bs : Nat} {S : List TypeId} (hS : plainB P S = true) {f : FuncId} {ts : List TypeId} (hts : ∀ t ∈ ts, t ∈ S) {l : List VTy} {F : vdens l → Heap → Option (Bool × Heap)} (hF : FnOK P f l (.val (.one .bool)) F)
    {μs : Mu} {hs : Heap} (hrs : HR μs hs w) (hros : Rof hs) {args : Array Value} {ds : List (DataW H)} {ps : List MemPlace}
    (hlaw : ∀ (h : Heap) (vs : List AV), Rof h → HLe hs h → RdArgs P h ts vs ds → ∃ xs h', VTy.tos l xs = vs ∧ F xs h = some (true, h'))
    (hA : DataW.TrodAll enc P w 0 (fun _ => true) true ts args.toList ds ps)
    (hok : ∀ (j : Nat) t v, ts[j]? = some t → args[j]? = some v → Value.okWide P w .any bs t v) :
    Calls P f args w fun e w' => e = .returned (.bool true) ∧ Below w.heap.size w w' := by
  obtain ⟨μ, h, vs, _, hle, hr, hro, hv, hrd⟩ := open_args hS hts hA (fun j t v h1 h2 => hok j t v h1 (by simpa using h2)) μs hs hrs hros
  obtain ⟨xs, h', rfl, hx⟩ := hlaw h vs hro hle hrd
  refine (hF xs h true h' hx μ w args hr hv).2.mono ?_
  rintro e w' ⟨u, rfl, μ', h1, _, h3⟩
  simp only [Ty.to, VTy.to, CTy.to, VR] at h1
  exact ⟨by rw [h1], hro.ext_below h3⟩
/-- the table, out of what the row lists -/
def laid3 : List (String × DataW Unit) := [("math/bits.deBruijn32tab", Rows.laid_math_bits_deBruijn32tab), ("math/bits.deBruijn64tab", Rows.laid_math_bits_deBruijn64tab), ("internal/strconv.uint64pow10", Rows.laid_internal_strconv_uint64pow10)]
theorem gType : (Tryd.prog.globals[Nj.gTab]?).map (·.type) = some 115 := by kernel_rfl
theorem undP115 : ∃ e, Tryd.prog.underlying 115 = some (.array 20 e) ∧ Tryd.prog.underlying e = some (.int .u64) ∧ Tryd.prog.cellsOf e = 1 := by
  have : (match Tryd.prog.underlying 115 with | some (.array n e) => Nat.beq n 20 && (match Tryd.prog.underlying e with | some (.int .u64) => Nat.beq (Tryd.prog.cellsOf e) 1 | _ => false) | _ => false) = true := by kernel_rfl
  split at this
  · rename_i n e hu
    simp only [Bool.and_eq_true] at this
    obtain ⟨h1, h2⟩ := this
    have hn : n = 20 := Nat.eq_of_beq_eq_true h1
    subst hn
    split at h2
    · rename_i he
      exact ⟨e, hu, he, Nat.eq_of_beq_eq_true h2⟩
    · cases h2
  · cases this
theorem cells115 : Tryd.prog.cellsOf 115 = 20 := by kernel_rfl
theorem table {W : World} (h : laidMetH Tryd.prog laid3 W) : Lib.TabIs Tryd.prog W "internal/strconv.uint64pow10" .u64 Lib.pow10Tab := by
  rw [MakeChecks.laidMetH_plain _ _ _ (by kernel_rfl)] at h
  obtain ⟨ps, ⟨_, _, _, _, _, _, _, _, _, _, ⟨_, _, _, _, _, _, _, _, _, _, ⟨g', t', cs, fuel, p, q, hg', ht', hvar, hd, _, _⟩, _⟩, _⟩, _⟩ := h
  obtain rfl := Option.some.inj (Nj.gTab_is.symm.trans hg')
  obtain rfl := Option.some.inj (gType.symm.trans ht')
  obtain ⟨e, hu, he, hce⟩ := undP115
  unfold Lib.TabIs
  rw [hvar]
  have := Lib.cells_of_tab (k := .u64) (zs := Lib.pow10Tab) hu he hce cells115 hd
  rw [← this]
end Go.Proofs.YtjeaammlambkeaaDoor.Mq
