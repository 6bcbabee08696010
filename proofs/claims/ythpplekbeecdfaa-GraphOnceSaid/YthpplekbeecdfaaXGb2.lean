import Derived.Test.YthpplekbeecdfaaXGb1
/- Functions of the program as plain functions, and what they come to; part 2. -/
set_option linter.unusedVariables false
set_option linter.unusedSimpArgs false
open Go Go.Proofs.Ythpplekbeecdfaa.Ai Go.Proofs
namespace Go.Proofs.Ythpplekbeecdfaa.Gb
variable {N : Nat} {s : SL} {l : List Int} {ss : List SL} {d : List (List Int)} {B : Nat} {h0 : Heap}
theorem Rg.on {at' : Nat} {r : List Int} (hr : Rg d at' r) {i : Nat} (hi : i < r.length) : r[(i + 1) % r.length]'(Nat.mod_lt _ (by omega)) ∈ d.getD (r[i]).toNat [] := by
  have hz : ∀ h : 0 < r.length, r[0] = (at' : Int) := by
    intro h
    obtain ⟨r1, h1⟩ := hr.fst
    have : r[0]? = some (at' : Int) := by rw [h1]; rfl
    rw [List.getElem?_eq_getElem h] at this
    simpa using this
  by_cases h : i + 1 < r.length
  · have e : (i + 1) % r.length = i + 1 := Nat.mod_eq_of_lt h
    simp only [e]
    exact hr.chain i h
  · have hi2 : i = r.length - 1 := by omega
    have e : (i + 1) % r.length = 0 := by rw [hi2, show r.length - 1 + 1 = r.length by omega, Nat.mod_self]
    simp only [e, hz (by omega)]
    subst hi2
    exact hr.shut hi
theorem Rg.reachF {at' : Nat} {r : List Int} (hr : Rg d at' r) : ∀ (m i : Nat), ∀ hi : i + m + 1 < r.length, Reach d (r[i]'(by omega)) (r[i + m + 1])
  | 0, i, hi => .one (hr.chain i hi)
  | m + 1, i, hi => by
    have ih := Rg.reachF hr m i (by omega)
    exact .step ih (hr.chain (i + m + 1) hi)
theorem Rg.cycle {at' : Nat} {r : List Int} (hr : Rg d at' r) {i : Nat} (hi : i < r.length) : Reach d r[i] r[i] := by
  have hz : ∀ h : 0 < r.length, r[0] = (at' : Int) := by
    intro h
    obtain ⟨r1, h1⟩ := hr.fst
    have : r[0]? = some (at' : Int) := by rw [h1]; rfl
    rw [List.getElem?_eq_getElem h] at this
    simpa using this
  have h0 : 0 < r.length := by omega
  -- to the first one
  have toAt : Reach d r[i] (at' : Int) := by
    by_cases h : i = r.length - 1
    · subst h; exact .one (hr.shut hi)
    · have h1 := hr.reachF (r.length - 1 - i - 1) i (by omega)
      have h2 : r[i + (r.length - 1 - i - 1) + 1]'(by omega) = r[r.length - 1] := by
        congr 1; omega
      rw [h2] at h1
      exact .step h1 (hr.shut (by omega))
  by_cases h : i = 0
  · subst h
    have := hz h0
    rw [this] at toAt ⊢
    exact toAt
  · have h1 := hr.reachF (i - 1) 0 (by omega)
    have h2 : r[0 + (i - 1) + 1]'(by omega) = r[i] := by congr 1; omega
    rw [h2, hz h0] at h1
    exact toAt.trans h1
theorem rem_nat {a b : Nat} (hb : 0 < b) : binInt .rem .i64 (a : Int) (b : Int) = some (.int .i64 ((a % b : Nat) : Int)) := by
  have : eqInt (b : Int) 0 = false := by
    obtain ⟨k, rfl⟩ : ∃ k, b = k + 1 := ⟨b - 1, by omega⟩
    rfl
  simp only [binInt, this, cond_false, Int.tmod_eq_emod_of_nonneg (show (0 : Int) ≤ (a : Int) by omega)]
  rfl
/-- the law's look at a ring -/
theorem once_ring (hf : Fine d) (hN : 1000001 ≤ N) {rs : SL} {r : List Int} {at' : Nat} (hrg : Rg d at' r) (hleast : ∀ k : Nat, k < at' → ¬ Reach d (k : Int) (k : Int)) (v2 : Bool) : ∀ (M i : Nat) (h : Heap), i ≤ r.length → r.length - i < M → RowsB h.next h s ss d → Ints h rs r →
    ∃ h', f5_l2 N M v2 s rs (at' : Int) (i : Int) h = some (.exit 2, (v2, ()), h') := by
  intro M
  induction M with
  | zero => intro i h h1 h2; omega
  | succ M ih =>
    intro i h h1 h2 hr hrs
    rw [f5_l2_succ]
    unfold f5_l2_b
    have hlen := hf.len
    have hrl := hrg.len
    by_cases hi : i < r.length
    · have ew : wrapA .i64 ((i : Int) + 1) = ((i + 1 : Nat) : Int) := wrapA_small (by omega) (by omega)
      have hrem := rem_nat (a := i + 1) (b := r.length) (by omega)
      have hml : (i + 1) % r.length < r.length := Nat.mod_lt _ (by omega)
      have hx := hrg.inr _ (List.getElem_mem hi)
      have hxl : r[i].toNat < d.length := by omega
      have hrow := hr.r.row _ hxl
      have hon := hrg.on hi
      have hcy := hrg.cycle hi
      have hge : ¬ r[i] < (at' : Int) := by
        intro hlt
        apply hleast r[i].toNat (by omega)
        rw [show ((r[i].toNat : Nat) : Int) = r[i] by omega]; exact hcy
      obtain ⟨s', h', u, e1, k1, o1, l1, p1, m1⟩ := Below_spec (N := N) hr hf (by omega) hx.1 hx.2
      have hrs' : Ints h' rs r := One.keep k1 hrs.2.2.under hrs
      have hr' : RowsB h'.next h' s ss d := (hr.keep k1).mono k1.next
      have hmu : r[i] ∈ u := (m1 _).2 ⟨hx.1, hx.2, hcy⟩
      obtain ⟨h2', e2⟩ := ih (i + 1) h' (by omega) (by omega) hr' hrs'
      refine ⟨h2', ?_⟩
      -- what is read
      have i1 : ∀ {β : Type} (K : Nat × Nat → Option β), ixK rs.a r.length (i : Int) 1 K = K (rs.at i 1) := fun K => by
        have := hrs.ixz (x := (i : Int)) (by omega) (by rw [List.length_map]; omega) K
        rw [Ints.len hrs] at this; exact this
      have i2 : ∀ {β : Type} (K : Nat × Nat → Option β), ixK rs.a r.length (((i + 1) % r.length : Nat) : Int) 1 K = K (rs.at ((i + 1) % r.length) 1) := fun K => by
        have := hrs.ixz (x := (((i + 1) % r.length : Nat) : Int)) (by omega) (by rw [List.length_map]; omega) K
        rw [Ints.len hrs] at this; exact this
      have i3 : ∀ {β : Type} (K : Nat × Nat → Option β), ixK s.a d.length r[i] 1 K = K (s.at r[i].toNat 1) := fun K => by
        have := hr.r.top.ixz (x := r[i]) hx.1 (by rw [List.length_map, hr.r.len]; omega) K
        rw [hr.r.slen] at this; exact this
      have c1 : h.cell (rs.at i 1) = some (.int .i64 r[i]) := by rw [hrs.cell (by rw [List.length_map]; exact hi), List.getElem_map]
      have c1' : h'.cell (rs.at i 1) = some (.int .i64 r[i]) := by rw [hrs'.cell (by rw [List.length_map]; exact hi), List.getElem_map]
      have c2 : h.cell (rs.at ((i + 1) % r.length) 1) = some (.int .i64 r[(i + 1) % r.length]) := by rw [hrs.cell (by rw [List.length_map]; exact hml), List.getElem_map]
      have c3 : h.cell (s.at r[i].toNat 1) = some (.slice (ss.getD r[i].toNat nilS).a (ss.getD r[i].toNat nilS).len (ss.getD r[i].toNat nilS).cap (ss.getD r[i].toNat nilS).sz) := by
        rw [hr.r.top.cell (by rw [List.length_map, hr.r.len]; exact hxl), List.getElem_map, getD_lt _ _ (by rw [hr.r.len]; exact hxl)]; rfl
      have hsame : ∀ v : AV, sameO (some v) v = true := sameO_some
      simp only [Int.ofNat_lt, Ints.len hrs, hr.r.slen, Int.ofNat_eq_natCast, hi, decide_true, cond_true, ew, hrem, bindV_some, cast_int, i2, c2, i1, c1, ltInt_dec, leInt_dec, show ¬ r[i] < 0 by omega, show ¬ (d.length : Int) ≤ r[i] by omega, decide_false, cond_false, i3, c3, cast_slice, has_spec hrow hN (by have := hf.row _ hxl; omega), bind2_some, hon, Bool.not_true, hge, e1, c1', has_spec o1.one hN (by omega), hmu, hsame, guardB]
      exact e2
    · have : i = r.length := by omega
      subst this
      exact ⟨h, by simp [nat_i, Ints.len hrs]⟩
end Go.Proofs.Ythpplekbeecdfaa.Gb

open Go Go.Proofs.Ythpplekbeecdfaa.Ai Go.Proofs
namespace Go.Proofs.Ythpplekbeecdfaa.Gb
variable {N : Nat} {s : SL} {l : List Int} {ss : List SL} {d : List (List Int)} {B : Nat} {h0 : Heap}
theorem foldl_ge {lv : List Int} : ∀ (r : List Int) (a : Int), a ≤ r.foldl (fun a k => if a < lv.getD k.toNat 0 + 1 then lv.getD k.toNat 0 + 1 else a) a ∧ ∀ k ∈ r, lv.getD k.toNat 0 + 1 ≤ r.foldl (fun a k => if a < lv.getD k.toNat 0 + 1 then lv.getD k.toNat 0 + 1 else a) a
  | [], a => ⟨Int.le_refl _, fun k hk => by simp at hk⟩
  | x :: r, a => by
    simp only [List.foldl_cons]
    obtain ⟨b, hb, h3, h4⟩ : ∃ b, (if a < lv.getD x.toNat 0 + 1 then lv.getD x.toNat 0 + 1 else a) = b ∧ a ≤ b ∧ lv.getD x.toNat 0 + 1 ≤ b := ⟨_, rfl, by split <;> omega, by split <;> omega⟩
    rw [hb]
    obtain ⟨h1, h2⟩ := foldl_ge (lv := lv) r b
    refine ⟨by omega, fun k hk => ?_⟩
    rcases List.mem_cons.1 hk with rfl | hk
    · omega
    · exact h2 k hk
theorem once_row {h : Heap} (hr : Rows h s ss d) (hf : Fine d) {os ls ds : SL} {out lv : List Int} {dn : List Bool} (ho : Ints h os out) (hl : Ints h ls lv) (hd : One h ds (dn.map AV.bool)) (hlv : Levels d lv) (hdl : dn.length = d.length) {i : Nat} (hi : i < out.length) (hx0 : 0 ≤ out[i]) (hx1 : out[i] < d.length) (hdep : ∀ k ∈ d.getD (out[i]).toNat [], dn.getD k.toNat false = true) (v2 : Bool) : ∀ (M k : Nat), k ≤ (d.getD (out[i]).toNat []).length → (d.getD (out[i]).toNat []).length - k < M →
    f5_l4 N M v2 s os ls ds (i : Int) (k : Int) h = some (.exit 6, (v2, s, os, ls, ds, (i : Int), ()), h) := by
  intro M
  induction M with
  | zero => intro k h1 h2; omega
  | succ M ih =>
    intro k h1 h2
    rw [f5_l4_succ]
    unfold f5_l4_b
    have hxl : (out[i]).toNat < d.length := by omega
    have hrow := hr.row _ hxl
    have hrl := hf.row _ hxl
    have ri : ∀ (K : Int → Option (Out × (Bool × SL × SL × SL × SL × Int × Unit) × Heap)), (ixK os.a os.len (i : Int) 1 fun q => bindV (.val (.one (.int .i64))) (h.cell q) K) = K out[i] := fun K => by
      rw [ho.int (x := (i : Int)) (by omega) (by omega)]; simp only [Int.toNat_natCast, getD_lt out 0 hi]
    have rs : ∀ (K : SL → Option (Out × (Bool × SL × SL × SL × SL × Int × Unit) × Heap)), (ixK s.a s.len out[i] 1 fun q => bindV (.val (.one .slice)) (h.cell q) K) = K (ss.getD (out[i]).toNat nilS) := fun K => hr.top.sl hx0 (by rw [hr.len]; omega) K
    rw [ri, rs]
    simp only [Ints.len hrow, nat_i, Int.ofNat_eq_natCast]
    by_cases hk : k < (d.getD (out[i]).toNat []).length
    · have ew : wrapA .i64 ((k : Int) + 1) = ((k + 1 : Nat) : Int) := wrapA_small (by omega) (by omega)
      have hkin := hf.inr _ hxl _ (List.getElem_mem hk)
      have hdk := hdep _ (List.getElem_mem hk)
      have hlt := (foldl_ge (lv := lv) (d.getD (out[i]).toNat []) 0).2 _ (List.getElem_mem hk)
      have heq := hlv.eq _ hxl
      have rk : ∀ (K : Int → Option (Out × (Bool × SL × SL × SL × SL × Int × Unit) × Heap)), (ixK (ss.getD (out[i]).toNat nilS).a (d.getD (out[i]).toNat []).length (k : Int) 1 fun q => bindV (.val (.one (.int .i64))) (h.cell q) K) = K (d.getD (out[i]).toNat [])[k] := fun K => by
        have := hrow.int (x := (k : Int)) (by omega) (by omega) K
        rw [Ints.len hrow] at this
        rw [this]; simp only [Int.toNat_natCast, getD_lt _ 0 hk]
      simp only [hk, decide_true, cond_true, ri, rs, Ints.len hrow, rk]
      rw [hd.bool (x := (d.getD (out[i]).toNat [])[k]) hkin.1 (by omega)]
      simp only [hdk, Bool.not_true, cond_false]
      rw [hl.int (x := (d.getD (out[i]).toNat [])[k]) hkin.1 (by rw [hlv.len]; omega), hl.int (x := out[i]) hx0 (by rw [hlv.len]; omega)]
      have hnle : ¬ lv.getD (out[i]).toNat 0 ≤ lv.getD ((d.getD (out[i]).toNat [])[k]).toNat 0 := by
        rw [heq]; unfold lvOf; omega
      simp only [leInt_dec, hnle, decide_false, cond_false, ew]
      exact ih (k + 1) (by omega) (by omega)
    · have : k = (d.getD (out[i]).toNat []).length := by omega
      subst this
      simp
theorem once_order (hr : RowsB B h0 s ss d) (hf : Fine d) (hN : 1000 ≤ N) (hb0 : B ≤ h0.next) {os ls ds : SL} {out lv : List Int} (ho : Ints h0 os out) (hou : os.under B) (hl : Ints h0 ls lv) (hlu : ls.under B) (hlv : Levels d lv) (hw : Whole d out) (v2 : Bool) : ∀ (M i : Nat) (h : Heap) (dn : List Bool), i ≤ out.length → out.length - i < M → Keep B h0 h → Own1 B h ds (dn.map AV.bool) → dn.length = d.length → (∀ x : Int, 0 ≤ x → x < d.length → (dn.getD x.toNat false = true ↔ x ∈ out.take i)) →
    ∃ h', f5_l3 N M v2 s os ls ds (i : Int) h = some (.exit 4, (v2, ()), h') := by
  intro M
  induction M with
  | zero => intro i h dn h1 h2; omega
  | succ M ih =>
    intro i h dn h1 h2 hk hd hdl hdn
    rw [f5_l3_succ]
    unfold f5_l3_b
    have hlen := hf.len
    have hwl := hw.len
    have ho' := One.keep hk hou ho
    have hl' := One.keep hk hlu hl
    have hrk := hr.keep hk
    by_cases hi : i < out.length
    · have ew : wrapA .i64 ((i : Int) + 1) = ((i + 1 : Nat) : Int) := wrapA_small (by omega) (by omega)
      have hx := (hw.mem _).1 (List.getElem_mem hi)
      have hnd : dn.getD (out[i]).toNat false = false := by
        cases h : dn.getD (out[i]).toNat false with
        | false => rfl
        | true => exact absurd ((hdn _ hx.1 hx.2).1 h) (hw.nod i hi)
      have e4 := once_row (N := N) (h := h) hrk.r hf ho' hl' hd.one hlv hdl hi hx.1 hx.2 (fun k hk2 => by
        have h3 := hw.dep i hi k hk2
        have h4 := (hw.mem k).1 (List.mem_of_mem_take h3)
        exact (hdn k h4.1 h4.2).2 h3) v2 N 0 (by omega) (by have := hf.row (out[i]).toNat (by omega); omega)
      simp only [Int.ofNat_zero] at e4
      have ri : ∀ (K : Int → Option (Out × (Bool × Unit) × Heap)), (ixK os.a out.length (i : Int) 1 fun q => bindV (.val (.one (.int .i64))) (h.cell q) K) = K out[i] := fun K => by
        have := ho'.int (x := (i : Int)) (by omega) (by omega) K
        rw [Ints.len ho'] at this
        rw [this]; simp only [Int.toNat_natCast, getD_lt out 0 hi]
      obtain ⟨h1', e1, o1, b1, n1⟩ := store_own1 hd (i := (out[i]).toNat) (by simp; omega) (AV.bool true)
      have hnx := hk.next
      rw [← List.map_set] at o1
      obtain ⟨h', e⟩ := ih (i + 1) h1' _ (by omega) (by omega) (hk.trans (b1.keep (by omega) (fun A hA => (hd.ge A hA).1))) o1 (by simpa using hdl) (fun x hx0 hx1 => by
        rw [getD_set_b _ _ _ (by omega), hdn x hx0 hx1, List.take_succ_eq_append_getElem hi, List.mem_append, List.mem_singleton]
        constructor
        · rintro (h | h)
          · exact .inl h
          · right; omega
        · rintro (h | h)
          · exact .inl h
          · right; rw [h])
      refine ⟨h', ?_⟩
      have rd : ∀ (K : Bool → Option (Out × (Bool × Unit) × Heap)), (ixK ds.a ds.len out[i] 1 fun q => bindV (.val (.one .bool)) (h.cell q) K) = K false := fun K => by
        rw [hd.one.bool (x := out[i]) hx.1 (by omega), hnd]
      have rz : ∀ (K : Nat × Nat → Option (Out × (Bool × Unit) × Heap)), ixK ds.a ds.len out[i] 1 K = K (ds.at (out[i]).toNat 1) := fun K => hd.one.ixz hx.1 (by simp; omega) K
      simp only [nat_i, Ints.len ho', hrk.r.slen, Int.ofNat_eq_natCast, hi, decide_true, cond_true, ri, ltInt_dec, leInt_dec, show ¬ out[i] < 0 by omega, show ¬ (d.length : Int) ≤ out[i] by omega, decide_false, cond_false, Int.ofNat_lt]
      rw [rd]
      simp only [cond_false, e4, bind3_some, eqOut_exit, decide_true, cond_true, Ints.len ho', ri]
      rw [rz]
      simp only [e1, need_some, ew]
      exact e
    · have : i = out.length := by omega
      subst this
      exact ⟨h, by simp [nat_i, Ints.len ho']⟩
theorem o1_spec' (hr : Rows h0 s ss d) (hd : d.length ≤ 64) (v2 : Bool) : ∀ (M k : Nat), k ≤ d.length → d.length - k < M →
    (f5_l1 N M v2 s (k : Int) h0 = some (.exit 0, (v2, s, ()), h0) ∧ ∀ i, k ≤ i → i < d.length → (d.getD i []).length ≤ 64) ∨ f5_l1 N M v2 s (k : Int) h0 = some (.ret, (true, s, ()), h0) := by
  intro M
  induction M with
  | zero => intro k h1 h2; omega
  | succ M ih =>
    intro k h1 h2
    rw [f5_l1_succ]
    unfold f5_l1_b
    by_cases hk : k < d.length
    · have ew : wrapA .i64 ((k : Int) + 1) = ((k + 1 : Nat) : Int) := wrapA_small (by omega) (by omega)
      have hrow := hr.row k hk
      rw [hr.top.sl (x := (k : Int)) (by omega) (by rw [hr.len]; omega)]
      simp only [hr.slen, ltInt_dec, Int.ofNat_eq_natCast, Int.ofNat_lt, hk, decide_true, cond_true, Int.toNat_natCast, Ints.len hrow]
      by_cases hl : (d.getD k []).length ≤ 64
      · simp only [show ¬ (64 : Int) < ((d.getD k []).length : Int) by omega, decide_false, cond_false, ew]
        rcases ih (k + 1) (by omega) (by omega) with ⟨e, h3⟩ | e
        · refine .inl ⟨e, fun i hi1 hi2 => ?_⟩
          by_cases hik : i = k
          · subst hik; exact hl
          · exact h3 i (by omega) hi2
        · exact .inr e
      · simp only [show (64 : Int) < ((d.getD k []).length : Int) by omega, decide_true, cond_true, f11, bind2_some]
        exact .inr trivial
    · have : k = d.length := by omega
      subst this
      left
      refine ⟨by simp [nat_i, hr.slen], fun i h3 h4 => by omega⟩
theorem nn51 : binA E .neq 32 (.tmp 51) (.const .nilIface) AV.nilIface AV.nilIface = some (.bool false) := by kernel_rfl
theorem nn51e (v : AV) : binA E .neq 32 (.tmp 51) (.const .nilIface) (.iface 69 v) AV.nilIface = some (.bool true) := by kernel_rfl
theorem nn162 : binA E .neq 32 (.tmp 162) (.const .nilIface) AV.nilIface AV.nilIface = some (.bool false) := by kernel_rfl
theorem app43z : E.zero 4 = some (.bool false) := by kernel_rfl
theorem once_law {h : Heap} (hr : RowsB h.next h s ss d) : ∃ h', f5 2000000 s h = some (true, h') := by
  rcases fit_spec (N := 2000000) hr (by omega) with ⟨s', h1, ss', e1, k1, r1, hl⟩ | ⟨s', h1, e1⟩
  · have hlen : (fitL d (mOf d)).length = mOf d := fitL_len (by unfold mOf; omega)
    have hin : ∀ i, i < (fitL d (mOf d)).length → ∀ x ∈ (fitL d (mOf d)).getD i [], 0 ≤ x ∧ x < (fitL d (mOf d)).length := by
      intro i hi x hx
      have hm : mOf d ≤ d.length := by unfold mOf; omega
      unfold fitL at hx
      rw [getD_lt _ _ (by rw [List.length_map, List.length_take]; omega)] at hx
      simp only [List.getElem_map, List.mem_map] at hx
      obtain ⟨y, _, rfl⟩ := hx
      rw [hlen] at hi ⊢
      exact conv_in (by omega) y
    generalize hdd : fitL d (mOf d) = dd at *
    have hsl : s'.len = dd.length := r1.r.slen
    by_cases h64 : dd.length ≤ 64
    · have hn64 : ¬ ((64 : Int) < (dd.length : Int)) := by omega
      rcases o1_spec' (N := 2000000) r1.r h64 false 2000000 0 (by omega) (by omega) with ⟨e2, hrows⟩ | e2
      · have hf : Fine dd := ⟨h64, fun i hi => hrows i (by omega) hi, hin⟩
        simp only [Int.ofNat_zero] at e2
        rcases Order_spec (N := 2000000) hf (by omega) r1 (Nat.le_refl _) with ⟨os, h2, out, e3, k3, o3, ha, hw⟩ | ⟨h2, v, j, e3, k3, he, hj1, hj2, hj3⟩
        · have r2 : RowsB h2.next h2 s' ss' dd := (r1.keep k3).mono k3.next
          rcases Ring_spec (N := 2000000) hf (by omega) r2 with ⟨h3, e4, k4, _⟩ | ⟨h3, rs, r, j, e4, k4, o4, hj1, hj2, _⟩
          · have r3 : RowsB h3.next h3 s' ss' dd := (r2.keep k4).mono k4.next
            have ho3 : Ints h3 os out := One.keep k4 o3.one.2.2.under o3.one
            rcases Levels_spec (N := 2000000) hf (by omega) r3 (Nat.le_refl _) with ⟨ls, h4, lv, e5, k5, o5, _, hlv⟩ | ⟨h4, v, j, e5, k5, he, hj1, hj2, _⟩
            · have r4 : RowsB h4.next h4 s' ss' dd := (r3.keep k5).mono k5.next
              have ho4 : Ints h4 os out := One.keep k5 ho3.2.2.under ho3
              obtain ⟨m1, m2⟩ := make1 app43 (.bool false) app43z rfl dd.length (by omega) h4
              generalize hH : h4.push (.row (List.replicate dd.length (.bool false)) .own) = H at *
              have kb : Keep h4.next h4 H := by rw [← hH]; exact (Keep.refl _ _).push (Nat.le_refl _) _
              have hHn : H.next = h4.next + 1 := by rw [← hH]; rfl
              have ho5 : Ints H os out := One.keep kb ho4.2.2.under ho4
              have hl5 : Ints H ls lv := One.keep kb o5.one.2.2.under o5.one
              obtain ⟨h5, e6⟩ := once_order (N := 2000000) (B := h4.next) (h0 := H) (r4.keep kb) hf (by omega) (by omega) ho5 ho4.2.2.under hl5 o5.one.2.2.under hlv hw false 2000000 0 H (List.replicate dd.length false) (by omega) (by have := hw.len; omega) (Keep.refl _ _) (by rw [List.map_replicate]; exact m2) (by simp) (fun x _ _ => by
                simp [List.getD_eq_getElem?_getD, List.getElem?_replicate]
                split <;> rfl)
              simp only [Int.ofNat_zero] at e6
              have hol : os.len = dd.length := by rw [Ints.len o3.one, hw.len]
              have hll : ls.len = dd.length := by rw [Ints.len o5.one, hlv.len]
              refine ⟨h5, ?_⟩
              simp [f5, e1, hsl, hn64, eqInt_dec, ltInt_dec, f11, e2, e3, e4, nn51, hol, e5, nn162, hll, m1, e6]
            · exact absurd hj2 (ha _)
          · exact absurd hj2 (ha _)
        · have r2 : RowsB h2.next h2 s' ss' dd := (r1.keep k3).mono k3.next
          rcases Ring_spec (N := 2000000) hf (by omega) r2 with ⟨h3, e4, k4, ha⟩ | ⟨h3, rs, r, j', e4, k4, o4, hj1', hj2', hj3', hrg⟩
          · exact absurd hj2 (ha _)
          · have hjj : j' = j := by
              rcases Nat.lt_trichotomy j' j with h | h | h
              · exact absurd hj2' (hj3 _ h)
              · exact h
              · exact absurd hj2 (hj3' _ h)
            subst hjj
            have r3 : RowsB h3.next h3 s' ss' dd := (r2.keep k4).mono k4.next
            have t1 := told_err (N := 2000000) (by omega) (he.keep k4)
            obtain ⟨A, rfl, _⟩ := he
            obtain ⟨h4, e5⟩ := once_ring (N := 2000000) hf (by omega) hrg hj3' false 2000000 0 h3 (by omega) (by have := hrg.len; omega) r3 o4.one
            simp only [Int.ofNat_zero] at e5
            have hrl := hrg.len
            have hrp : 0 < r.length := by obtain ⟨r1, h1⟩ := hrg.fst; rw [h1]; simp
            have hr0 : r[0] = (j' : Int) := by
              obtain ⟨r1, h1⟩ := hrg.fst
              have : r[0]? = some (j' : Int) := by rw [h1]; rfl
              rw [List.getElem?_eq_getElem hrp] at this
              simpa using this
            have hrsl : rs.len = r.length := by rw [Ints.len o4.one]
            have rz : ∀ (K : Int → Option (Bool × Heap)), (ixK rs.a r.length 0 1 fun q => bindV (.val (.one (.int .i64))) (h3.cell q) K) = K (j' : Int) := fun K => by
              have := o4.one.int (x := 0) (by omega) (by omega) K
              rw [Ints.len o4.one] at this
              rw [this]
              show K (r.getD 0 0) = _
              rw [getD_lt _ _ hrp, hr0]
            have hne0 : ¬ ((r.length : Int) = 0) := by omega
            have hnlt : ¬ ((dd.length : Int) < (r.length : Int)) := by omega
            refine ⟨h4, ?_⟩
            simp only [f5, e1, hsl, hn64, eqInt_dec, ltInt_dec, f11, e2, e3, e4, nn51e, t1, hrsl, bind2_some, bind3_some, Bool.not_true, cond_false, Int.ofNat_eq_natCast, decide_false, eqOut_exit, decide_true, cond_true, bindV_some, cast_bool, hne0, hnlt, rz, e5]
            simp
      · simp only [Int.ofNat_zero] at e2
        refine ⟨h1, ?_⟩
        simp [f5, e1, hsl, hn64, eqInt_dec, ltInt_dec, f11, e2]
    · refine ⟨h1, ?_⟩
      have hn64 : (64 : Int) < (dd.length : Int) := by omega
      simp [f5, e1, hsl, hn64, eqInt_dec, ltInt_dec, f11]
  · refine ⟨h1, ?_⟩
    simp [f5, e1, f11]
theorem once_true {H : Type} (h : Heap) (vs : List AV) (ds : List (DataW H)) (hr : RdArgs Try.prog h [22] vs ds) : ∃ xs : vdens [.one .slice], ∃ h', VTy.tos _ xs = vs ∧ (fun (x : vdens [.one .slice]) h => f5 2000000 x.1 h) xs h = some (true, h') := by
  obtain ⟨c0, d0, _, _, rfl, rfl, r0, hr⟩ := hr.cons_inv
  obtain ⟨rfl, rfl⟩ := hr.nil_inv
  obtain ⟨s, ss, d, rfl, hrow⟩ := rows_of r0
  obtain ⟨h', e⟩ := once_law hrow
  refine ⟨(s, ()), h', ?_, e⟩
  simp [VTy.tos, VTy.to, CTy.to, argOf, undP22]
end Go.Proofs.Ythpplekbeecdfaa.Gb
