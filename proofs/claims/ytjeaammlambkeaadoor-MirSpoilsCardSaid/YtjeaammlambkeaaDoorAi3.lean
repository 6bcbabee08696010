import Derived.Test.YtjeaammlambkeaaDoorAi2
import Derived.KernelRfl
import Derived.ProofKit
import Derived.IntWalk
import Derived.Deep.Slices
import Derived.ChangeReads
import Derived.OpenShut
/- A verified evaluator for the model of the program: what it evaluates is what the program computes, whatever else the memory holds; part 3. Conditions: no package variables. -/
set_option linter.unusedVariables false
set_option linter.unusedSimpArgs false
namespace Go.Proofs.YtjeaammlambkeaaDoor.Ai
/-! a region that draws its order, in which a new block may also come ahead of what stands in order, or behind it -/
section
variable {α : Type}
variable {E : Env} {P : Program} {call : CallF} {fr fr2 : Fr}
theorem againstX_spec {ops : List Oper} {o : Oper} {ps : List Nat} : ∀ {l : List Oper} {j : Nat}, againstX ops o ps j l = true → ∀ k x, l[k]? = some x → j + k ∈ ps ∨ freeX ops x o = true
  | [], j, h, k, x, hk => by simp at hk
  | y :: r, j, h, k, x, hk => by
    simp only [againstX, Bool.and_eq_true, Bool.or_eq_true] at h
    cases k with
    | zero => simp at hk; subst hk; exact h.1.imp (fun e => by simpa using memL_iff.1 e) id
    | succ k =>
      simp at hk
      have := againstX_spec h.2 k x hk
      rw [show j + (k + 1) = j + 1 + k from by omega]; exact this
theorem orderX_spec {ops : List Oper} {preds : List (List Nat)} : ∀ {l : List Oper} {i : Nat}, orderXGo ops preds i l = true → ∀ k o, l[k]? = some o →
    (∀ j x, (ops.take (i + k))[j]? = some x → j ∈ (preds[i + k]?).getD [] ∨ freeX ops x o = true) ∧ (∀ e ∈ edgesL o.after.toList, e < i + k)
  | [], i, h, k, o, hk => by simp at hk
  | y :: r, i, h, k, o, hk => by
    simp only [orderXGo, Bool.and_eq_true] at h
    cases k with
    | zero =>
      simp at hk; subst hk
      refine ⟨fun j x hj => by simpa using againstX_spec h.1.1 j x (by simpa using hj), fun e he => ?_⟩
      have := List.all_eq_true.1 h.1.2 e he
      simpa [Nat.blt_eq] using this
    | succ k =>
      simp at hk
      have := orderX_spec h.2 k o hk
      rw [show i + (k + 1) = i + 1 + k from by omega]; exact this
theorem freeX_spec {ops : List Oper} {x y : Oper} (hf : freeX ops x y = true) : (bigR x.op = true → kindA y.op ≠ 2) ∧ (∀ t, x.dst = some t → t ∉ looksL ops y) ∧ (∀ t, y.dst = some t → t ∉ looksL ops x) ∧ (∀ t, x.dst = some t → y.dst ≠ some t) := by
  simp only [freeX, Bool.and_eq_true, Bool.not_eq_true'] at hf
  obtain ⟨h1, h2⟩ := hf
  refine ⟨fun hx hy => ?_, (freeP_spec h1).2⟩
  rw [hx, hy] at h2
  simp at h2
/-- what stands in order leaves alone what a new block shows that may come before it or behind it -/
def SameX (ops : List Oper) (recs : List (Fr × Heap × AV)) (h' : Heap) : Prop := ∀ (x m : Nat) (ox om : Oper) (b : Blk), x < m → ops[x]? = some ox → bigR ox.op = false → ops[m]? = some om → bigR om.op = true →
  hpAt ops.length recs h' (x + 1) = (hpAt ops.length recs h' x).push b → (hpAt ops.length recs h' (m + 1)).t.get (hpAt ops.length recs h' x).next = (hpAt ops.length recs h' m).t.get (hpAt ops.length recs h' x).next
theorem drawX_wp (ok : EnvOK E P) (hcall : CallOK P call) {nt : Nat} {ops : Array Oper} {h : Heap} {fr' : Fr} {h' : Heap} {recs : List (Fr × Heap × AV)} (ht : traceA E call nt ops.toList ops.toList fr h = some (recs, fr', h')) (hord : orderX ops.toList = true) (hstab : StableR E call ops.toList recs h') (hsam : SameX ops.toList recs h')
    {μ : Mu} {w : World} {a : Act} {Q : Exit → Act → World → Prop} (hr : HR μ h w) (ha : AR μ nt fr a) (hq : ∀ μ' a' w', AR μ' nt fr' a' → HR μ' h' w' → Ext μ h w μ' h' w' → Q .normal a' w') : wpAny P .any ops Q ops.size (Array.replicate ops.size false) a { w with drawn := w.drawn + 1 } := by
  skip
  {
    skip
    {
      obtain ⟨F, H, V, f0, g0, fn, gn, hstep, hrec⟩ := trace_recs ht
      have hlen : ops.toList.length = ops.size := by simp
      have ord : ∀ (i : Nat) (o : Oper), ops.toList[i]? = some o → (∀ (j : Nat) (x : Oper), j < i → ops.toList[j]? = some x → j ∈ ((predsGo ops.toList [])[i]?).getD [] ∨ freeX ops.toList x o = true) ∧ (∀ e ∈ edgesL o.after.toList, e < i) := by
        intro i o ho
        have := orderX_spec (i := 0) hord i o ho
        simp only [Nat.zero_add] at this
        exact ⟨fun j x hj hx => this.1 j x (by rw [List.getElem?_take_of_lt hj]; exact hx), this.2⟩
      have hpreds : ∀ (i : Nat) (ps : List Nat), (predsGo ops.toList [])[i]? = some ps → ∃ o : Oper, ops.toList[i]? = some o ∧ ∀ p ∈ ps, p ∈ edgesL o.after.toList ∨ ∃ e ∈ edgesL o.after.toList, ∃ qs, (predsGo ops.toList [])[e]? = some qs ∧ p ∈ qs := by
        intro i ps hi
        have := preds_spec ops.toList [] [] rfl (by simp) i ps hi
        simpa using this
      have predsIn : ∀ (S : Nat → Prop), (∀ (i : Nat) (o : Oper), ops.toList[i]? = some o → S i → ∀ e ∈ edgesL o.after.toList, S e) →
          ∀ (i : Nat) (o : Oper), ops.toList[i]? = some o → (∀ e ∈ edgesL o.after.toList, S e) → ∀ p ∈ ((predsGo ops.toList [])[i]?).getD [], S p := by
        intro S hcl i
        induction i using Nat.strongRecOn with
        | _ i ih =>
          intro o ho he p hp
          cases hps : (predsGo ops.toList [])[i]? with
          | none => simp [hps] at hp
          | some ps =>
            simp [hps] at hp
            obtain ⟨o', ho', hpp⟩ := hpreds i ps hps
            rw [ho] at ho'; cases ho'
            rcases hpp p hp with h3 | ⟨e, h3, qs, h4, h5⟩
            · exact he p h3
            · have hlt := (ord i o ho).2 e h3
              obtain ⟨oe, hoe, _⟩ := hpreds e qs h4
              exact ih e hlt oe hoe (hcl e oe hoe (he e h3)) p (by simp [h4]; exact h5)
      -- who wrote a slot, in the order of the text
      have wrote : ∀ (i : Nat), i ≤ ops.size → ∀ t v, (F i).get t = some v →
          (∃ k o, k < i ∧ ops.toList[k]? = some o ∧ o.dst = some t ∧ t < nt ∧ v = V k ∧ ∀ k' o', k' < i → ops.toList[k']? = some o' → o'.dst = some t → k' ≤ k) ∨
          ((∀ k o, k < i → ops.toList[k]? = some o → o.dst ≠ some t) ∧ fr.get t = some v) := by
        intro i
        induction i with
        | zero => intro _ t v hv; rw [f0] at hv; exact .inr ⟨fun k o hk => by omega, hv⟩
        | succ i ih =>
          intro hi t v hv
          obtain ⟨o, ho⟩ : ∃ o, ops.toList[i]? = some o := ⟨ops.toList[i]'(by simp; omega), by simp⟩
          rw [(hstep i o ho).2] at hv
          have old : (F i).get t = some v → o.dst ≠ some t → (∃ k o, k < i + 1 ∧ ops.toList[k]? = some o ∧ o.dst = some t ∧ t < nt ∧ v = V k ∧ ∀ k' o', k' < i + 1 → ops.toList[k']? = some o' → o'.dst = some t → k' ≤ k) ∨
              ((∀ k o, k < i + 1 → ops.toList[k]? = some o → o.dst ≠ some t) ∧ fr.get t = some v) := by
            intro hv' hne
            rcases ih (by omega) t v hv' with ⟨k, ok', h1, h2, h3, h4, h5, h6⟩ | ⟨h1, h2⟩
            · refine .inl ⟨k, ok', by omega, h2, h3, h4, h5, fun k' o' hk' ho' hd' => ?_⟩
              by_cases e : k' = i
              · subst e; rw [ho] at ho'; cases ho'; exact absurd hd' hne
              · exact h6 k' o' (by omega) ho' hd'
            · refine .inr ⟨fun k ok' hk ho' hd' => ?_, h2⟩
              by_cases e : k = i
              · subst e; rw [ho] at ho'; cases ho'; exact hne hd'
              · exact h1 k ok' (by omega) ho' hd'
          cases hdst : o.dst with
          | none =>
            rw [hdst] at hv
            exact old hv (by rw [hdst]; simp)
          | some d =>
            rw [hdst] at hv
            simp only [putD] at hv
            cases hlt : Nat.blt d nt with
            | false => simp [hlt, Tr.get_nil] at hv
            | true =>
              simp only [hlt, cond_true] at hv
              rcases Tr.get_set hv with ⟨rfl, rfl⟩ | ⟨hne, hv'⟩
              · exact .inl ⟨i, o, by omega, ho, hdst, by simpa [Nat.blt_eq] using hlt, rfl, fun k' _ hk' _ _ => by omega⟩
              · exact old hv' (by rw [hdst]; intro e; cases e; exact hne rfl)
      rw [hlen] at gn
      have hat : ∀ k, k ≤ ops.size → hpAt ops.toList.length recs h' k = H k := by
        intro k hk
        unfold hpAt
        rw [hlen]
        by_cases hlt : k < ops.size
        · rw [show Nat.blt k ops.size = true by simpa [Nat.blt_eq] using hlt, cond_true, hrec k (by simpa using hlt)]
        · have : k = ops.size := by omega
          subst this
          have hq : Nat.blt ops.size ops.size = false := by
            cases hq : Nat.blt ops.size ops.size with
            | false => rfl
            | true =>
              rw [Nat.blt_eq] at hq
              omega
          rw [hq, cond_false, gn]
      have hsame : ∀ (x m : Nat) (ox om : Oper) (b : Blk), x < m → ops.toList[x]? = some ox → bigR ox.op = false → ops.toList[m]? = some om → bigR om.op = true → H (x + 1) = (H x).push b → (H (m + 1)).t.get (H x).next = (H m).t.get (H x).next := by
        intro x m ox om b hxm hx1 hx2 hm1 hm2 hb
        have hml : m < ops.size := by have := (List.getElem?_eq_some_iff.1 hm1).1; simpa using this
        have := hsam x m ox om b hxm hx1 hx2 hm1 hm2 (by rw [hat x (by omega), hat (x + 1) (by omega)]; exact hb)
        rwa [hat x (by omega), hat (m + 1) (by omega), hat m (by omega)] at this
      have hop : ∀ i, i < ops.size → ∃ o, ops.toList[i]? = some o := fun i hi => ⟨ops.toList[i]'(by simp; omega), by simp⟩
      have hpush : ∀ (i : Nat) (o : Oper), ops.toList[i]? = some o → bigR o.op = false → H (i + 1) = H i ∨ ∃ b, H (i + 1) = (H i).push b := by
        intro i o ho hnb
        by_cases hk : kindA o.op = 2
        · have hs := (hstep i o ho).1
          unfold stepA at hs
          split at hs
          · obtain ⟨b, hb⟩ := allocR_push call (not_bigR hnb hk) hs
            exact .inr ⟨b, hb⟩
          · simp only [Option.some.injEq, Prod.mk.injEq] at hs
            exact .inl hs.2.symm
          · cases hs
        · exact .inl (step_heap hk (hstep i o ho).1)
      -- a run without a great operation
      have hle : ∀ (d i : Nat), i + d ≤ ops.size → (∀ k o, i ≤ k → k < i + d → ops.toList[k]? = some o → bigR o.op = false) → (H i).next ≤ (H (i + d)).next ∧ (∀ A, A < (H i).next → (H (i + d)).t.get A = (H i).t.get A) ∧ (H (i + d)).pins = (H i).pins := by
        intro d
        induction d with
        | zero => intro i _ _; exact ⟨Nat.le_refl _, fun A _ => rfl, rfl⟩
        | succ d ih =>
          intro i hi hnb
          obtain ⟨h1, h2, h2p⟩ := ih i (by omega) (fun k o g1 g2 => hnb k o g1 (by omega))
          obtain ⟨o, ho⟩ := hop (i + d) (by omega)
          rw [show i + (d + 1) = (i + d) + 1 from rfl]
          rcases hpush (i + d) o ho (hnb _ o (by omega) (by omega) ho) with h3 | ⟨b, h3⟩
          · rw [h3]; exact ⟨h1, h2, h2p⟩
          · rw [h3]
            refine ⟨Nat.le_trans h1 (Nat.le_succ _), fun A hA => ?_, h2p⟩
            rw [← h2 A hA]
            exact get_set_of' (by omega)
      have hle' : ∀ (s m : Nat), (∀ k o, s ≤ k → k < m → ops.toList[k]? = some o → bigR o.op = false) → m ≤ ops.size → ∀ (i j : Nat), s ≤ i → i ≤ j → j ≤ m → (H i).next ≤ (H j).next ∧ (∀ A, A < (H i).next → (H j).t.get A = (H i).t.get A) ∧ (H j).pins = (H i).pins := by
        intro s m hnb hm' i j hsi hij hj
        have := hle (j - i) i (by omega) (fun k o g1 g2 => hnb k o (by omega) (by omega))
        rwa [show i + (j - i) = j by omega] at this
      have next : ∀ a, a ≤ ops.size → ∃ c, a ≤ c ∧ c ≤ ops.size ∧ (∀ k o, a ≤ k → k < c → ops.toList[k]? = some o → bigR o.op = false) ∧ (c = ops.size ∨ ∃ o, ops.toList[c]? = some o ∧ bigR o.op = true) := by
        have : ∀ d a, a + d = ops.size → ∃ c, a ≤ c ∧ c ≤ ops.size ∧ (∀ k o, a ≤ k → k < c → ops.toList[k]? = some o → bigR o.op = false) ∧ (c = ops.size ∨ ∃ o, ops.toList[c]? = some o ∧ bigR o.op = true) := by
          intro d
          induction d with
          | zero => intro a ha'; exact ⟨a, Nat.le_refl _, by omega, fun k o h1 h2 => by omega, .inl (by omega)⟩
          | succ d ihd =>
            intro a ha'
            obtain ⟨o, hoo⟩ := hop a (by omega)
            cases hb : bigR o.op with
            | true => exact ⟨a, Nat.le_refl _, by omega, fun k o h1 h2 => by omega, .inr ⟨o, hoo, hb⟩⟩
            | false =>
              obtain ⟨c, q1, q2, q3, q4⟩ := ihd (a + 1) (by omega)
              refine ⟨c, by omega, q2, fun k o' h1 h2 h3 => ?_, q4⟩
              by_cases e : k = a
              · subst e; rw [hoo] at h3; cases h3; exact hb
              · exact q3 k o' (by omega) h2 h3
        intro a ha'
        exact this (ops.size - a) a (by omega)
      have lift : ∀ (a c : Nat), a ≤ c → c ≤ ops.size → (∀ k o, a ≤ k → k < c → ops.toList[k]? = some o → bigR o.op = false) → ∀ (μ2 : Mu) (w2 : World), HR μ2 (H a) w2 → Ext μ h w μ2 (H a) w2 → HR μ2 (H c) w2 ∧ Ext μ h w μ2 (H c) w2 := by
        intro a c hac hc hnb μ2 w2 hr2 hx2
        obtain ⟨b1, b2, b3⟩ := hle' a c hnb hc a c (Nat.le_refl _) hac (Nat.le_refl _)
        refine ⟨⟨fun A l hA => ⟨Nat.lt_of_lt_of_le (hr2.dom A l hA).1 b1, (hr2.dom A l hA).2⟩,
          fun A B la lb ba bb hA hB ga gb => hr2.inj A B la lb ba bb hA hB (by rw [← b2 A (hr2.dom A la hA).1]; exact ga) (by rw [← b2 B (hr2.dom B lb hB).1]; exact gb),
          fun A l b hA hb => hr2.blk A l b hA (by rw [← b2 A (hr2.dom A l hA).1]; exact hb), fun x hx => hr2.pin x (by rw [← b3]; exact hx)⟩, ?_⟩
        exact { mono := hx2.mono, next := Nat.le_trans hx2.next b1, fresh := hx2.fresh, wr := fun A hA ⟨b, h1, h2⟩ => hx2.wr A hA ⟨b, by rw [← b2 A (Nat.lt_of_lt_of_le hA hx2.next)]; exact h1, h2⟩, frame := hx2.frame, size := hx2.size, os := hx2.os, tape := hx2.tape, output := hx2.output }
      -- the end
      have done : ∀ (listed : Array Bool) (μ' : Mu) (a' : Act) (w' : World), (∀ i, i < ops.size → listed.getD i false = true) →
          HR μ' h' w' → Ext μ h w μ' h' w' →
          a'.tmps.size = nt → a'.defers = [] →
          (∀ t k o, t < nt → ops.toList[k]? = some o → o.dst = some t → listed.getD k false = true → (∀ (k' : Nat) (o' : Oper), ops.toList[k']? = some o' → listed.getD k' false = true → o'.dst = some t → k' ≤ k) → VR μ' (V k) (a'.tmps.getD t undef)) →
          (∀ t v, (∀ (k : Nat) (o : Oper), ops.toList[k]? = some o → listed.getD k false = true → o.dst ≠ some t) → fr.get t = some v → VR μ' v (a'.tmps.getD t undef)) → Q .normal a' w' := by
        intro listed μ' a' w' hall hr' hext hts htd hsl1 hsl2
        refine hq μ' a' w' ⟨fun t v hv => ?_, hts, htd⟩ hr' hext
        rw [← fn, hlen] at hv
        rcases wrote ops.size (Nat.le_refl _) t v hv with ⟨k, o, h1, h2, h3, h4, rfl, h6⟩ | ⟨h1, h2⟩
        · exact hsl1 t k o h4 h2 h3 (hall k h1) fun k' o' ho' _ hd' => h6 k' o' (by have := (List.getElem?_eq_some_iff.1 ho').1; omega) ho' hd'
        · exact hsl2 t v (fun k o ho _ => h1 k o (by have := (List.getElem?_eq_some_iff.1 ho).1; omega) ho) h2
      -- the walk over whatever order
      have main : ∀ (fuel : Nat) (listed : Array Bool) (μ' : Mu) (a' : Act) (w' : World) (us : List Nat) (m : Nat), us.length ≤ fuel → (∀ i, i < ops.size → listed.getD i false = false → i ∈ us) → listed.size = ops.size →
          (∀ (i : Nat) (o : Oper), ops.toList[i]? = some o → listed.getD i false = true → ∀ e ∈ edgesL o.after.toList, listed.getD e false = true) →
          m ≤ ops.size → (∀ k o, k < m → ops.toList[k]? = some o → bigR o.op = true → listed.getD k false = true) →
          (m = ops.size ∨ ∃ o, ops.toList[m]? = some o ∧ bigR o.op = true ∧ listed.getD m false = false) → (∀ i j, i ≤ j → j ≤ m → (H i).next ≤ (H j).next) →
          HR μ' (H m) w' → Ext μ h w μ' (H m) w' → (∀ (i : Nat) (o : Oper) (b : Blk), i < m → ops.toList[i]? = some o → bigR o.op = false → H (i + 1) = (H i).push b → listed.getD i false = false → μ' (H i).next = none ∧ (H m).t.get (H i).next = some b) →
          a'.tmps.size = nt → a'.defers = [] →
          (∀ t k o, t < nt → ops.toList[k]? = some o → o.dst = some t → listed.getD k false = true → (∀ (k' : Nat) (o' : Oper), ops.toList[k']? = some o' → listed.getD k' false = true → o'.dst = some t → k' ≤ k) → VR μ' (V k) (a'.tmps.getD t undef)) →
          (∀ t v, (∀ (k : Nat) (o : Oper), ops.toList[k]? = some o → listed.getD k false = true → o.dst ≠ some t) → fr.get t = some v → VR μ' v (a'.tmps.getD t undef)) →
          wpAny P .any ops Q fuel listed a' w' := by
        intro fuel
        induction fuel with
        | zero =>
          intro listed μ' a' w' us m hu hus hsz hcl hmn hbl hmb hmono hrm hext hfree hts htd hsl1 hsl2
          have hall : ∀ i, i < ops.size → listed.getD i false = true := by
            intro i hi
            cases hl : listed.getD i false with
            | true => rfl
            | false =>
              have := hus i hi hl
              have : us = [] := List.eq_nil_of_length_eq_zero (by omega)
              subst this; simp at *
          have hmeq : m = ops.size := by
            rcases hmb with h1 | ⟨o, h1, h2, h3⟩
            · exact h1
            · have := (List.getElem?_eq_some_iff.1 h1).1
              rw [hall m (by omega)] at h3; cases h3
          subst hmeq
          rw [gn] at hrm hext
          refine ⟨?_, ?_⟩
          · simp only [Region.ready, List.filter_eq_nil_iff, List.mem_range]
            intro i hi hc
            have h1 := hall i hi
            have : listed.getD i true = true := by
              have hlt : i < listed.size := by omega
              simp [Array.getD, hlt] at h1 ⊢; exact h1
            simp [this] at hc
          · exact done listed μ' a' w' hall hrm hext hts htd hsl1 hsl2
        | succ fuel ih =>
          intro listed μ' a' w' us m hu hus hsz hcl hmn hbl hmb hmono hrm hext hfree hts htd hsl1 hsl2
          refine ⟨?_, ?_⟩
          · intro hready
            have hall : ∀ i, i < ops.size → listed.getD i false = true := by
              intro i
              induction i using Nat.strongRecOn with
              | _ i ihi =>
                intro hin
                cases hl : listed.getD i false with
                | true => rfl
                | false =>
                  exfalso
                  have hlt : i < listed.size := by omega
                  have hnt : listed.getD i true = false := by simp [Array.getD, hlt] at hl ⊢; exact hl
                  have hmem : i ∈ Region.ready .any ops listed := by
                    simp only [Region.ready, List.mem_filter, List.mem_range, Bool.and_eq_true, Bool.not_eq_true']
                    refine ⟨hin, hnt, ?_⟩
                    have ho : ops[i]? = some ops[i] := by simp [hin]
                    rw [ho]
                    simp only [Option.map_some, Option.getD_some, Array.all_eq_true_iff_forall_mem]
                    intro x hx
                    cases hbx : Region.binds .any x with
                    | false => simp
                    | true =>
                      have he : x.on ∈ edgesL ops[i].after.toList := edgesL_mem.2 ⟨x, by simpa using hx, hbx, rfl⟩
                      have hlt' := (ord i ops[i] (by simp [hin])).2 _ he
                      simpa using ihi x.on hlt' (by omega)
                  rw [hready] at hmem
                  simp at hmem
            have hmeq : m = ops.size := by
              rcases hmb with h1 | ⟨o, h1, h2, h3⟩
              · exact h1
              · have := (List.getElem?_eq_some_iff.1 h1).1
                rw [hall m (by omega)] at h3; cases h3
            subst hmeq
            rw [gn] at hrm hext
            exact done listed μ' a' w' hall hrm hext hts htd hsl1 hsl2
          · intro i hi
            simp only [Region.ready, List.mem_filter, List.mem_range, Bool.and_eq_true, Bool.not_eq_true'] at hi
            obtain ⟨hin, hnl, hed⟩ := hi
            have hlt : i < listed.size := by omega
            have hnl' : listed.getD i false = false := by simp [Array.getD, hlt] at hnl ⊢; exact hnl
            have ho : ops[i]? = some ops[i] := by simp [hin]
            have hoL : ops.toList[i]? = some ops[i] := by simp [hin]
            have hedge : ∀ e ∈ edgesL ops[i].after.toList, listed.getD e false = true := by
              intro e he
              obtain ⟨x, h1, h2, h3⟩ := edgesL_mem.1 he
              rw [ho] at hed
              simp only [Option.map_some, Option.getD_some, Array.all_eq_true_iff_forall_mem] at hed
              have := hed x (by simpa using h1)
              simp [h2] at this
              rw [← h3]; simpa using this
            have hplist := predsIn (fun k => listed.getD k false = true) hcl i ops[i] hoL hedge
            -- what comes behind an operation that is not listed is not listed, or either may come first
            have behind : ∀ (k : Nat) (o : Oper), i < k → ops.toList[k]? = some o → listed.getD k false = true → freeX ops.toList ops[i] o = true := by
              intro k o hik hok hlk
              rcases (ord k o hok).1 i ops[i] hik hoL with h1 | h1
              · have h9 : listed.getD i false = true := predsIn (fun k => listed.getD k false = true) hcl k o hok (hcl k o hok hlk) i h1
                rw [hnl'] at h9; cases h9
              · exact h1
            have ahead : ∀ (k : Nat) (o : Oper), k < i → ops.toList[k]? = some o → listed.getD k false = true ∨ freeX ops.toList o ops[i] = true := by
              intro k o hki hok
              rcases (ord i ops[i] hoL).1 k o hki hok with h1 | h1
              · exact .inl (hplist k h1)
              · exact .inr h1
            -- where what turns the heap stands
            have hwhere : kindA ops[i].op = 2 → (i < m ∧ bigR ops[i].op = false) ∨ (i = m ∧ bigR ops[i].op = true) := by
              intro hk
              rcases Nat.lt_trichotomy i m with h2 | h2 | h2
              · cases hb : bigR ops[i].op with
                | false => exact .inl ⟨h2, rfl⟩
                | true =>
                  have := hbl i ops[i] h2 hoL hb
                  rw [hnl'] at this; cases this
              · rcases hmb with h3 | ⟨o, h3, h4, h5⟩
                · omega
                · subst h2; rw [hoL] at h3; cases h3; exact .inr ⟨rfl, h4⟩
              · rcases hmb with h3 | ⟨o, h3, h4, h5⟩
                · omega
                · rcases ahead m o h2 h3 with h6 | h6
                  · rw [h5] at h6; cases h6
                  · exact absurd hk ((freeX_spec h6).1 h4)
            -- the frame, as far as the operation looks
            have hget : ∀ t, (Tr.restrict.restrictL (fun t => memL t (looksL ops.toList ops[i])) (F i)).get t = bif memL t (looksL ops.toList ops[i]) then (F i).get t else none := fun t => Tr.get_restrict (F i) _ t
            have har : AR μ' nt (Tr.restrict.restrictL (fun t => memL t (looksL ops.toList ops[i])) (F i)) a' := by
              refine ⟨fun t v hv => ?_, hts, htd⟩
              rw [hget] at hv
              cases hmt : memL t (looksL ops.toList ops[i]) with
              | false => simp [hmt] at hv
              | true =>
                simp only [hmt, cond_true] at hv
                have hmt' := memL_iff.1 hmt
                rcases wrote i (by omega) t v hv with ⟨k, o, h1, h2, h3, h4, rfl, h6⟩ | ⟨h1, h2⟩
                · have hlk : listed.getD k false = true := by
                    rcases ahead k o h1 h2 with h7 | h7
                    · exact h7
                    · exact absurd hmt' ((freeX_spec h7).2.1 t h3)
                  refine hsl1 t k o h4 h2 h3 hlk fun k' o' ho' hl' hd' => ?_
                  rcases Nat.lt_trichotomy k' i with h7 | rfl | h7
                  · exact h6 k' o' h7 ho' hd'
                  · rw [hnl'] at hl'; cases hl'
                  · exact absurd hmt' ((freeX_spec (behind k' o' h7 ho' hl')).2.2.1 t hd')
                · refine hsl2 t v (fun k o hok hlk hd' => ?_) h2
                  rcases Nat.lt_trichotomy k i with h7 | rfl | h7
                  · exact h1 k o h7 hok hd'
                  · rw [hnl'] at hlk; cases hlk
                  · exact absurd hmt' ((freeX_spec (behind k o h7 hok hlk)).2.2.1 t hd')
            have hcong : ∀ Hx, stepA E call ops.toList (Tr.restrict.restrictL (fun t => memL t (looksL ops.toList ops[i])) (F i)) ops[i] Hx = stepA E call ops.toList (F i) ops[i] Hx := by
              intro Hx
              refine step_congr fun t ht => ?_
              rw [hget, memL_iff.2 ht]; rfl
            have go : ∀ (m2 : Nat) (μ2 : Mu) (u : Value) (w2 : World), VR μ2 (V i) u → m2 ≤ ops.size → (∀ k o, k < m2 → ops.toList[k]? = some o → bigR o.op = true → k ≠ i → listed.getD k false = true) →
                (m2 = ops.size ∨ ∃ o, ops.toList[m2]? = some o ∧ bigR o.op = true ∧ m2 ≠ i ∧ listed.getD m2 false = false) → (∀ i j, i ≤ j → j ≤ m2 → (H i).next ≤ (H j).next) → HR μ2 (H m2) w2 → μ'.le μ2 → Ext μ h w μ2 (H m2) w2 →
                (∀ (j : Nat) (o : Oper) (b : Blk), j < m2 → ops.toList[j]? = some o → bigR o.op = false → j ≠ i → H (j + 1) = (H j).push b → listed.getD j false = false → μ2 (H j).next = none ∧ (H m2).t.get (H j).next = some b) →
                wpAny P .any ops Q fuel (listed.setIfInBounds i true) (a'.put ops[i].dst u) w2 := by
              intro m2 μ2 u w2 hv p2 p4 p5 p6 hr2 hmono2 hext2 hfree2
              refine ih (listed.setIfInBounds i true) μ2 _ w2 (us.erase i) m2 ?_ ?_ (by simpa using hsz) ?_ p2 ?_ ?_ p6 hr2 hext2 ?_ (by simpa [Act.put] using (by cases ops[i].dst <;> simp [hts])) (by cases ops[i].dst <;> simp [Act.put, htd]) ?_ ?_
              · have := hus i hin hnl'
                rw [List.length_erase_of_mem this]; omega
              · intro k hk hl
                rw [getD_set hlt] at hl
                by_cases hki : k = i
                · rw [if_pos hki] at hl; cases hl
                · rw [if_neg hki] at hl
                  exact (List.mem_erase_of_ne hki).2 (hus k hk hl)
              · intro k o hok hl e he
                rw [getD_set hlt] at hl ⊢
                by_cases hei : e = i
                · rw [if_pos hei]
                · rw [if_neg hei]
                  by_cases hki : k = i
                  · subst hki; rw [hoL] at hok; cases hok; exact hedge e he
                  · rw [if_neg hki] at hl; exact hcl k o hok hl e he
              · intro k o hk hok hk2
                rw [getD_set hlt]
                by_cases hki : k = i
                · rw [if_pos hki]
                · rw [if_neg hki]; exact p4 k o hk hok hk2 hki
              · rcases p5 with p5 | ⟨o, g1, g2, g3, g4⟩
                · exact .inl p5
                · exact .inr ⟨o, g1, g2, by rw [getD_set hlt, if_neg g3]; exact g4⟩
              · intro j o b hj2 hjo hjb hb hl
                rw [getD_set hlt] at hl
                by_cases hji : j = i
                · rw [if_pos hji] at hl; cases hl
                · rw [if_neg hji] at hl
                  exact hfree2 j o b hj2 hjo hjb hji hb hl
              · intro t k o htn hok hd' hl hmax
                rw [getD_set hlt] at hl
                by_cases hdi : ops[i].dst = some t
                · have hik : i ≤ k := hmax i ops[i] hoL (by rw [getD_set hlt, if_pos rfl]) hdi
                  have hki : k = i := by
                    by_cases hki : k = i
                    · exact hki
                    · rw [if_neg hki] at hl
                      exact absurd hd' ((freeX_spec (behind k o (by omega) hok hl)).2.2.2 t hdi)
                  subst hki
                  rw [hdi, put_same (by omega)]; exact hv
                · have hki : k ≠ i := by rintro rfl; rw [hoL] at hok; cases hok; exact hdi hd'
                  rw [if_neg hki] at hl
                  rw [put_other hdi]
                  refine VR.mono hmono2 _ _ (hsl1 t k o htn hok hd' hl fun k' o' ho' hl' hd'' => hmax k' o' ho' ?_ hd'')
                  rw [getD_set hlt]; split
                  · rfl
                  · exact hl'
              · intro t v hno hv'
                have hdi : ops[i].dst ≠ some t := hno i ops[i] hoL (by rw [getD_set hlt, if_pos rfl])
                rw [put_other hdi]
                refine VR.mono hmono2 _ _ (hsl2 t v (fun k o hok hl => hno k o hok ?_) hv')
                rw [getD_set hlt]; split
                · rfl
                · exact hl
            have hstepi : stepA E call ops.toList (Tr.restrict.restrictL (fun t => memL t (looksL ops.toList ops[i])) (F i)) ops[i] (H i) = some (V i, H (i + 1)) := by rw [hcong]; exact (hstep i ops[i] hoL).1
            have hmb' : i ≠ m → (m = ops.size ∨ ∃ o, ops.toList[m]? = some o ∧ bigR o.op = true ∧ m ≠ i ∧ listed.getD m false = false) := fun hne => hmb.imp (fun x => x) (fun ⟨o, g1, g2, g3⟩ => ⟨o, g1, g2, fun e => hne e.symm, g3⟩)
            show wpOp P ops Q i _ a' w'
            unfold wpOp
            rw [ho]
            cases hbg : bigR ops[i].op with
            | true =>
              obtain ⟨hk2, _⟩ := bigR_kind hbg
              have him : i = m := by
                rcases hwhere hk2 with ⟨_, h3⟩ | ⟨h3, _⟩
                · rw [hbg] at h3; cases h3
                · exact h3
              subst him
              refine step_wp ok hcall hrm har hstepi ?_
              intro μ2 u w2 hv hr2 hext2
              obtain ⟨c, q1, q2, q3, q4⟩ := next (i + 1) (by omega)
              obtain ⟨hr3, hext3⟩ := lift (i + 1) c q1 q2 q3 μ2 w2 hr2 (Ext.trans hr hext hext2)
              have hrun := hle' (i + 1) c q3 q2
              refine go c μ2 u w2 hv q2 ?_ ?_ ?_ hr3 hext2.mono hext3 ?_
              · intro k o hk hok hkb hki
                rcases Nat.lt_or_ge k i with h6 | h6
                · exact hbl k o h6 hok hkb
                · have := q3 k o (by omega) hk hok
                  rw [hkb] at this; cases this
              · rcases q4 with q4 | ⟨o, g1, g2⟩
                · exact .inl q4
                · refine .inr ⟨o, g1, g2, by omega, ?_⟩
                  cases hlc : listed.getD c false with
                  | false => rfl
                  | true => exact absurd (bigR_kind g2).1 ((freeX_spec (behind c o (by omega) g1 hlc)).1 hbg)
              · intro j k hjk hkc
                rcases Nat.lt_or_ge i k with h6 | h6
                · rcases Nat.lt_or_ge i j with h7 | h7
                  · exact (hrun j k (by omega) hjk hkc).1
                  · exact Nat.le_trans (hmono j i h7 (Nat.le_refl _)) (Nat.le_trans hext2.next (hrun (i + 1) k (Nat.le_refl _) (by omega) hkc).1)
                · exact hmono j k hjk h6
              · intro j o b hj2 hjo hjb hji hb hl
                rcases Nat.lt_or_ge j i with h6 | h6
                · obtain ⟨f1, f2⟩ := hfree j o b h6 hjo hjb hb hl
                  have n0 : (H j).next < (H i).next := by
                    have := hmono (j + 1) i (by omega) (Nat.le_refl _)
                    rw [hb] at this
                    exact Nat.lt_of_lt_of_le (Nat.lt_succ_self _) this
                  refine ⟨?_, ?_⟩
                  · cases hm2 : μ2 (H j).next with
                    | none => rfl
                    | some l =>
                      rcases hext2.fresh _ _ hm2 with h7 | ⟨h7, _⟩
                      · rw [f1] at h7; cases h7
                      · omega
                  · rw [(hrun (i + 1) c (Nat.le_refl _) q1 (Nat.le_refl _)).2.1 _ (Nat.lt_of_lt_of_le n0 hext2.next), hsame j i o ops[i] b h6 hjo hjb hoL hbg hb]
                    exact f2
                · have b1 := (hrun (i + 1) j (Nat.le_refl _) (by omega) (by omega)).1
                  refine ⟨?_, ?_⟩
                  · cases hm2 : μ2 (H j).next with
                    | none => rfl
                    | some l =>
                      have := (hr2.dom _ _ hm2).1
                      omega
                  · have b2 := hrun (j + 1) c (by omega) (by omega) (Nat.le_refl _)
                    rw [hb] at b2
                    rw [b2.2.1 _ (Nat.lt_succ_self _)]
                    exact Tr.get_set_same
            | false =>
              have hpi := hpush i ops[i] hoL hbg
              by_cases hal : ∃ b, H (i + 1) = (H i).push b
              · obtain ⟨b, hb⟩ := hal
                have hk2 : kindA ops[i].op = 2 := by
                  rcases Nat.lt_or_ge (kindA ops[i].op) 2 with h7 | h7
                  · exfalso
                    have h8 := step_heap (by omega) (hstep i ops[i] hoL).1
                    have h9 := congrArg Heap.next (h8.symm.trans hb)
                    exact absurd h9 (Nat.ne_of_lt (Nat.lt_succ_self _))
                  · have := kindA_le ops[i].op; omega
                have him : i < m := by
                  rcases hwhere hk2 with ⟨h3, _⟩ | ⟨_, h3⟩
                  · exact h3
                  · rw [hbg] at h3; cases h3
                obtain ⟨hfi, n2⟩ := hfree i ops[i] b him hoL hbg hb hnl'
                unfold stepA at hstepi
                split at hstepi
                · rename_i hw
                  obtain ⟨b', sm, e1, e2, l, u, o', h1, h2, h3, h4⟩ := allocR_step ok har (not_bigR hbg hk2) hstepi hfi w'
                  have hbb : b' = b := by
                    have h5 := e1.symm.trans hb
                    have h6 := congrArg (fun x : Heap => x.t.get (H i).next) h5
                    simp only [Heap.push] at h6
                    rw [Tr.get_set_same, Tr.get_set_same] at h6
                    exact Option.some.inj h6
                  subst hbb
                  have n1 : (H i).next < (H m).next := by
                    have := hmono (i + 1) m (by omega) (Nat.le_refl _)
                    rw [hb] at this
                    exact Nat.lt_of_lt_of_le (Nat.lt_succ_self _) this
                  have n3 : h.next ≤ (H i).next := by
                    have := hmono 0 i (Nat.zero_le _) (by omega)
                    rwa [g0] at this
                  show (if Region.wanted ops[i] (yielded ops a'.tmps) = true then (ops[i].wp P a' w' (wpAny P .any ops Q fuel (listed.setIfInBounds i true)) Q ∨ (ops[i].asks P a' w' ∧ LetsOut Q)) else wpAny P .any ops Q fuel (listed.setIfInBounds i true) (a'.put ops[i].dst undef) w')
                  rw [wanted_sound har hw]
                  simp only [if_true]
                  left
                  unfold Oper.wp
                  rw [e2, run_bind_ok h1, Sem.run_pure]
                  rw [Oper.upon_value]
                  refine go m _ u _ h3 hmn (fun k o g1 g2 g3 _ => hbl k o g1 g2 g3) (hmb' (by omega)) hmono (hrm.at hfi n1 n2 o' l h2 h4) (Mu.le_add hfi) (hext.at hfi n3 o' l h2) fun j o c hj2 hjo hjb hji hc hl => ?_
                  have hne : (H j).next ≠ (H i).next := by
                    rcases Nat.lt_or_ge j i with h7 | h7
                    · have h8 := hmono (j + 1) i (by omega) (by omega)
                      rw [hc] at h8
                      exact Nat.ne_of_lt (Nat.lt_of_lt_of_le (Nat.lt_succ_self _) h8)
                    · have h8 := hmono (i + 1) j (by omega) (by omega)
                      rw [hb] at h8
                      exact (Nat.ne_of_lt (Nat.lt_of_lt_of_le (Nat.lt_succ_self _) h8)).symm
                  obtain ⟨f1, f2⟩ := hfree j o c hj2 hjo hjb hc hl
                  refine ⟨?_, f2⟩
                  show (if (H j).next = (H i).next then some l else μ' (H j).next) = none
                  rw [if_neg hne]
                  exact f1
                · exfalso
                  simp only [Option.some.injEq, Prod.mk.injEq] at hstepi
                  have h9 := congrArg Heap.next (hstepi.2.trans hb)
                  exact absurd h9 (Nat.ne_of_lt (Nat.lt_succ_self _))
                · cases hstepi
              · have hsame : H (i + 1) = H i := by
                  rcases hpi with h7 | h7
                  · exact h7
                  · exact absurd h7 hal
                have hstepm : stepA E call ops.toList (F i) ops[i] (H m) = some (V i, H m) := by
                  rcases kindA_le ops[i].op with h0 | h1 | h2
                  · exact step_free h0 (hstep i ops[i] hoL).1 (H m)
                  · obtain ⟨u, h3, h4, he⟩ := hstab i ops[i] (F i) (H i) (V i) hoL (hrec i (by simpa using hin)) h1 m (H m) (by
                      rcases hmb with h7 | ⟨o, h7, h8, _⟩
                      · right; exact ⟨by rw [hlen]; exact h7, by rw [h7, gn]⟩
                      · left; exact ⟨o, F m, V m, h7, (bigR_kind h8).1, hrec m (by have := (List.getElem?_eq_some_iff.1 h7).1; simpa using this)⟩)
                    have he' := eqV_eq _ _ he
                    subst he'
                    have := step_heap (by omega) h4
                    subst this
                    exact h4
                  · have hs := (hstep i ops[i] hoL).1
                    unfold stepA at hs ⊢
                    split at hs
                    · obtain ⟨b, hb⟩ := allocR_push call (not_bigR hbg h2) hs
                      exact absurd ⟨b, hb⟩ hal
                    · simp only [Option.some.injEq, Prod.mk.injEq] at hs
                      rw [hs.1]
                    · cases hs
                have him : i ≠ m := by
                  rintro rfl
                  rcases hmb with h7 | ⟨o, h7, h8, _⟩
                  · omega
                  · rw [hoL] at h7; cases h7; rw [hbg] at h8; cases h8
                refine step_wp ok hcall hrm har (by rw [hcong]; exact hstepm) ?_
                intro μ2 u w2 hv hr2 hext2
                refine go m μ2 u w2 hv hmn (fun k o g1 g2 g3 _ => hbl k o g1 g2 g3) (hmb' him) hmono hr2 hext2.mono (Ext.trans hr hext hext2) fun j o c hj2 hjo hjb hji hc hl => ?_
                obtain ⟨f1, f2⟩ := hfree j o c hj2 hjo hjb hc hl
                refine ⟨?_, f2⟩
                cases hm2 : μ2 (H j).next with
                | none => rfl
                | some l =>
                  exfalso
                  rcases hext2.fresh _ _ hm2 with h7 | ⟨h7, _⟩
                  · rw [f1] at h7; cases h7
                  · have h8 := hmono (j + 1) m (by omega) (Nat.le_refl _)
                    rw [hc] at h8
                    exact absurd (Nat.lt_of_lt_of_le (Nat.lt_succ_self (H j).next) h8) (by omega)
      obtain ⟨c, q1, q2, q3, q4⟩ := next 0 (Nat.zero_le _)
      have hx00 : Ext μ h w μ (H 0) { w with drawn := w.drawn + 1 } := by rw [g0]; exact Ext.draws rfl rfl rfl rfl
      obtain ⟨hr0, hx0⟩ := lift 0 c q1 q2 q3 μ { w with drawn := w.drawn + 1 } (by rw [g0]; exact hr.draws rfl) hx00
      have hfalse : ∀ k, (Array.replicate ops.size false).getD k false = false := by
        intro k; simp [Array.getD]
      have hrun := hle' 0 c q3 q2
      refine main ops.size _ μ a _ (List.range ops.size) c (by simp) (by intro i hi _; simpa using hi) (by simp) ?_ q2 (fun k o hk hok hkb => by
        have := q3 k o (Nat.zero_le _) hk hok
        rw [hkb] at this; cases this) ?_ (fun i j hij hj => (hrun i j (Nat.zero_le _) hij hj).1) hr0 hx0 ?_ ha.size ha.defers ?_ ?_
      · intro i o _ hl; rw [hfalse] at hl; cases hl
      · rcases q4 with q4 | ⟨o, g1, g2⟩
        · exact .inl q4
        · exact .inr ⟨o, g1, g2, hfalse c⟩
      · intro i o b hi _ _ hb _
        refine ⟨?_, ?_⟩
        · cases hm2 : μ (H i).next with
          | none => rfl
          | some l =>
            exfalso
            have h7 := (hr.dom _ _ hm2).1
            have := (hrun 0 i (Nat.le_refl _) (Nat.zero_le _) (by omega)).1
            rw [g0] at this
            omega
        · have b2 := hrun (i + 1) c (Nat.zero_le _) (by omega) (Nat.le_refl _)
          rw [hb] at b2
          rw [b2.2.1 _ (Nat.lt_succ_self _)]
          exact Tr.get_set_same
      · intro t k o _ _ _ hl; rw [hfalse] at hl; cases hl
      · intro t v _ hv; exact ha.slot t v hv
    }
  }
end
end Go.Proofs.YtjeaammlambkeaaDoor.Ai

namespace Go.Proofs.YtjeaammlambkeaaDoor.Ai
/-! a region's operations in another order of the text -/
section
variable {P : Program} {ops : Array Oper} {π : List Nat} {Q : Exit → Act → World → Prop}
theorem ready_iff {ops : Array Oper} {listed : Array Bool} (hs : listed.size = ops.size) {i : Nat} : i ∈ Region.ready .any ops listed ↔ ∃ o, ops[i]? = some o ∧ listed.getD i false = false ∧ ∀ x ∈ o.after.toList, Region.binds .any x = true → listed.getD x.on false = true := by
  simp only [Region.ready, List.mem_filter, List.mem_range, Bool.and_eq_true, Bool.not_eq_true']
  constructor
  · rintro ⟨hin, hnl, hed⟩
    have hlt : i < listed.size := by omega
    have ho : ops[i]? = some ops[i] := by simp [hin]
    refine ⟨ops[i], ho, by simp [Array.getD, hlt] at hnl ⊢; exact hnl, fun x hx hb => ?_⟩
    rw [ho] at hed
    simp only [Option.map_some, Option.getD_some, Array.all_eq_true_iff_forall_mem] at hed
    have := hed x (by simpa using hx)
    simpa [hb] using this
  · rintro ⟨o, ho, hnl, hed⟩
    have hin : i < ops.size := (Array.getElem?_eq_some_iff.1 ho).1
    have hlt : i < listed.size := by omega
    refine ⟨hin, by simp [Array.getD, hlt] at hnl ⊢; exact hnl, ?_⟩
    rw [ho]
    simp only [Option.map_some, Option.getD_some, Array.all_eq_true_iff_forall_mem]
    intro x hx
    cases hb : Region.binds .any x with
    | false => simp
    | true => simpa using hed x (by simpa using hx) hb
structure PermOK (π : List Nat) (ops : Array Oper) : Prop where
  len : π.length = ops.size
  lt : ∀ i, i < ops.size → posL π i < ops.size
  at' : ∀ i, i < ops.size → π[posL π i]? = some i
  inv : ∀ k, k < ops.size → ∃ i, π[k]? = some i ∧ i < ops.size ∧ posL π i = k
  edge : ∀ (i : Nat) (o : Oper), ops[i]? = some o → (∀ x ∈ o.after.toList, x.on < ops.size) ∧ ∀ g, o.guard = some g → g.1 < ops.size
theorem permB_ok (h : permB π ops.toList = true) : PermOK π ops := by
  simp only [permB, Bool.and_eq_true, List.all_eq_true, List.mem_range, Array.length_toList] at h
  obtain ⟨⟨h1, h2⟩, h3⟩ := h
  have hl : π.length = ops.size := by simpa using Nat.eq_of_beq_eq_true h1
  refine ⟨hl, fun i hi => by simpa [Nat.blt_eq] using (h2 i hi).1.1.1, fun i hi => ?_, fun k hk => ?_, fun i o ho => ?_⟩
  · have h4 : posL π i < π.length := by have := (h2 i hi).1.1.1; rw [Nat.blt_eq] at this; omega
    have h5 := Nat.eq_of_beq_eq_true (h2 i hi).1.1.2
    rw [List.getElem?_eq_getElem h4] at h5 ⊢
    simp only [Option.getD_some] at h5
    rw [h5]
  · have h4 : k < π.length := by omega
    have h5 := Nat.eq_of_beq_eq_true (h2 k hk).1.2
    have h6 := (h2 k hk).2
    rw [List.getElem?_eq_getElem h4] at h5 h6
    simp only [Option.getD_some] at h5 h6
    rw [Nat.blt_eq] at h6
    exact ⟨π[k], List.getElem?_eq_getElem h4, h6, h5⟩
  · have hm : o ∈ ops.toList := by
      have := (Array.getElem?_eq_some_iff.1 ho)
      obtain ⟨hlt, rfl⟩ := this
      exact Array.mem_toList_iff.2 (Array.getElem_mem hlt)
    obtain ⟨h4, h5⟩ := h3 o hm
    refine ⟨fun x hx => by have := h4 x hx; rwa [Nat.blt_eq] at this, fun g hg => ?_⟩
    rw [hg] at h5
    simpa [guardLt, Nat.blt_eq] using h5
theorem perm_get (hp : PermOK π ops) {i : Nat} {o : Oper} (ho : ops[i]? = some o) : ((permO π ops.toList).toArray)[posL π i]? = some (renO π o) := by
  have hi : i < ops.size := (Array.getElem?_eq_some_iff.1 ho).1
  have hl : ops.toList[i]? = some o := by rw [Array.getElem?_toList]; exact ho
  simp only [List.getElem?_toArray, permO, List.getElem?_map, hp.at' i hi, Option.map_some, hl, Option.getD_some]
theorem perm_size (hp : PermOK π ops) : ((permO π ops.toList).toArray).size = ops.size := by simp [permO, hp.len]
theorem perm_any (hp : PermOK π ops) : ∀ (fuel : Nat) (listed listed' : Array Bool) (a : Act) (w : World), listed.size = ops.size → listed'.size = ops.size → (∀ i, i < ops.size → listed'.getD (posL π i) false = listed.getD i false) →
    wpAny P .any (permO π ops.toList).toArray Q fuel listed' a w → wpAny P .any ops Q fuel listed a w := by
  have fwd : ∀ {listed listed' : Array Bool}, listed.size = ops.size → listed'.size = ops.size → (∀ i, i < ops.size → listed'.getD (posL π i) false = listed.getD i false) → ∀ i, i ∈ Region.ready .any ops listed → posL π i ∈ Region.ready .any (permO π ops.toList).toArray listed' := by
    intro listed listed' hs hs' hl i hi
    obtain ⟨o, ho, hn, he⟩ := (ready_iff hs).1 hi
    have hin : i < ops.size := (Array.getElem?_eq_some_iff.1 ho).1
    refine (ready_iff (by rw [perm_size hp]; exact hs')).2 ⟨renO π o, perm_get hp ho, by rw [hl i hin]; exact hn, fun x hx hb => ?_⟩
    have hx' : x ∈ (o.after.map (renE π)).toList := hx
    rw [Array.toList_map] at hx'
    obtain ⟨y, hy, rfl⟩ := List.mem_map.1 hx'
    have := he y hy hb
    rw [← hl y.on ((hp.edge i o ho).1 y hy)] at this
    exact this
  have bwd : ∀ {listed listed' : Array Bool}, listed.size = ops.size → listed'.size = ops.size → (∀ i, i < ops.size → listed'.getD (posL π i) false = listed.getD i false) → Region.ready .any ops listed = [] → Region.ready .any (permO π ops.toList).toArray listed' = [] := by
    intro listed listed' hs hs' hl hr
    rw [List.eq_nil_iff_forall_not_mem]
    intro k hk
    obtain ⟨o', ho', hn, he⟩ := (ready_iff (by rw [perm_size hp]; exact hs')).1 hk
    have hkn : k < ops.size := by have := (Array.getElem?_eq_some_iff.1 ho').1; rwa [perm_size hp] at this
    obtain ⟨i, _, hin, hpos⟩ := hp.inv k hkn
    have ho : ops[i]? = some ops[i] := by simp [hin]
    have hg := perm_get hp ho
    rw [hpos, ho'] at hg
    simp only [Option.some.injEq] at hg
    subst hg
    have : i ∈ Region.ready .any ops listed := by
      refine (ready_iff hs).2 ⟨ops[i], ho, by rw [← hl i hin, hpos]; exact hn, fun x hx hb => ?_⟩
      have := he (renE π x) (by
        show renE π x ∈ (ops[i].after.map (renE π)).toList
        rw [Array.toList_map]; exact List.mem_map_of_mem hx) hb
      rw [← hl x.on ((hp.edge i _ ho).1 x hx)]
      exact this
    rw [hr] at this
    cases this
  have op : ∀ {i : Nat} {K K' : Act → World → Prop} {a : Act} {w : World}, i < ops.size → (∀ a w, K' a w → K a w) → wpOp P (permO π ops.toList).toArray Q (posL π i) K' a w → wpOp P ops Q i K a w := by
    intro i K K' a w hin hK hw
    have ho : ops[i]? = some ops[i] := by simp [hin]
    have hg := perm_get hp ho
    have hw1 := wpOp_mono hK hw
    unfold wpOp at hw1 ⊢
    rw [hg] at hw1
    rw [ho]
    have hwant : Region.wanted (renO π ops[i]) (yielded (permO π ops.toList).toArray a.tmps) = Region.wanted ops[i] (yielded ops a.tmps) := by
      unfold Region.wanted
      cases hgd : ops[i].guard with
      | none =>
        have : (renO π ops[i]).guard = none := by show renG π ops[i].guard = none; rw [hgd]; rfl
        rw [this]
      | some g =>
        obtain ⟨j, b⟩ := g
        have : (renO π ops[i]).guard = some (posL π j, b) := by show renG π ops[i].guard = _; rw [hgd]; rfl
        rw [this]
        have hj : j < ops.size := (hp.edge i _ ho).2 _ hgd
        have hoj : ops[j]? = some ops[j] := by simp [hj]
        have hgj := perm_get hp hoj
        have hy : yielded (permO π ops.toList).toArray a.tmps (posL π j) = yielded ops a.tmps j := by
          unfold yielded
          rw [hgj, hoj]; rfl
        simp only [hy]
    simp only [hwant] at hw1
    exact hw1
  intro fuel
  induction fuel with
  | zero =>
    intro listed listed' a w hs hs' hl hw
    obtain ⟨h1, h2⟩ := hw
    refine ⟨?_, h2⟩
    rw [List.eq_nil_iff_forall_not_mem]
    intro i hi
    have := fwd hs hs' hl i hi
    rw [h1] at this; cases this
  | succ fuel ih =>
    intro listed listed' a w hs hs' hl hw
    obtain ⟨h1, h2⟩ := hw
    refine ⟨fun hr => h1 (bwd hs hs' hl hr), fun i hi => ?_⟩
    have hin : i < ops.size := by
      obtain ⟨o, ho, _⟩ := (ready_iff hs).1 hi
      exact (Array.getElem?_eq_some_iff.1 ho).1
    refine op hin (fun a w hK => ?_) (h2 (posL π i) (fwd hs hs' hl i hi))
    refine ih _ _ a w (by simpa using hs) (by simpa using hs') ?_ hK
    intro k hk
    have hpi := hp.lt i hin
    rw [getD_set (by omega), getD_set (by omega)]
    by_cases e : k = i
    · subst e; simp
    · have : posL π k ≠ posL π i := fun h => by
        have h3 := hp.at' k hk
        rw [h, hp.at' i hin] at h3
        exact e (Option.some.inj h3).symm
      rw [if_neg this, if_neg e]
      exact hl k hk
theorem perm_wp {id : Nat} {a : Act} {w : World} (hm : P.follows .mixedOrders = true) (hp : permB π ops.toList = true)
    (h : wpAny P .any (permO π ops.toList).toArray Q (permO π ops.toList).toArray.size (Array.replicate (permO π ops.toList).toArray.size false) a { w with drawn := w.drawn + 1 }) : (Code.region id ops true).wp P Q a w := by
  have hp' := permB_ok hp
  refine wp_region_any hm ?_
  rw [perm_size hp'] at h
  refine perm_any hp' ops.size _ _ a _ (by simp) (by simp) (fun i hi => ?_) h
  simp [Array.getD]
end
end Go.Proofs.YtjeaammlambkeaaDoor.Ai

namespace Go.Proofs.YtjeaammlambkeaaDoor.Ai
section
variable {E : Env} {P : Program} {call : CallF} {fr : Fr}
theorem stable_recs {ops : List Oper} {hs : List Heap} : ∀ {l : List Oper} {q : List (Fr × Heap × AV)}, stableB E call ops hs l q = true → ∀ (i : Nat) (o : Oper) (f : Fr) (hh : Heap) (v : AV), l[i]? = some o → q[i]? = some (f, hh, v) → kindA o.op = 1 → ∀ H ∈ hs, ∃ u h2, stepA E call ops f o H = some (u, h2) ∧ eqV u v = true
  | [], q, _, i, o, f, hh, v, hi, _, _, _, _ => by simp at hi
  | o' :: r, [], _, i, o, f, hh, v, _, hq, _, _, _ => by simp at hq
  | o' :: r, (f', h1, v') :: q, hx, i, o, f, hh, v, hi, hq, hk, H, hH => by
    simp only [stableB, Bool.and_eq_true] at hx
    cases i with
    | zero =>
      simp at hi hq
      subst hi
      obtain ⟨rfl, rfl, rfl⟩ := hq
      have h2 := hx.1
      rw [hk] at h2
      have h3 := List.all_eq_true.1 h2 H hH
      cases hs : stepA E call ops f' o' H with
      | none => rw [hs] at h3; cases h3
      | some p => rw [hs] at h3; exact ⟨p.1, p.2, rfl, h3⟩
    | succ i => exact stable_recs hx.2 i o f hh v (by simpa using hi) (by simpa using hq) hk H hH
theorem stages_end : ∀ (l : List Oper) (q : List (Fr × Heap × AV)) (e : Heap), e ∈ stagesL l q e
  | [], q, e => by simp [stagesL]
  | _ :: _, [], e => by simp [stagesL]
  | o :: r, (f, h, v) :: q, e => by
    simp only [stagesL]
    cases Nat.beq (kindA o.op) 2 with
    | true => exact List.mem_cons_of_mem _ (stages_end r q e)
    | false => exact stages_end r q e
theorem stages_at : ∀ {l : List Oper} {q : List (Fr × Heap × AV)} {e : Heap} (k : Nat) (o : Oper) (f : Fr) (H : Heap) (v : AV), l[k]? = some o → q[k]? = some (f, H, v) → kindA o.op = 2 → H ∈ stagesL l q e
  | [], q, e, k, o, f, H, v, hi, _, _ => by simp at hi
  | _ :: _, [], e, k, o, f, H, v, _, hq, _ => by simp at hq
  | o' :: r, (f', h1, v') :: q, e, k, o, f, H, v, hi, hq, hk => by
    simp only [stagesL]
    cases k with
    | zero =>
      simp at hi hq
      subst hi
      obtain ⟨rfl, rfl, rfl⟩ := hq
      rw [hk]; exact List.mem_cons_self
    | succ k =>
      have := stages_at (e := e) k o f H v (by simpa using hi) (by simpa using hq) hk
      cases Nat.beq (kindA o'.op) 2 with
      | true => exact List.mem_cons_of_mem _ this
      | false => exact this
theorem stEq_eq {a b : BState} (h : stEq a b = true) : a = b := by
  cases a <;> cases b <;> first | rfl | (simp [stEq] at h; done) | (simp only [stEq] at h; rw [Nat.eq_of_beq_eq_true h])
theorem blkEq_eq : ∀ {a b : Option Blk}, blkEq a b = true → a = b
  | some (.row cs st), some (.row cs' st'), h => by
    simp only [blkEq, Bool.and_eq_true] at h
    have h1 := eqV_eq _ _ h.1
    have h2 := stEq_eq h.2
    simp only [AV.agg.injEq] at h1
    rw [h1, h2]
  | none, none, _ => rfl
  | none, some _, h => by simp [blkEq] at h
  | some (.row _ _), none, h => by simp [blkEq] at h
  | some (.map _ _), _, h => by simp [blkEq] at h
  | some (.siter _ _), _, h => by simp [blkEq] at h
  | some (.row _ _), some (.map _ _), h => by simp [blkEq] at h
  | some (.row _ _), some (.siter _ _), h => by simp [blkEq] at h
theorem same_ok {ops : List Oper} {recs : List (Fr × Heap × AV)} {h' : Heap} (h : sameXB ops recs h' = true) : SameX ops recs h' := by
  intro x m ox om b hxm hx1 hx2 hm1 hm2 hb
  have hm : m < ops.length := (List.getElem?_eq_some_iff.1 hm1).1
  have h1 := List.all_eq_true.1 h m (List.mem_range.2 hm)
  have e1 : bigAt ops m = true := by simp only [bigAt, hm1, hm2]
  rw [e1] at h1
  simp only [Bool.not_true, Bool.false_or] at h1
  have h2 := List.all_eq_true.1 h1 x (List.mem_range.2 hxm)
  have e2 : bigAt ops x = false := by simp only [bigAt, hx1, hx2]
  have e3 : Nat.beq (hpAt ops.length recs h' (x + 1)).next (hpAt ops.length recs h' x).next = false := by
    rw [hb]
    cases hq : Nat.beq ((hpAt ops.length recs h' x).push b).next (hpAt ops.length recs h' x).next with
    | false => rfl
    | true =>
      have : (hpAt ops.length recs h' x).next + 1 = (hpAt ops.length recs h' x).next := Nat.eq_of_beq_eq_true hq
      omega
  rw [e2, e3] at h2
  simp only [Bool.false_or] at h2
  exact blkEq_eq h2
theorem drawN_wp (ok : EnvOK E P) (hm : P.follows .mixedOrders = true) (hcall : CallOK P call) {nt id : Nat} {ops : Array Oper} {h : Heap} {fr' : Fr} {h' : Heap} (hd : drawN E call nt ops.toList fr h = some (fr', h'))
    {μ : Mu} {w : World} {a : Act} {Q : Exit → Act → World → Prop} (hr : HR μ h w) (ha : AR μ nt fr a) (hq : ∀ μ' a' w', AR μ' nt fr' a' → HR μ' h' w' → Ext μ h w μ' h' w' → Q .normal a' w') : (Code.region id ops true).wp P Q a w := by
  unfold drawN at hd
  cases hob : orderB ops.toList with
  | true =>
    rw [hob, cond_true] at hd
    exact drawI_wp ok hm hcall hd hr ha hq
  | false =>
    rw [hob, cond_false] at hd
    unfold drawX at hd
    cases ht : traceA E call nt (permO (frontL ops.toList) ops.toList) (permO (frontL ops.toList) ops.toList) fr h with
    | none => simp [ht] at hd
    | some p =>
      obtain ⟨l, fr1, h1⟩ := p
      simp only [ht] at hd
      cases hb : (permB (frontL ops.toList) ops.toList && orderX (permO (frontL ops.toList) ops.toList) && stableB E call (permO (frontL ops.toList) ops.toList) (stagesL (permO (frontL ops.toList) ops.toList) l h1) (permO (frontL ops.toList) ops.toList) l && sameXB (permO (frontL ops.toList) ops.toList) l h1) with
      | false => simp [hb] at hd
      | true =>
        simp only [hb, cond_true, Option.some.injEq, Prod.mk.injEq] at hd
        obtain ⟨rfl, rfl⟩ := hd
        simp only [Bool.and_eq_true] at hb
        obtain ⟨⟨⟨b1, b2⟩, b3⟩, b4⟩ := hb
        refine perm_wp hm b1 ?_
        refine drawX_wp (ops := (permO (frontL ops.toList) ops.toList).toArray) (recs := l) (fr' := fr1) (h' := h1) ok hcall (by simpa using ht) (by simpa using b2) ?_ (by simpa using same_ok b4) hr ha hq
        intro i o f hh v hi hrec hk k Hk hst
        have hi' : (permO (frontL ops.toList) ops.toList)[i]? = some o := by simpa using hi
        have hmem : Hk ∈ stagesL (permO (frontL ops.toList) ops.toList) l h1 := by
          rcases hst with ⟨o', f', v', g1, g2, g3⟩ | ⟨_, rfl⟩
          · exact stages_at k o' f' Hk v' (by simpa using g1) g3 g2
          · exact stages_end _ _ _
        have := stable_recs b3 i o f hh v hi' hrec hk Hk hmem
        simpa using this
end
end Go.Proofs.YtjeaammlambkeaaDoor.Ai

namespace Go.Proofs.YtjeaammlambkeaaDoor.Ai
section
variable {E : Env} {P : Program}
def exitOf : Out → Exit
  | .norm => .normal
  | .exit id => .exit id
  | .ret => .ret
/-- what a piece of code comes to -/
def CodeOK (nt : Nat) (fr : Fr) (h : Heap) (out : Out) (fr' : Fr) (h' : Heap) (K : (Exit → Act → World → Prop) → Act → World → Prop) : Prop :=
  ∀ (μ : Mu) (w : World) (a : Act) (Q : Exit → Act → World → Prop), HR μ h w → AR μ nt fr a → (∀ μ' a' w', AR μ' nt fr' a' → HR μ' h' w' → Ext μ h w μ' h' w' → Q (exitOf out) a' w') → K Q a w

theorem evC_sound (ok : EnvOK E P) (hm : P.follows .mixedOrders = true) {call : CallF} (hcall : CallOK P call) {nt N : Nat} {loop : Ev}
    (hloop : ∀ c fr h out fr' h', loop (.loop c) fr h = some (out, fr', h') → CodeOK nt fr h out fr' h' (fun Q a w => Code.rounds P c Q N a w)) :
    ∀ (c : Code) (fr : Fr) (h : Heap) (out : Out) (fr' : Fr) (h' : Heap), evC E call nt loop c fr h = some (out, fr', h') → CodeOK nt fr h out fr' h' (fun Q a w => c.wp P Q a w) := by
  intro c
  induction c with
  | skip =>
    intro fr h out fr' h' hx μ w a Q hr ha hq
    simp only [evC, Option.some.injEq, Prod.mk.injEq] at hx
    obtain ⟨rfl, rfl, rfl⟩ := hx
    exact wp_skip (hq μ a w ha hr (Ext.refl μ h w))
  | region id ops draw =>
    intro fr h out fr' h' hx μ w a Q hr ha hq
    simp only [evC] at hx
    cases draw with
    | true =>
      simp only [cond_true] at hx
      cases hd : drawN E call nt ops.toList fr h with
      | none => simp [hd] at hx
      | some p =>
        obtain ⟨fr1, h1⟩ := p
        simp only [hd, Option.some.injEq, Prod.mk.injEq] at hx
        obtain ⟨rfl, rfl, rfl⟩ := hx
        exact drawN_wp ok hm hcall hd hr ha hq
    | false =>
      simp only [cond_false] at hx
      cases hd : evOps E call nt ops.toList ops.toList fr h with
      | none => simp [hd] at hx
      | some p =>
        obtain ⟨fr1, h1⟩ := p
        simp only [hd, Option.some.injEq, Prod.mk.injEq] at hx
        obtain ⟨rfl, rfl, rfl⟩ := hx
        refine wp_region ?_
        rw [List.range_eq_range']
        exact evOps_wp ok hcall ops.size 0 μ h w fr a fr1 h1 (by omega) (by simpa using hd) hr ha hq
  | seq x y ihx ihy =>
    intro fr h out fr' h' hx μ w a Q hr ha hq
    simp only [evC] at hx
    cases h1 : evC E call nt loop x fr h with
    | none => simp [h1] at hx
    | some p =>
      obtain ⟨o1, fr1, hh1⟩ := p
      refine wp_seq (ihx fr h o1 fr1 hh1 h1 μ w a _ hr ha ?_)
      intro μ' a' w' ha' hr' hext
      cases o1 with
      | norm =>
        simp only [h1] at hx
        exact ihy fr1 hh1 out fr' h' hx μ' w' a' Q hr' ha' fun μ2 a2 w2 ha2 hr2 hext2 => hq μ2 a2 w2 ha2 hr2 (Ext.trans hr hext hext2)
      | exit id =>
        simp only [h1, Option.some.injEq, Prod.mk.injEq] at hx
        obtain ⟨rfl, rfl, rfl⟩ := hx
        exact hq μ' a' w' ha' hr' hext
      | ret =>
        simp only [h1, Option.some.injEq, Prod.mk.injEq] at hx
        obtain ⟨rfl, rfl, rfl⟩ := hx
        exact hq μ' a' w' ha' hr' hext
  | cond c x y ihx ihy =>
    intro fr h out fr' h' hx μ w a Q hr ha hq
    simp only [evC] at hx
    split at hx
    · rename_i b hb
      have hv := opnd_sound ha hb
      simp only [VR] at hv
      refine wp_cond hv ?_
      cases b with
      | true => simp only [cond_true] at hx; exact ihx fr h out fr' h' hx μ w a Q hr ha hq
      | false => simp only [cond_false] at hx; exact ihy fr h out fr' h' hx μ w a Q hr ha hq
    · simp at hx
  | block id c ih =>
    intro fr h out fr' h' hx μ w a Q hr ha hq
    simp only [evC] at hx
    cases h1 : evC E call nt loop c fr h with
    | none => simp [h1] at hx
    | some p =>
      obtain ⟨o1, fr1, hh1⟩ := p
      refine wp_block (ih fr h o1 fr1 hh1 h1 μ w a _ hr ha ?_)
      intro μ' a' w' ha' hr' hext
      cases o1 with
      | norm =>
        simp only [h1, Option.some.injEq, Prod.mk.injEq] at hx
        obtain ⟨rfl, rfl, rfl⟩ := hx
        exact hq μ' a' w' ha' hr' hext
      | exit id' =>
        simp only [h1] at hx
        cases hb : Nat.beq id' id with
        | true =>
          simp only [hb, cond_true, Option.some.injEq, Prod.mk.injEq] at hx
          obtain ⟨rfl, rfl, rfl⟩ := hx
          have : id' = id := Nat.eq_of_beq_eq_true hb
          simp only [exitOf, Exit.inBlock, this, if_true]
          exact hq μ' a' w' ha' hr' hext
        | false =>
          simp only [hb, cond_false, Option.some.injEq, Prod.mk.injEq] at hx
          obtain ⟨rfl, rfl, rfl⟩ := hx
          have : id' ≠ id := fun e => by rw [bt e] at hb; cases hb
          simp only [exitOf, Exit.inBlock, this, if_false]
          exact hq μ' a' w' ha' hr' hext
      | ret =>
        simp only [h1, Option.some.injEq, Prod.mk.injEq] at hx
        obtain ⟨rfl, rfl, rfl⟩ := hx
        exact hq μ' a' w' ha' hr' hext
  | loop c ih =>
    intro fr h out fr' h' hx μ w a Q hr ha hq
    simp only [evC] at hx
    cases h1 : evC E call nt loop c fr h with
    | none => simp [h1] at hx
    | some p =>
      obtain ⟨o1, fr1, hh1⟩ := p
      refine wp_loop_rounds (N + 1) ?_
      rw [rounds_succ]
      refine ih fr h o1 fr1 hh1 h1 μ w a _ hr ha ?_
      intro μ' a' w' ha' hr' hext
      cases o1 with
      | norm =>
        simp only [h1] at hx
        exact hloop c fr1 hh1 out fr' h' hx μ' w' a' Q hr' ha' fun μ2 a2 w2 ha2 hr2 hext2 => hq μ2 a2 w2 ha2 hr2 (Ext.trans hr hext hext2)
      | exit id =>
        simp only [h1, Option.some.injEq, Prod.mk.injEq] at hx
        obtain ⟨rfl, rfl, rfl⟩ := hx
        exact hq μ' a' w' ha' hr' hext
      | ret =>
        simp only [h1, Option.some.injEq, Prod.mk.injEq] at hx
        obtain ⟨rfl, rfl, rfl⟩ := hx
        exact hq μ' a' w' ha' hr' hext
  | exit id =>
    intro fr h out fr' h' hx μ w a Q hr ha hq
    simp only [evC, Option.some.injEq, Prod.mk.injEq] at hx
    obtain ⟨rfl, rfl, rfl⟩ := hx
    exact wp_exit (hq μ a w ha hr (Ext.refl μ h w))
  | ret =>
    intro fr h out fr' h' hx μ w a Q hr ha hq
    simp only [evC, Option.some.injEq, Prod.mk.injEq] at hx
    obtain ⟨rfl, rfl, rfl⟩ := hx
    exact wp_ret (hq μ a w ha hr (Ext.refl μ h w))
  | scope c ih =>
    intro fr h out fr' h' hx μ w a Q hr ha hq
    simp only [evC] at hx
    refine wp_scope_straight (ih fr h out fr' h' hx μ w a _ hr ha ?_)
    intro μ' a' w' ha' hr' hext
    have := hq μ' a' w' ha' hr' hext
    cases out <;> exact this
  | label l =>
    intro fr h out fr' h' hx μ w a Q hr ha hq
    simp only [evC, Option.some.injEq, Prod.mk.injEq] at hx
    obtain ⟨rfl, rfl, rfl⟩ := hx
    exact wp_label (hq μ a w ha hr (Ext.refl μ h w))
  | rangeFunc => intro fr h out fr' h' hx; simp [evC] at hx
  | goto => intro fr h out fr' h' hx; simp [evC] at hx
  | refuse => intro fr h out fr' h' hx; simp [evC] at hx

/-- what is answered in another way than by the function's own text -/
def NativeOK (E : Env) (P : Program) : Prop := ∀ f g, E.native f = some g → ∀ args h v h', g args h = some (v, h') → ∀ μ w (args' : Array Value), HR μ h w → VRs μ args args'.toList →
  (∃ u w', (callFunc f args').run P w = .ok (.value u) w' ∧ Post μ h w v h' u w') ∨
  ((callFunc f args').run P w = .ok (.enter f args') w ∧ Calls P f args' w fun e w' => ∃ u, e = .returned u ∧ Post μ h w v h' u w')

theorem initFr_get : ∀ (args : List AV) (i : Nat) (fr : Fr) (t : Nat) (v : AV), (initFr i args fr).get t = some v → (i ≤ t ∧ args[t - i]? = some v) ∨ fr.get t = some v
  | [], i, fr, t, v, h => .inr h
  | x :: r, i, fr, t, v, h => by
    simp only [initFr] at h
    rcases initFr_get r (i + 1) _ t v h with ⟨h1, h2⟩ | h1
    · refine .inl ⟨by omega, ?_⟩
      rw [show t - i = (t - (i + 1)) + 1 from by omega]; simpa using h2
    · rcases Tr.get_set h1 with ⟨rfl, rfl⟩ | ⟨_, h2⟩
      · exact .inl ⟨Nat.le_refl _, by simp⟩
      · exact .inr h2

theorem results_sound (ok : EnvOK E P) {μ : Mu} {h : Heap} {w : World} {nt : Nat} {fr : Fr} {a : Act} (hr : HR μ h w) (ha : AR μ nt fr a) {g : ResultVar → Sem Value} (hg1 : ∀ t, g (.tmp t) = pure (a.tmps.getD t undef))
    (hg2 : ∀ x t, g (.cell x t) = (do loadVar t (← asAddr (a.tmps.getD x undef)))) : ∀ {l : List ResultVar} {vs : List AV}, resultsA E fr h l = some vs → ∃ us : List Value, (l.mapM g).run P w = .ok us w ∧ VRs μ vs us
  | [], vs, hx => by simp [resultsA] at hx; subst hx; exact ⟨[], rfl, VRs.nil⟩
  | .tmp t :: r, vs, hx => by
    simp only [resultsA] at hx
    cases hg : fr.get t with
    | none => simp [hg] at hx
    | some v =>
      cases hl : resultsA E fr h r with
      | none => simp [hg, hl] at hx
      | some l =>
        simp only [hg, hl, Option.some.injEq] at hx
        subst hx
        obtain ⟨us, h1, h2⟩ := results_sound ok hr ha hg1 hg2 hl
        refine ⟨a.tmps.getD t undef :: us, ?_, VRs.cons (ha.slot t v hg) h2⟩
        rw [List.mapM_cons]
        rw [hg1]
        refine (run_bind_ok (P := P) (a := a.tmps.getD t undef) (w' := w) rfl).trans ?_
        exact (run_bind_ok (P := P) h1).trans rfl
  | .cell x t :: r, vs, hx => by
    simp only [resultsA] at hx
    cases hg : fr.get x with
    | none => simp [hg] at hx
    | some v =>
      simp only [hg] at hx
      cases hld : loadA E h t v with
      | none => simp [hld] at hx
      | some y =>
        cases hl : resultsA E fr h r with
        | none => simp [hld, hl] at hx
        | some l =>
          simp only [hld, hl, Option.some.injEq] at hx
          subst hx
          obtain ⟨us, h1, h2⟩ := results_sound ok hr ha hg1 hg2 hl
          obtain ⟨ad, u, h3, h4, h5⟩ := loadVar_sound (P := P) ok hr (ha.slot x v hg) hld
          refine ⟨u :: us, ?_, VRs.cons h5 h2⟩
          rw [List.mapM_cons, hg2]
          refine (run_bind_ok (P := P) (a := u) (w' := w) ?_).trans ?_
          · rw [h3]
            exact (run_bind_ok (P := P) (a := ad) (w' := w) rfl).trans h4
          · exact (run_bind_ok (P := P) h1).trans rfl

theorem call_sound (ok : EnvOK E P) (hm : P.follows .mixedOrders = true) (hnat : NativeOK E P) : ∀ n, CallOK P (callA E (ev E n)) ∧
    ∀ (nt : Nat) c fr h out fr' h', ev E n nt (.loop c) fr h = some (out, fr', h') → CodeOK nt fr h out fr' h' (fun Q a w => Code.rounds P c Q n a w) := by
  -- a call, of codes that are right
  have key : ∀ (evn : Nat → Ev), (∀ (nt : Nat) c fr h out fr' h', evn nt c fr h = some (out, fr', h') → CodeOK nt fr h out fr' h' (fun Q a w => c.wp P Q a w)) → CallOK P (callA E evn) := by
    intro evn hev f args h v h' hx μ w args' hr hv
    unfold callA at hx
    cases hn : E.native f with
    | some g => simp only [hn] at hx; exact hnat f g hn args h v h' hx μ w args' hr hv
    | none =>
      simp only [hn] at hx
      cases hf : E.fn f with
      | none => simp [hf] at hx
      | some fn =>
        simp only [hf] at hx
        obtain ⟨hfp, hname⟩ := ok.fn f fn hf
        cases hb : fn.body with
        | none => simp [hb] at hx
        | some c =>
          simp only [hb] at hx
          cases hle : Nat.ble args.length fn.ntmps with
          | false => simp [hle] at hx
          | true =>
            simp only [hle, cond_true] at hx
            have hle' : args.length ≤ fn.ntmps := by simpa using hle
            refine .inr ⟨?_, ?_⟩
            · unfold callFunc
              refine (run_bind_ok (P := P) (a := P) (w' := w) rfl).trans ?_
              rw [hfp]
              simp only [hname, Bool.false_eq_true, if_false, hb, Option.isNone_some]
              rfl
            · refine calls_of_wp hfp hb ?_
              unfold finishA at hx
              split at hx
              · simp at hx
              · rename_i out fr1 h1 hne hev1
                have hargs : args'.size = args.length := by simpa using hv.length
                refine hev fn.ntmps c _ h out fr1 h1 hev1 μ w _ _ hr ?_ ?_
                · refine ⟨fun t x hx => ?_, by simp [hargs]; omega, rfl⟩
                  rcases initFr_get args 0 .nil t x hx with ⟨_, h2⟩ | h2
                  · obtain ⟨y, h3, h4⟩ := hv.get h2
                    have h3' : args'[t]? = some y := by simpa using h3
                    have hlt : t < args'.size := (Array.getElem?_eq_some_iff.1 h3').1
                    have : (args' ++ Array.replicate (fn.ntmps - args'.size) undef).getD t undef = y := by
                      simp only [Array.getD_eq_getD_getElem?]
                      rw [Array.getElem?_append_left hlt, h3']; rfl
                    rw [this]; exact h4
                  · simp [Tr.get_nil] at h2
                · intro μ' a' w' ha' hr' hext
                  have hres : (exitOf out = .normal ∨ exitOf out = .ret) := by
                    cases out with
                    | norm => exact .inl rfl
                    | ret => exact .inr rfl
                    | exit id => exact (hne id rfl).elim
                  have hfin : a'.defers = [] ∧ ∃ u, (results fn a'.tmps).run P w' = .ok u w' ∧ ∃ u', Ending.returned u = .returned u' ∧ Post μ h w v h' u' w' := by
                    refine ⟨ha'.defers, ?_⟩
                    cases hrs : resultsA E fr1 h1 fn.results.toList with
                    | none => simp [hrs] at hx
                    | some vs =>
                      obtain ⟨us, g1, g2⟩ := results_sound (P := P) (g := fun | .tmp t => pure (a'.tmps.getD t undef) | .cell a t => do loadVar t (← asAddr (a'.tmps.getD a undef))) ok hr' ha' (fun _ => rfl) (fun _ _ => rfl) hrs
                      have hrun : ∀ (r : Value), (if hs : us.toArray.size = 1 then us.toArray[0] else .tuple us.toArray) = r → (results fn a'.tmps).run P w' = .ok r w' := by
                        intro r hr0
                        have hmap : (fn.results.mapM (fun | .tmp t => pure (a'.tmps.getD t undef) | .cell a t => do loadVar t (← asAddr (a'.tmps.getD a undef)) : ResultVar → Sem Value)).run P w' = .ok us.toArray w' := by
                          rw [Array.mapM_eq_mapM_toList, Sem.run_map, g1]; rfl
                        unfold results
                        exact (run_bind_ok (P := P) hmap).trans (by rw [← hr0]; rfl)
                      have hul := g2.length
                      simp only [hrs] at hx
                      split at hx
                      · rename_i x hvs
                        simp only [Option.some.injEq] at hvs
                        subst hvs
                        simp only [Option.some.injEq, Prod.mk.injEq] at hx
                        obtain ⟨rfl, rfl⟩ := hx
                        simp only [VRs] at g2
                        obtain ⟨y, ys, rfl, g3, rfl⟩ := g2
                        exact ⟨y, hrun y (by simp), y, rfl, μ', g3, hr', hext⟩
                      · rename_i vs' hne' hvs
                        simp only [Option.some.injEq] at hvs
                        subst hvs
                        simp only [Option.some.injEq, Prod.mk.injEq] at hx
                        obtain ⟨rfl, rfl⟩ := hx
                        have hn1 : us.toArray.size ≠ 1 := by
                          intro e
                          have : vs.length = 1 := by rw [← hul]; simpa using e
                          obtain ⟨z, rfl⟩ := List.length_eq_one_iff.1 this
                          exact hne' z rfl
                        exact ⟨.tuple us.toArray, hrun _ (by rw [dif_neg hn1]), _, rfl, μ', by simp only [VR]; exact ⟨_, rfl, by simpa using g2⟩, hr', hext⟩
                      · rename_i hvs; simp at hvs
                  rcases hres with e | e <;> rw [e] <;> exact hfin
              · simp at hx
  intro n
  induction n with
  | zero =>
    refine ⟨key _ (fun nt c fr h out fr' h' hx => by simp [ev] at hx), fun nt c fr h out fr' h' hx => by simp [ev] at hx⟩
  | succ n ih =>
    have hcode : ∀ (nt : Nat) c fr h out fr' h', ev E (n + 1) nt c fr h = some (out, fr', h') → CodeOK nt fr h out fr' h' (fun Q a w => c.wp P Q a w) := by
      intro nt c fr h out fr' h' hx
      exact evC_sound ok hm ih.1 (ih.2 nt) c fr h out fr' h' hx
    refine ⟨key _ hcode, ?_⟩
    intro nt c fr h out fr' h' hx μ w a Q hr ha hq
    simp only [ev, evC] at hx
    rw [rounds_succ]
    cases h1 : evC E (callA E (ev E n)) nt (ev E n nt) c fr h with
    | none => simp [h1] at hx
    | some p =>
      obtain ⟨o1, fr1, hh1⟩ := p
      refine evC_sound ok hm ih.1 (ih.2 nt) c fr h o1 fr1 hh1 h1 μ w a _ hr ha ?_
      intro μ' a' w' ha' hr' hext
      cases o1 with
      | norm =>
        simp only [h1] at hx
        exact ih.2 nt c fr1 hh1 out fr' h' hx μ' w' a' Q hr' ha' fun μ2 a2 w2 ha2 hr2 hext2 => hq μ2 a2 w2 ha2 hr2 (Ext.trans hr hext hext2)
      | exit id =>
        simp only [h1, Option.some.injEq, Prod.mk.injEq] at hx
        obtain ⟨rfl, rfl, rfl⟩ := hx
        exact hq μ' a' w' ha' hr' hext
      | ret =>
        simp only [h1, Option.some.injEq, Prod.mk.injEq] at hx
        obtain ⟨rfl, rfl, rfl⟩ := hx
        exact hq μ' a' w' ha' hr' hext

/-- THE EVALUATOR IS RIGHT: what it answers is what the machine comes to -/
theorem evCall_sound (ok : EnvOK E P) (hm : P.follows .mixedOrders = true) (hnat : NativeOK E P) {n : Nat} {f : FuncId} {fn : Func} (hf : E.fn f = some fn) (hb : fn.body.isSome = true) {args : List AV} {h : Heap} {v : AV} {h' : Heap} (hx : evCall E n f args h = some (v, h')) {μ : Mu} {w : World} {args' : Array Value}
    (hr : HR μ h w) (hv : VRs μ args args'.toList) : Calls P f args' w fun e w' => ∃ u, e = .returned u ∧ Post μ h w v h' u w' := by
  obtain ⟨hfp, hname⟩ := ok.fn f fn hf
  rcases (call_sound ok hm hnat n).1 f args h v h' hx μ w args' hr hv with ⟨u, w', h1, _⟩ | ⟨_, h2⟩
  · exfalso
    have : (callFunc f args').run P w = .ok (.enter f args') w := by
      unfold callFunc
      refine (run_bind_ok (P := P) (a := P) (w' := w) rfl).trans ?_
      rw [hfp]
      have hbn : fn.body.isNone = false := by cases hh : fn.body <;> simp_all
      simp only [hname, Bool.false_eq_true, if_false, hbn]
      rfl
    rw [this] at h1
    simp at h1
  · exact h2
end
end Go.Proofs.YtjeaammlambkeaaDoor.Ai

namespace Go.Proofs.YtjeaammlambkeaaDoor.Ai
open Go.RowKit (Below)
theorem ofArr_go {α : Type} : ∀ (l : List α) (p : Tr α × Nat) (t : Nat) (x : α), ((l.foldl (fun (p : Tr α × Nat) x => (p.1.set p.2 x, p.2 + 1)) p).1).get t = some x → (p.2 ≤ t ∧ l[t - p.2]? = some x) ∨ p.1.get t = some x
  | [], p, t, x, h => .inr h
  | y :: r, p, t, x, h => by
    simp only [List.foldl_cons] at h
    rcases ofArr_go r _ t x h with ⟨h1, h2⟩ | h1
    · refine .inl ⟨by simp at h1; omega, ?_⟩
      simp at h1 h2
      rw [show t - p.2 = (t - (p.2 + 1)) + 1 from by omega]; simpa using h2
    · rcases Tr.get_set h1 with ⟨rfl, rfl⟩ | ⟨_, h2⟩
      · exact .inl ⟨Nat.le_refl _, by simp⟩
      · exact .inr h2
theorem ofArr_get {α : Type} {l : List α} {t : Nat} {x : α} (h : (ofArr l).get t = some x) : l[t]? = some x := by
  rcases ofArr_go l (Tr.nil, 0) t x h with ⟨_, h1⟩ | h1
  · simpa using h1
  · simp [Tr.get_nil] at h1

/-- a program's evaluator: 'cmp': the struct and array types that are compared -/
def envOf (P : Program) (cmp : List TypeId) (native : FuncId → Option (List AV → Heap → Option (AV × Heap))) : Env :=
  { info := (ofArr P.types.toList).get, fn := (ofArr P.funcs.toList).get, native, cmp := fun t => memL t cmp, trk := fun t => memL (1000000 + t) cmp, lies := fun e off u => liesAt P P.depth e 1 off u 1 }
theorem envOf_ok {P : Program} {cmp : List TypeId} {native : FuncId → Option (List AV → Heap → Option (AV × Heap))} (hn : (P.funcs.toList.all fun f => !(f.name == "runtime.NumGoroutine")) = true)
    (hc : (cmp.all fun t => !P.stoodInHeld t && !P.eqGuardType P.depth t) = true) : EnvOK (envOf P cmp native) P where
  info := by
    intro t i h
    have h1 := ofArr_get h
    have h2 : P.types[t]? = some i := by simpa using h1
    have hlt : t < P.types.size := (Array.getElem?_eq_some_iff.1 h2).1
    unfold Tables.info?
    rw [if_pos hlt]; exact h2
  fn := by
    intro f fn h
    have h1 := ofArr_get h
    refine ⟨by simpa using h1, ?_⟩
    have := List.all_eq_true.1 hn fn (List.mem_of_getElem? h1)
    simpa using this
  cmp := by
    intro t h
    have := List.all_eq_true.1 hc t (memL_iff.1 h)
    simpa using this
  lies := fun _ _ _ h => h

def noNative : FuncId → Option (List AV → Heap → Option (AV × Heap)) := fun _ => none
theorem noNative_ok {P : Program} {cmp : List TypeId} : NativeOK (envOf P cmp noNative) P := by
  intro f g h; cases h

def emptyH : Heap := { t := .nil, next := 0 }
theorem emptyHR (w : World) : HR (fun _ => none) emptyH w := ⟨fun _ _ h => (by cases h), fun _ _ _ _ _ _ h => (by cases h), fun _ _ _ h => (by cases h), fun _ h => (by cases h)⟩
theorem Ext.below {h : Heap} {w w' : World} {μ' : Mu} {h' : Heap} (hx : Ext (fun _ => none) h w μ' h' w') : Below w.heap.size w w' :=
  ⟨hx.os, hx.tape, hx.output, hx.size, fun k hk => hx.frame k hk fun A l hA => (by cases hA)⟩

def isTrueA : Option (AV × Heap) → Bool
  | some (.bool b, _) => b
  | _ => false
/-- A CALL WITHOUT ARGUMENTS (OF NUMBERS, TEXTS) THAT THE EVALUATOR SAYS IS TRUE -/
theorem calls_true {E : Env} {P : Program} (ok : EnvOK E P) (hm : P.follows .mixedOrders = true) (hnat : NativeOK E P) {n : Nat} {f : FuncId} {fn : Func} (hf : E.fn f = some fn) (hb : fn.body.isSome = true) {args : List AV} {args' : Array Value}
    (hv : VRs (fun _ => none) args args'.toList) (hx : isTrueA (evCall E n f args emptyH) = true) (w : World) : Calls P f args' w fun e w' => e = .returned (.bool true) ∧ Below w.heap.size w w' := by
  cases hr : evCall E n f args emptyH with
  | none => rw [hr] at hx; cases hx
  | some p =>
    obtain ⟨v, h'⟩ := p
    rw [hr] at hx
    cases v <;> simp only [isTrueA, Bool.false_eq_true] at hx
    subst hx
    refine (evCall_sound ok hm hnat hf hb hr (emptyHR w) hv).mono ?_
    rintro e w' ⟨u, rfl, μ', h1, _, h3⟩
    simp only [VR] at h1
    exact ⟨by rw [h1], h3.below⟩
end Go.Proofs.YtjeaammlambkeaaDoor.Ai

namespace Go.Proofs.YtjeaammlambkeaaDoor.Ai
open Go.WideShapes Go.ChangeShapes
open Go.RowKit (Below)
variable {H : Type} {enc : TypeId × Value → H} {P : Program}
/-- A call that leaves what was there as it was, and whose arguments read behind it as ahead of it: what a row asks. -/
theorem post_of_below {f : Func} {s : ChangeSpec} {apart fresh handsOn again : Bool} {W W' : World} {args : Array Value} {v : Value} {ds gs : List (DataW H)} {before pa pv : List MemPlace}
    (hW : DataW.Whole enc P f.params.toList s.vars apart W args.toList ds gs before)
    (hres : ∀ (b : Nat) (sp : Nat → Bool) (hd : Bool), DataW.TrodAll enc P W' b sp hd f.resultTypes.toList (v.resultList f.resultTypes.size) (s.fn H (ds ++ gs)).results [])
    (hargs : ∀ sp : Nat → Bool, (∀ p ∈ before, sp p.block = true) → DataW.TrodAll enc P W' 0 sp true f.params.toList args.toList (s.fn H (ds ++ gs)).args pa)
    (hvars : ∀ sp : Nat → Bool, (∀ p ∈ before, sp p.block = true) → DataW.TrodVars enc P W' sp s.vars (s.fn H (ds ++ gs)).vars pv)
    (hps : before = pa ++ pv) (hb : Below W.heap.size W W')
    (hok : ∀ (j : Nat) (t : TypeId) (r : Value), f.resultTypes[j]? = some t → (v.resultList f.resultTypes.size)[j]? = some r → Value.okWide P W' .any 0 t r) :
    s.post enc P f apart fresh handsOn again W args v W' := by
  have hold : ∀ p ∈ before, (fun b => decide (b < W.heap.size)) p.block = true := fun p hp => by simpa using hW.lt p hp
  have hk : W.keptBut W' (· ∈ before) := hb.frame _
  have hlt := hW.lt
  refine ⟨ds, gs, before, [], pa, pv, hW, hres _ _ _, hargs _ hold, hvars _ hold, World.keptBut_mono (fun p hp => ⟨hp, ?_⟩) hk, fun _ => ?_⟩
  · rw [hps, List.mem_append] at hp
    exact Or.inr hp
  · obtain ⟨_, _, _, _, _, hz, hn⟩ := hW
    refine ⟨hok, _, _, ([] ++ pa) ++ pv, ⟨[] ++ pa, pv, trodAll_append (hargs _ (fun _ _ => rfl)) (hres _ _ _), hvars _ (fun _ _ => rfl), rfl, ?_, ?_⟩, ?_⟩
    · intro b off hp
      have hp' : MemPlace.cell b off ∈ before := by rw [hps]; simpa using hp
      rw [hb.frozen (hlt _ hp')]
      exact hz b off hp'
    · intro ha
      have := hn ha
      rw [hps] at this
      simpa using this
    · intro p hp _
      rw [hps]
      simpa using hp
end Go.Proofs.YtjeaammlambkeaaDoor.Ai

namespace Go.Proofs.YtjeaammlambkeaaDoor.Ai
/-! A second evaluator, in continuation style, whose values' forms are told by types: what a function's code comes to under it is, by reckoning alone, a plain Lean function. -/
inductive CTy where
  | bool | int (k : IntKind) | str | ptr | slice | any
inductive VTy where
  | one (c : CTy) | agg (l : List CTy) | clo (g : FuncId) (l : List CTy)
inductive Ty where
  | val (v : VTy) | tup (l : List VTy)

structure SL where
  a : Option (Nat × Nat)
  len : Nat
  cap : Nat
  sz : Nat

@[reducible] def CTy.den : CTy → Type
  | .bool => Bool
  | .int _ => Int
  | .str => List UInt8
  | .ptr => Option (Nat × Nat)
  | .slice => SL
  | .any => AV
@[reducible] def dens : List CTy → Type
  | [] => Unit
  | c :: r => c.den × dens r
@[reducible] def VTy.den : VTy → Type
  | .one c => c.den
  | .agg l => dens l
  | .clo _ l => dens l
@[reducible] def vdens : List VTy → Type
  | [] => Unit
  | c :: r => c.den × vdens r
@[reducible] def Ty.den : Ty → Type
  | .val v => v.den
  | .tup l => vdens l

def CTy.to : (c : CTy) → c.den → AV
  | .bool, b => .bool b
  | .int k, n => .int k n
  | .str, s => .str s
  | .ptr, p => .ptr p
  | .slice, s => .slice s.a s.len s.cap s.sz
  | .any, v => v
def CTy.tos : (l : List CTy) → dens l → List AV
  | [], _ => []
  | c :: r, x => c.to x.1 :: CTy.tos r x.2
def VTy.to : (v : VTy) → v.den → AV
  | .one c, x => c.to x
  | .agg l, x => .agg (CTy.tos l x)
  | .clo g l, x => .func (.func g) [] (CTy.tos l x)
def VTy.tos : (l : List VTy) → vdens l → List AV
  | [], _ => []
  | c :: r, x => c.to x.1 :: VTy.tos r x.2
def Ty.to : (t : Ty) → t.den → AV
  | .val v, x => v.to x
  | .tup l, x => .tuple (VTy.tos l x)

def CTy.cast {β : Type} : (c : CTy) → AV → (c.den → Option β) → Option β
  | .bool, v, K => match v with
    | .bool b => K b
    | _ => none
  | .int k, v, K => match v with
    | .int k' n => bif eqKind k' k then K n else none
    | _ => none
  | .str, v, K => match v with
    | .str s => K s
    | _ => none
  | .ptr, v, K => match v with
    | .ptr p => K p
    | _ => none
  | .slice, v, K => match v with
    | .slice a l c s => K ⟨a, l, c, s⟩
    | _ => none
  | .any, v, K => K v
def CTy.casts {β : Type} : (l : List CTy) → List AV → (dens l → Option β) → Option β
  | [], vs, K => match vs with
    | [] => K ()
    | _ => none
  | c :: r, vs, K => match vs with
    | v :: vs => c.cast v fun x => CTy.casts r vs fun xs => K (x, xs)
    | _ => none
def VTy.cast {β : Type} : (c : VTy) → AV → (c.den → Option β) → Option β
  | .one c, v, K => c.cast v K
  | .agg l, v, K => match v with
    | .agg cs => CTy.casts l cs K
    | _ => none
  | .clo g l, v, K => match v with
    | .func (.func g') [] cs => bif Nat.beq g' g then CTy.casts l cs K else none
    | _ => none
def VTy.casts {β : Type} : (l : List VTy) → List AV → (vdens l → Option β) → Option β
  | [], vs, K => match vs with
    | [] => K ()
    | _ => none
  | c :: r, vs, K => match vs with
    | v :: vs => c.cast v fun x => VTy.casts r vs fun xs => K (x, xs)
    | _ => none
def Ty.cast {β : Type} : (c : Ty) → AV → (c.den → Option β) → Option β
  | .val c, v, K => c.cast v K
  | .tup l, v, K => match v with
    | .tuple vs => VTy.casts l vs K
    | _ => none

/-! types of the program -/
def ctyD : TypeDesc → CTy
  | .bool => .bool
  | .int k => .int k
  | .string => .str
  | .pointer _ => .ptr
  | .slice _ => .slice
  | _ => .any
def repC : Nat → List CTy → List CTy
  | 0, _ => []
  | n + 1, l => l ++ repC n l
def cellsTy (E : Env) : Nat → TypeId → List CTy
  | 0, _ => []
  | d + 1, t => match E.und t with
    | some (.struct fs) => (fs.toList.map fun f => cellsTy E d f.type).flatten
    | some (.array n e) => repC n (cellsTy E d e)
    | some x => [ctyD x]
    | none => []
def vtyOf (E : Env) (t : TypeId) : VTy :=
  match E.und t with
  | some (.struct _) => .agg (cellsTy E 12 t)
  | some (.array n _) => bif Nat.ble n 16 then .agg (cellsTy E 12 t) else .one .any
  | some d => .one (ctyD d)
  | none => .one .any
def tyOf (E : Env) (t : TypeId) : Ty :=
  match E.und t with
  | some (.tuple ts) => match ts.toList with
    | [] => .val (.one .any)
    | l => .tup (l.map (vtyOf E))
  | _ => .val (vtyOf E t)

/-! calls: by typed functions -/
abbrev CallK := ∀ {β : Type}, FuncId → List AV → Heap → (AV → Heap → Option β) → Option β
def noCalls : CallK := fun _ _ _ _ => none
def bind2 {α β : Type} (x : Option (α × Heap)) (k : α → Heap → Option β) : Option β :=
  match x with
  | some (v, h) => k v h
  | none => none
def addCall (f : FuncId) (l : List VTy) (t : Ty) (F : vdens l → Heap → Option (t.den × Heap)) (C : CallK) : CallK := fun g args h k =>
  bif Nat.beq g f then VTy.casts l args fun xs => bind2 (F xs h) fun r h' => k (t.to r) h' else C g args h k

/-- is this argument that function's closure? -/
def isClo (i : Nat) (g : FuncId) (args : List AV) : Bool := match args[i]? with
  | some (.func (.func g') _ _) => Nat.beq g' g
  | _ => false
/-- the same, for one closure that is given it -/
def addCallS (f : FuncId) (sel : List AV → Bool) (l : List VTy) (t : Ty) (F : vdens l → Heap → Option (t.den × Heap)) (C : CallK) : CallK := fun g args h k =>
  bif Nat.beq g f then (bif sel args then VTy.casts l args fun xs => bind2 (F xs h) fun r h' => k (t.to r) h' else C g args h k) else C g args h k
def bindV {β : Type} (t : Ty) (x : Option AV) (K : t.den → Option β) : Option β :=
  match x with
  | some v => t.cast v K
  | none => none
def bindT {β : Type} (t : Ty) (x : Option (AV × Heap)) (K : t.den → Heap → Option β) : Option β :=
  match x with
  | some (v, h) => t.cast v fun y => K y h
  | none => none
def o1 {β : Type} (fr : Fr) (x : Operand) (f : AV → Option β) : Option β :=
  match opnd fr x with
  | some v => f v
  | none => none

def need {α β : Type} (p : Option α) (K : α → Option β) : Option β :=
  match p with
  | some a => K a
  | none => none
def guardB {β : Type} (b : Bool) (k : Option β) : Option β := bif b then k else none
def Heap.cell (h : Heap) (a : Nat × Nat) : Option AV :=
  match h.row a.1 with
  | some cs => match cs.drop a.2 with
    | v :: _ => some v
    | [] => none
  | none => none
def Heap.cells (h : Heap) (a : Nat × Nat) (n : Nat) : Option AV :=
  match h.read a.1 a.2 n with
  | some l => some (.agg l)
  | none => none
def Heap.store (h : Heap) (a : Nat × Nat) (vs : List AV) : Option Heap :=
  match h.rowW a.1 with
  | some (cs, st) => match over a.2 cs vs with
    | some cs' => some (h.put a.1 (.row cs' st))
    | none => none
  | none => none
def singles : List AV → Bool
  | [] => true
  | v :: r => bif AV.single v then singles r else false
/-- an index, within a length -/
def ixK {β : Type} (a : Option (Nat × Nat)) (len : Nat) (i : Int) (n : Nat) (K : Nat × Nat → Option β) : Option β :=
  match i with
  | .ofNat j => bif Nat.blt j len then need a fun q => K (q.1, q.2 + j * n) else none
  | .negSucc _ => none
def strK {β : Type} (s : List UInt8) (i : Int) (K : Int → Option β) : Option β :=
  match i with
  | .ofNat j => match s[j]? with
    | some b => K b.toNat
    | none => none
  | .negSucc _ => none
def fieldOff (E : Env) (s : TypeId) (f : Nat) : Option Nat :=
  match E.fieldAt s f with
  | some fd => match E.size fd.type with
    | some (_ + 1) => some fd.offset
    | _ => none
  | none => none
def elemOf (E : Env) (s : TypeId) : Option (Option Nat × Nat) :=
  match E.und s with
  | some (.slice e) => match E.size e with
    | some n => some (none, n)
    | none => none
  | some (.array len e) => match E.size e with
    | some n => some (some len, n)
    | none => none
  | _ => none
def isStr (E : Env) (s : TypeId) : Bool :=
  match E.und s with
  | some .string => true
  | _ => false

def isNilO : Operand → Bool
  | .const (.pointer none) => true
  | _ => false
def ptrT (E : Env) (t : TypeId) : Bool :=
  match E.und t with
  | some (.pointer e) => match E.size e with
    | some (_ + 1) => true
    | _ => false
  | _ => false
/-- an operation but a call of a function, whose result is of type 't' -/
def opK {β : Type} (E : Env) (fr : Fr) (o : Op) (t : Ty) (h : Heap) (k : AV → Heap → Option β) : Option β :=
  match o with
  | .move x => o1 fr x fun v => k v h
  | .assign x => o1 fr x fun v => k v h
  | .load t' a => o1 fr a fun v => match v with
    | .ptr p => match E.isAgg t' with
      | some true => match E.size t' with
        | some n => need p fun q => bindV t (h.cells q n) fun y => k (t.to y) h
        | none => none
      | some false => need p fun q => bindV t (h.cell q) fun y => k (t.to y) h
      | none => none
    | _ => none
  | .nilCheck x => o1 fr x fun v => match v with
    | .ptr p => need p fun q => k (.ptr (some q)) h
    | v => bindV t (nilCheckA v) fun y => k (t.to y) h
  | .binOp op t' x y _ => o1 fr x fun v => bif isNilO y && ptrT E t' then (match v with
      | .ptr p => match op with
        | .eql => k (.bool p.isNone) h
        | .neq => k (.bool (!p.isNone)) h
        | _ => none
      | _ => none)
    else o1 fr y fun u => bindV t (binA E op t' x y v u) fun y => k (t.to y) h
  | .unOp op _ x => o1 fr x fun v => bindV t (unA op v) fun y => k (t.to y) h
  | .fieldAddr s x f => o1 fr x fun v => match v with
    | .ptr p => match fieldOff E s f with
      | some off => need p fun q => k (.ptr (some (q.1, q.2 + off))) h
      | none => none
    | _ => none
  | .field s x f => o1 fr x fun v => bindV t (fieldA E s v f) fun y => k (t.to y) h
  | .indexAddr s x ix => o1 fr x fun v => o1 fr ix fun u => match u with
    | .int _ i => match elemOf E s with
      | some (none, n) => match v with
        | .slice a len _ _ => ixK a len i n fun q => k (.ptr (some q)) h
        | _ => none
      | some (some len, n) => match v with
        | .ptr p => ixK p len i n fun q => k (.ptr (some q)) h
        | _ => none
      | none => none
    | _ => none
  | .index s x ix => o1 fr x fun v => o1 fr ix fun u => bif isStr E s then (match v, u with
      | .str z, .int _ i => strK z i fun b => k (.int .u8 b) h
      | _, _ => none)
    else bindV t (indexA E s v u) fun y => k (t.to y) h
  | .slice s x lo hi none => match optA fr lo, optA fr hi with
    | some lo, some hi => o1 fr x fun v => bindV t (sliceA E h s v lo hi) fun y => k (t.to y) h
    | _, _ => none
  | .store t' a x => o1 fr a fun v => o1 fr x fun u => match v with
    | .ptr p => match E.size t' with
      | some n => bif Nat.beq n 1 then guardB (AV.single u) (need p fun q => match h.store q [u] with
        | some h' => k undefA h'
        | none => none) else bif Nat.beq u.cells.length n then guardB (singles u.cells) (need p fun q => match h.store q u.cells with
        | some h' => k undefA h'
        | none => none) else none
      | none => none
    | _ => none
  | .typeAssert x _ t' ok => o1 fr x fun v => bindV t (assertA E v t' ok) fun y => k (t.to y) h
  | o => bindT t (opA E fr o h) fun y h' => k (t.to y) h'

def oneK {β : Type} (E : Env) (C : CallK) (fr : Fr) (o : Op) (t : Ty) (h : Heap) (k : AV → Heap → Option β) : Option β :=
  match o with
  | .call c => match c.callee with
    | .builtin b => match opnds fr c.args.toList with
      | some args => bindT t (builtinA E b c.argTypes.toList args h) fun y h' => k (t.to y) h'
      | none => none
    | _ => match tgtA E fr c h with
      | some (.fn f args) => C f args h k
      | _ => none
  | o => opK E fr o t h k

def dstTy (E : Env) (o : Oper) : Ty := match o.dst with
  | some _ => tyOf E o.type
  | none => .val (.one .any)

/-- the guard's frame slot -/
def guardSlot (ops : List Oper) (j : Nat) : Option Nat :=
  match ops[j]? with
  | some o => o.dst
  | none => none

def evOpsK {β : Type} (E : Env) (C : CallK) (nt : Nat) (ops : List Oper) : List Oper → Fr → Heap → (Fr → Heap → Option β) → Option β
  | [], fr, h, k => k fr h
  | o :: r, fr, h, k => match o.guard with
    | none => oneK E C fr o.op (dstTy E o) h fun v h' => evOpsK E C nt ops r (putD nt fr o.dst v) h' k
    | some (j, want) => match guardSlot ops j with
      | some d => match fr.get d with
        | some (.bool b) => bif b then
            (bif want then oneK E C (fr.set d (.bool true)) o.op (dstTy E o) h fun v h' => evOpsK E C nt ops r (putD nt (fr.set d (.bool true)) o.dst v) h' k
              else evOpsK E C nt ops r (putD nt (fr.set d (.bool true)) o.dst undefA) h k) else
            (bif want then evOpsK E C nt ops r (putD nt (fr.set d (.bool false)) o.dst undefA) h k
              else oneK E C (fr.set d (.bool false)) o.op (dstTy E o) h fun v h' => evOpsK E C nt ops r (putD nt (fr.set d (.bool false)) o.dst v) h' k)
        | some (.tuple []) => evOpsK E C nt ops r (putD nt fr o.dst undefA) h k
        | _ => none
      | none => none

/-! a region that draws its order, whose reads are told to be the same wherever they come -/
def sameO : Option AV → AV → Bool
  | some u, v => eqV u v
  | none, _ => false
def needB {α : Type} (p : Option α) (K : α → Bool) : Bool :=
  match p with
  | some a => K a
  | none => false
def chk1 (E : Env) (fr : Fr) (o : Op) (v : AV) (H : Heap) : Bool :=
  match o with
  | .load t a => match opnd fr a with
    | some (.ptr p) => match E.isAgg t with
      | some true => match E.size t with
        | some n => needB p fun q => sameO (H.cells q n) v
        | none => false
      | some false => needB p fun q => sameO (H.cell q) v
      | none => false
    | _ => false
  | .slice _ x _ _ none => match opnd fr x with
    | some (.slice ..) => true
    | some (.str _) => true
    | _ => false
  | .call c => match c.callee, opnds fr c.args.toList with
    | .builtin .len, some [.slice ..] => true
    | .builtin .len, some [.str _] => true
    | _, _ => false
  | _ => false
def chkHs (E : Env) (wn : Nat → Nat → Bool) (i : Nat) (fr : Fr) (o : Op) (v : AV) (z : Bool) : List (Nat × Heap) → Bool
  | [] => z
  | (k, H) :: r => bif wn i k then (bif chk1 E fr o v H then chkHs E wn i fr o v z r else false) else chkHs E wn i fr o v z r
def chkAll (E : Env) (wn : Nat → Nat → Bool) (hs : List (Nat × Heap)) : List (Nat × Fr × Op × AV) → Bool
  | [] => true
  | (i, fr, o, v) :: r => chkHs E wn i fr o v (chkAll E wn hs r) hs
def recR (i : Nat) (o : Oper) (fr : Fr) (v : AV) (rs : List (Nat × Fr × Op × AV)) : List (Nat × Fr × Op × AV) := bif Nat.beq (kindA o.op) 1 then (i, fr, o.op, v) :: rs else rs
def stgR (i : Nat) (o : Oper) (h : Heap) (hs : List (Nat × Heap)) : List (Nat × Heap) := bif Nat.beq (kindA o.op) 2 then (i, h) :: hs else hs
def evOpsR {β : Type} (E : Env) (C : CallK) (nt : Nat) (ops : List Oper) (wn : Nat → Nat → Bool) : Nat → List Oper → Fr → Heap → List (Nat × Fr × Op × AV) → List (Nat × Heap) → (Fr → Heap → Option β) → Option β
  | i, [], fr, h, rs, hs, k => guardB (chkAll E wn ((i, h) :: hs) rs) (k fr h)
  | i, o :: r, fr, h, rs, hs, k => match o.guard with
    | none => oneK E C fr o.op (dstTy E o) h fun v h' => evOpsR E C nt ops wn (i + 1) r (putD nt fr o.dst v) h' (recR i o fr v rs) (stgR i o h hs) k
    | some (j, want) => match guardSlot ops j with
      | some d => match fr.get d with
        | some (.bool b) => bif b then
            (bif want then oneK E C (fr.set d (.bool true)) o.op (dstTy E o) h fun v h' => evOpsR E C nt ops wn (i + 1) r (putD nt (fr.set d (.bool true)) o.dst v) h' (recR i o (fr.set d (.bool true)) v rs) (stgR i o h hs) k
              else evOpsR E C nt ops wn (i + 1) r (putD nt (fr.set d (.bool true)) o.dst undefA) h rs (stgR i o h hs) k) else
            (bif want then evOpsR E C nt ops wn (i + 1) r (putD nt (fr.set d (.bool false)) o.dst undefA) h rs (stgR i o h hs) k
              else oneK E C (fr.set d (.bool false)) o.op (dstTy E o) h fun v h' => evOpsR E C nt ops wn (i + 1) r (putD nt (fr.set d (.bool false)) o.dst v) h' (recR i o (fr.set d (.bool false)) v rs) (stgR i o h hs) k)
        | some (.tuple []) => evOpsR E C nt ops wn (i + 1) r (putD nt fr o.dst undefA) h rs (stgR i o h hs) k
        | _ => none
      | none => none

/-! code -/
inductive Ann where
  | n
  | two (a b : Ann)
  | join (live : List (Nat × VTy)) (a : Ann)
  | joinO (outs : List (Out × List (Nat × VTy))) (a : Ann)
  | loop (inn : List (Nat × VTy)) (outs : List Out) (out : List (Nat × VTy)) (a : Ann)

def getL {β : Type} : (l : List (Nat × VTy)) → Fr → (vdens (l.map (·.2)) → Option β) → Option β
  | [], _, K => K ()
  | (i, t) :: r, fr, K => match fr.get i with
    | some v => t.cast v fun x => getL r fr fun xs => K (x, xs)
    | none => none
def frL : (l : List (Nat × VTy)) → vdens (l.map (·.2)) → Fr
  | [], _ => .nil
  | (i, t) :: r, x => (frL r x.2).set i (t.to x.1)

def bind3 {α β : Type} (x : Option (Out × α × Heap)) (k : Out → α → Heap → Option β) : Option β :=
  match x with
  | some (o, v, h) => k o v h
  | none => none
def eqOut : Out → Out → Bool
  | .norm, .norm => true
  | .exit i, .exit j => Nat.beq i j
  | .ret, .ret => true
  | _, _ => false
def inOuts : List Out → Out → Bool
  | [], _ => false
  | x :: r, o => bif eqOut o x then true else inOuts r o
/-- what comes behind, by the way that was taken -/
def disp {β : Type} : List Out → Out → (Out → Option β) → Option β
  | [], _, _ => none
  | [x], _, K => K x
  | x :: y :: r, o, K => bif eqOut o x then K x else disp (y :: r) o K
/-- where ways meet, each with what lives behind it -/
@[reducible] def jden : List (Out × List (Nat × VTy)) → Type
  | [] => Empty
  | p :: r => Sum (vdens (p.2.map (·.2)) × Heap) (jden r)
def jget {β : Type} : (os : List (Out × List (Nat × VTy))) → Out → Fr → Heap → (jden os → Option β) → Option β
  | [], _, _, _, _ => none
  | p :: r, o, fr, h, K => bif eqOut o p.1 then getL p.2 fr fun xs => K (.inl (xs, h)) else jget r o fr h fun j => K (.inr j)
def jcase {A B β : Type} (j : Sum (A × Heap) B) (f : A → Heap → β) (g : B → β) : β :=
  match j with
  | .inl p => f p.1 p.2
  | .inr b => g b
def jdisp {β : Type} : (os : List (Out × List (Nat × VTy))) → jden os → (Out → Fr → Heap → Option β) → Option β
  | [], _, _ => none
  | p :: r, j, K => jcase j (fun xs h => K p.1 (frL p.2 xs) h) fun j => jdisp r j K
/-- rounds of a loop, 'N' at most -/
def iter {σ ρ : Type} (body : (σ → Heap → Option ρ) → σ → Heap → Option ρ) (N : Nat) : σ → Heap → Option ρ :=
  Nat.rec (fun _ _ => none) (fun _ go => body go) N

def evC0 {β : Type} (E : Env) (C : CallK) (nt : Nat) : Code → Fr → Heap → (Out → Fr → Heap → Option β) → Option β
  | .skip, fr, h, k => k .norm fr h
  | .region _ ops draw, fr, h, k => bif draw && !orderS ops.toList then (bif orderB ops.toList then evOpsR E C nt ops.toList (winB ops.toList (predsGo ops.toList [])) 0 ops.toList fr h [] [] fun fr' h' => k .norm fr' h' else bif orderP ops.toList then evOpsR E C nt ops.toList (fun _ _ => true) 0 ops.toList fr h [] [] fun fr' h' => k .norm fr' h' else bif orderR ops.toList then evOpsR E C nt ops.toList (fun _ _ => true) 0 ops.toList fr h [] [] fun fr' h' => k .norm fr' h' else none) else evOpsK E C nt ops.toList ops.toList fr h fun fr' h' => k .norm fr' h'
  | .seq a b, fr, h, k => evC0 E C nt a fr h fun o fr' h' => match o with
    | .norm => evC0 E C nt b fr' h' k
    | o => k o fr' h'
  | .cond c x y, fr, h, k => match opnd fr c with
    | some (.bool b) => bif b then evC0 E C nt x fr h k else evC0 E C nt y fr h k
    | _ => none
  | .block id c, fr, h, k => evC0 E C nt c fr h fun o fr' h' => match o with
    | .exit id' => bif Nat.beq id' id then k .norm fr' h' else k (.exit id') fr' h'
    | o => k o fr' h'
  | .exit id, fr, h, k => k (.exit id) fr h
  | .ret, fr, h, k => k .ret fr h
  | .scope c, fr, h, k => evC0 E C nt c fr h k
  | .label _, fr, h, k => k .norm fr h
  | _, _, _, _ => none

def evCK (E : Env) (C : CallK) (N nt : Nat) : Ann → Code → {β : Type} → Fr → Heap → (Out → Fr → Heap → Option β) → Option β
  | .n, c, _, fr, h, k => evC0 E C nt c fr h k
  | .two x y, c, _, fr, h, k => match c with
    | .seq a b => evCK E C N nt x a fr h fun o fr' h' => match o with
      | .norm => evCK E C N nt y b fr' h' k
      | o => k o fr' h'
    | .cond c a b => match opnd fr c with
      | some (.bool t) => bif t then evCK E C N nt x a fr h k else evCK E C N nt y b fr h k
      | _ => none
    | .block id c => evCK E C N nt x c fr h fun o fr' h' => match o with
      | .exit id' => bif Nat.beq id' id then k .norm fr' h' else k (.exit id') fr' h'
      | o => k o fr' h'
    | .scope c => evCK E C N nt x c fr h k
    | _ => none
  | .join live x, c, _, fr, h, k => bind2 (evCK E C N nt x c fr h fun o fr' h' => match o with
      | .norm => getL live fr' fun us => some (us, h')
      | _ => none) fun us h' => k .norm (frL live us) h'
  | .joinO os x, c, _, fr, h, k => need (evCK E C N nt x c fr h fun o fr' h' => jget os o fr' h' some) fun j => jdisp os j k
  | .loop li outs lo x, c, _, fr, h, k => match c with
    | .loop b => getL li fr fun vs => bind3 (iter (fun go vs h => evCK E C N nt x b (frL li vs) h fun o fr' h' => match o with
        | .norm => getL li fr' fun ws => go ws h'
        | o => bif inOuts outs o then getL lo fr' fun us => some (o, us, h') else none) N vs h) fun o us h' => disp outs o fun o => k o (frL lo us) h'
    | _ => none

def resK {β : Type} (E : Env) (fr : Fr) (h : Heap) : List (ResultVar × VTy) → (List AV → Option β) → Option β
  | [], K => K []
  | (.tmp t, _) :: r, K => match fr.get t with
    | some v => resK E fr h r fun l => K (v :: l)
    | none => none
  | (.cell a t, c) :: r, K => match fr.get a with
    | some (.ptr p) => match E.isAgg t with
      | some true => match E.size t with
        | some n => need p fun q => bindV (.val c) (h.cells q n) fun y => resK E fr h r fun l => K (c.to y :: l)
        | none => none
      | some false => need p fun q => bindV (.val c) (h.cell q) fun y => resK E fr h r fun l => K (c.to y :: l)
      | none => none
    | _ => none
def tupA : List AV → AV
  | [v] => v
  | vs => .tuple vs
/-- a function's call -/
def runK (E : Env) (C : CallK) (N : Nat) (x : Ann) (fn : Func) (c : Code) (t : Ty) (args : List AV) (h : Heap) : Option (t.den × Heap) :=
  bif Nat.ble args.length fn.ntmps then evCK E C N fn.ntmps x c (initFr 0 args .nil) h fun o fr h' => match o with
    | .exit _ => none
    | _ => resK E fr h' (fn.results.toList.zip (fn.resultTypes.toList.map (vtyOf E))) fun vs => t.cast (tupA vs) fun r => some (r, h')
  else none
end Go.Proofs.YtjeaammlambkeaaDoor.Ai

namespace Go.Proofs.YtjeaammlambkeaaDoor.Ai
section
variable {β : Type}
theorem CTy.cast_spec : ∀ {c : CTy} {v : AV} {K : c.den → Option β} {b : β}, c.cast v K = some b → ∃ x, c.to x = v ∧ K x = some b
  | .bool, v, K, b, h => by cases v <;> simp [CTy.cast] at h; exact ⟨_, rfl, h⟩
  | .int k, v, K, b, h => by
    cases v <;> simp only [CTy.cast, reduceCtorEq] at h
    rename_i k' n
    cases hk : eqKind k' k with
    | false => simp [hk] at h
    | true =>
      simp only [hk, cond_true] at h
      have : k' = k := by simpa [eqKind] using hk
      subst this
      exact ⟨n, rfl, h⟩
  | .str, v, K, b, h => by cases v <;> simp [CTy.cast] at h; exact ⟨_, rfl, h⟩
  | .ptr, v, K, b, h => by cases v <;> simp [CTy.cast] at h; exact ⟨_, rfl, h⟩
  | .slice, v, K, b, h => by cases v <;> simp [CTy.cast] at h; exact ⟨⟨_, _, _, _⟩, rfl, h⟩
  | .any, v, K, b, h => ⟨v, rfl, h⟩
theorem CTy.casts_spec : ∀ {l : List CTy} {vs : List AV} {K : dens l → Option β} {b : β}, CTy.casts l vs K = some b → ∃ x, CTy.tos l x = vs ∧ K x = some b
  | [], vs, K, b, h => by cases vs <;> simp [CTy.casts] at h; exact ⟨(), rfl, h⟩
  | c :: r, vs, K, b, h => by
    cases vs with
    | nil => simp [CTy.casts] at h
    | cons v vs =>
      simp only [CTy.casts] at h
      obtain ⟨x, rfl, h1⟩ := CTy.cast_spec h
      obtain ⟨xs, rfl, h2⟩ := CTy.casts_spec h1
      exact ⟨(x, xs), rfl, h2⟩
theorem VTy.cast_spec : ∀ {c : VTy} {v : AV} {K : c.den → Option β} {b : β}, c.cast v K = some b → ∃ x, c.to x = v ∧ K x = some b
  | .one c, v, K, b, h => CTy.cast_spec h
  | .agg l, v, K, b, h => by
    cases v <;> simp only [VTy.cast, reduceCtorEq] at h
    obtain ⟨x, rfl, h1⟩ := CTy.casts_spec h
    exact ⟨x, rfl, h1⟩
  | .clo g l, v, K, b, h => by
    simp only [VTy.cast] at h
    split at h
    · rename_i g' cs
      cases hg : Nat.beq g' g with
      | false => simp [hg] at h
      | true =>
        simp only [hg, cond_true] at h
        obtain ⟨x, rfl, h1⟩ := CTy.casts_spec h
        have := Nat.eq_of_beq_eq_true hg
        subst this
        exact ⟨x, rfl, h1⟩
    · cases h
theorem VTy.casts_spec : ∀ {l : List VTy} {vs : List AV} {K : vdens l → Option β} {b : β}, VTy.casts l vs K = some b → ∃ x, VTy.tos l x = vs ∧ K x = some b
  | [], vs, K, b, h => by cases vs <;> simp [VTy.casts] at h; exact ⟨(), rfl, h⟩
  | c :: r, vs, K, b, h => by
    cases vs with
    | nil => simp [VTy.casts] at h
    | cons v vs =>
      simp only [VTy.casts] at h
      obtain ⟨x, rfl, h1⟩ := VTy.cast_spec h
      obtain ⟨xs, rfl, h2⟩ := VTy.casts_spec h1
      exact ⟨(x, xs), rfl, h2⟩
theorem Ty.cast_spec : ∀ {c : Ty} {v : AV} {K : c.den → Option β} {b : β}, c.cast v K = some b → ∃ x, c.to x = v ∧ K x = some b
  | .val c, v, K, b, h => VTy.cast_spec h
  | .tup l, v, K, b, h => by
    cases v <;> simp only [Ty.cast, reduceCtorEq] at h
    obtain ⟨x, rfl, h1⟩ := VTy.casts_spec h
    exact ⟨x, rfl, h1⟩
theorem getL_spec : ∀ {l : List (Nat × VTy)} {fr : Fr} {K : vdens (l.map (·.2)) → Option β} {b : β}, getL l fr K = some b → ∃ xs, (∀ i v, (frL l xs).get i = some v → fr.get i = some v) ∧ K xs = some b
  | [], fr, K, b, h => ⟨(), fun i v hv => by simp [frL, Tr.get_nil] at hv, h⟩
  | (i, t) :: r, fr, K, b, h => by
    simp only [getL] at h
    cases hg : fr.get i with
    | none => simp [hg] at h
    | some v =>
      simp only [hg] at h
      obtain ⟨x, rfl, h0⟩ := VTy.cast_spec h
      obtain ⟨xs, h1, h2⟩ := getL_spec h0
      refine ⟨(x, xs), fun j u hu => ?_, h2⟩
      simp only [frL] at hu
      rcases Tr.get_set hu with ⟨rfl, rfl⟩ | ⟨_, h3⟩
      · exact hg
      · exact h1 j u h3
theorem bindV_spec {t : Ty} {x : Option AV} {K : t.den → Option β} {b : β} (h : bindV t x K = some b) : ∃ y, x = some (t.to y) ∧ K y = some b := by
  unfold bindV at h
  split at h
  · obtain ⟨y, rfl, h1⟩ := Ty.cast_spec h; exact ⟨y, rfl, h1⟩
  · cases h
theorem bindT_spec {t : Ty} {x : Option (AV × Heap)} {K : t.den → Heap → Option β} {b : β} (h : bindT t x K = some b) : ∃ y h', x = some (t.to y, h') ∧ K y h' = some b := by
  unfold bindT at h
  split at h
  · rename_i v h'
    obtain ⟨y, rfl, h1⟩ := Ty.cast_spec h; exact ⟨y, h', rfl, h1⟩
  · cases h
theorem bind2_spec {α : Type} {x : Option (α × Heap)} {K : α → Heap → Option β} {b : β} (h : bind2 x K = some b) : ∃ y h', x = some (y, h') ∧ K y h' = some b := by
  unfold bind2 at h
  split at h
  · exact ⟨_, _, rfl, h⟩
  · cases h
theorem bind3_spec {α : Type} {x : Option (Out × α × Heap)} {K : Out → α → Heap → Option β} {b : β} (h : bind3 x K = some b) : ∃ o y h', x = some (o, y, h') ∧ K o y h' = some b := by
  unfold bind3 at h
  split at h
  · exact ⟨_, _, _, rfl, h⟩
  · cases h
theorem o1_spec {fr : Fr} {x : Operand} {f : AV → Option β} {b : β} (h : o1 fr x f = some b) : ∃ v, opnd fr x = some v ∧ f v = some b := by
  unfold o1 at h
  split at h
  · exact ⟨_, by assumption, h⟩
  · cases h
theorem eqOut_eq {a b : Out} (h : eqOut a b = true) : a = b := by
  cases a <;> cases b <;> simp_all [eqOut]
theorem inOuts_mem : ∀ {l : List Out} {o : Out}, inOuts l o = true → o ∈ l
  | [], o, h => by cases h
  | x :: r, o, h => by
    simp only [inOuts] at h
    cases he : eqOut o x with
    | true => rw [eqOut_eq he]; exact List.mem_cons_self
    | false => simp only [he, cond_false] at h; exact List.mem_cons_of_mem _ (inOuts_mem h)
theorem disp_spec : ∀ {l : List Out} {o : Out} {K : Out → Option β} {b : β}, o ∈ l → disp l o K = some b → K o = some b
  | [x], o, K, b, hm, h => by simp at hm; subst hm; exact h
  | x :: y :: r, o, K, b, hm, h => by
    simp only [disp] at h
    cases he : eqOut o x with
    | true => simp only [he, cond_true] at h; rw [eqOut_eq he]; exact h
    | false =>
      simp only [he, cond_false] at h
      rcases List.mem_cons.1 hm with rfl | hm'
      · cases o <;> simp [eqOut] at he
      · exact disp_spec hm' h

variable {E : Env} {P : Program}
theorem need_spec {α : Type} {p : Option α} {K : α → Option β} {b : β} (h : need p K = some b) : ∃ a, p = some a ∧ K a = some b := by
  unfold need at h
  split at h
  · exact ⟨_, rfl, h⟩
  · cases h
theorem guardB_spec {g : Bool} {k : Option β} {b : β} (h : guardB g k = some b) : g = true ∧ k = some b := by
  cases g with
  | true => exact ⟨rfl, h⟩
  | false => cases h
theorem singles_all : ∀ {l : List AV}, singles l = true → l.all AV.single = true
  | [], _ => rfl
  | v :: r, h => by
    simp only [singles] at h
    cases hv : AV.single v with
    | true => simp only [hv, cond_true] at h; simp [hv, singles_all h]
    | false => simp [hv] at h
theorem cell_read {h : Heap} {q : Nat × Nat} {v : AV} (hx : h.cell q = some v) : h.read q.1 q.2 1 = some [v] := by
  unfold Heap.cell at hx
  unfold Heap.read
  split at hx
  · rename_i cs hr
    rw [hr]
    split at hx
    · rename_i u r hd
      simp only [Option.some.injEq] at hx
      subst hx
      simp only [hd, takeN]
    · cases hx
  · cases hx
theorem cells_read {h : Heap} {q : Nat × Nat} {n : Nat} {v : AV} (hx : h.cells q n = some v) : ∃ l, h.read q.1 q.2 n = some l ∧ v = .agg l := by
  unfold Heap.cells at hx
  split at hx
  · rename_i l hl; simp only [Option.some.injEq] at hx; exact ⟨l, hl, hx.symm⟩
  · cases hx
theorem ixK_spec {a : Option (Nat × Nat)} {len : Nat} {i : Int} {n : Nat} {K : Nat × Nat → Option β} {b : β} (h : ixK a len i n K = some b) :
    ∃ j q, i = .ofNat j ∧ Nat.blt j len = true ∧ a = some q ∧ K (q.1, q.2 + j * n) = some b := by
  unfold ixK at h
  split at h
  · rename_i j
    cases hb : Nat.blt j len with
    | true =>
      simp only [hb, cond_true] at h
      obtain ⟨q, h1, h2⟩ := need_spec h
      exact ⟨j, q, rfl, hb, h1, h2⟩
    | false => simp [hb] at h
  · cases h
theorem strK_spec {s : List UInt8} {i : Int} {K : Int → Option β} {b : β} (h : strK s i K = some b) : ∃ j c, i = .ofNat j ∧ s[j]? = some c ∧ K c.toNat = some b := by
  unfold strK at h
  split at h
  · rename_i j
    split at h
    · rename_i c hc; exact ⟨j, c, rfl, hc, h⟩
    · cases h
  · cases h
theorem store_spec {h h' : Heap} {q : Nat × Nat} {t : TypeId} {u : AV} {n : Nat} (hn : E.size t = some n) (hl : Nat.beq u.cells.length n = true) (hs : singles u.cells = true) (hx : h.store q u.cells = some h') : storeA E h t (.ptr (some q)) u = some h' := by
  obtain ⟨A, off⟩ := q
  unfold Heap.store at hx
  have hl' : u.cells.length = n := Nat.eq_of_beq_eq_true hl
  have hs' := singles_all hs
  unfold storeA
  simp only [hn, hl', hs', decide_true, Bool.and_self, if_true]
  exact hx
theorem ptr_nil {t : TypeId} {x y : Operand} {p : Option (Nat × Nat)} (ht : ptrT E t = true) : binA E .eql t x y (.ptr p) (.ptr none) = some (.bool p.isNone) ∧ binA E .neq t x y (.ptr p) (.ptr none) = some (.bool (!p.isNone)) := by
  have hc : cmpA E t x y (.ptr p) (.ptr none) = some p.isNone := by
    unfold ptrT at ht
    split at ht
    · rename_i e he
      split at ht
      · rename_i k hk
        simp only [cmpA, pairA, cond_true, eqA, he, hk]
        cases p <;> rfl
      · cases ht
    · cases ht
  constructor
  · simp only [binA, eqlA, hc]
  · simp only [binA, eqlA, hc]
theorem opK_spec {fr : Fr} {o : Op} {t : Ty} {h : Heap} {k : AV → Heap → Option β} {b : β} (hx : opK E fr o t h k = some b) : ∃ v h', opA E fr o h = some (v, h') ∧ k v h' = some b := by
  unfold opK at hx
  split at hx
  · obtain ⟨v, h1, h2⟩ := o1_spec hx; exact ⟨v, h, by simp [opA, h1, sameA], h2⟩
  · obtain ⟨v, h1, h2⟩ := o1_spec hx; exact ⟨v, h, by simp [opA, h1, sameA], h2⟩
  · -- load
    rename_i t' a
    obtain ⟨v, h1, h2⟩ := o1_spec hx
    split at h2
    · rename_i p
      split at h2
      · rename_i hagg
        split at h2
        · rename_i n hn
          obtain ⟨q, rfl, h3⟩ := need_spec h2
          obtain ⟨y, h4, h5⟩ := bindV_spec h3
          obtain ⟨l, h6, h7⟩ := cells_read h4
          exact ⟨_, h, by simp [opA, op1, h1, loadA, hagg, hn, h6, h7, sameA], h5⟩
        · cases h2
      · rename_i hagg
        obtain ⟨q, rfl, h3⟩ := need_spec h2
        obtain ⟨y, h4, h5⟩ := bindV_spec h3
        exact ⟨_, h, by simp [opA, op1, h1, loadA, hagg, cell_read h4, sameA], h5⟩
      · cases h2
    · cases h2
  · -- nilCheck
    obtain ⟨v, h1, h2⟩ := o1_spec hx
    split at h2
    · obtain ⟨q, rfl, h3⟩ := need_spec h2
      exact ⟨_, h, by simp [opA, op1, h1, nilCheckA, sameA], h3⟩
    · obtain ⟨y, h3, h4⟩ := bindV_spec h2; exact ⟨_, h, by simp [opA, op1, h1, h3, sameA], h4⟩
  · -- binOp
    rename_i op t' x y _
    obtain ⟨v, h1, h2⟩ := o1_spec hx
    cases hn : (isNilO y && ptrT E t') with
    | true =>
      simp only [hn, cond_true] at h2
      simp only [Bool.and_eq_true] at hn
      have hy : opnd fr y = some (.ptr none) := by
        have hn1 := hn.1
        unfold isNilO at hn1
        split at hn1
        · rfl
        · cases hn1
      split at h2
      · split at h2
        · exact ⟨_, h, by simp [opA, op2, h1, hy, (ptr_nil hn.2).1, sameA], h2⟩
        · exact ⟨_, h, by simp [opA, op2, h1, hy, (ptr_nil hn.2).2, sameA], h2⟩
        · cases h2
      · cases h2
    | false =>
      simp only [hn, cond_false] at h2
      obtain ⟨u, h3, h4⟩ := o1_spec h2; obtain ⟨y, h5, h6⟩ := bindV_spec h4; exact ⟨_, h, by simp [opA, op2, h1, h3, h5, sameA], h6⟩
  · obtain ⟨v, h1, h2⟩ := o1_spec hx; obtain ⟨y, h3, h4⟩ := bindV_spec h2; exact ⟨_, h, by simp [opA, op1, h1, h3, sameA], h4⟩
  · -- fieldAddr
    rename_i s x f
    obtain ⟨v, h1, h2⟩ := o1_spec hx
    split at h2
    · split at h2
      · rename_i off hoff
        obtain ⟨q, rfl, h3⟩ := need_spec h2
        refine ⟨_, h, ?_, h3⟩
        unfold fieldOff at hoff
        split at hoff
        · rename_i fd hfd
          split at hoff
          · rename_i m hm
            simp only [Option.some.injEq] at hoff
            subst hoff
            simp [opA, op1, h1, fieldAddrA, hfd, hm, sameA]
          · cases hoff
        · cases hoff
      · cases h2
    · cases h2
  · obtain ⟨v, h1, h2⟩ := o1_spec hx; obtain ⟨y, h3, h4⟩ := bindV_spec h2; exact ⟨_, h, by simp [opA, op1, h1, h3, sameA], h4⟩
  · -- indexAddr
    rename_i s x ix
    obtain ⟨v, h1, h2⟩ := o1_spec hx; obtain ⟨u, h3, h4⟩ := o1_spec h2
    split at h4
    · split at h4
      · rename_i n hel
        split at h4
        · obtain ⟨j, q, rfl, hb, rfl, h5⟩ := ixK_spec h4
          refine ⟨_, h, ?_, h5⟩
          unfold elemOf at hel
          split at hel
          · rename_i e he
            split at hel
            · rename_i m hm
              simp only [Option.some.injEq, Prod.mk.injEq, true_and] at hel
              subst hel
              simp [opA, op2, h1, h3, indexAddrA, natOf, he, hm, hb, sameA]
            · cases hel
          · rename_i len e he
            split at hel <;> simp at hel
          · cases hel
        · cases h4
      · rename_i len n hel
        split at h4
        · obtain ⟨j, q, rfl, hb, rfl, h5⟩ := ixK_spec h4
          refine ⟨_, h, ?_, h5⟩
          unfold elemOf at hel
          split at hel
          · rename_i e he
            split at hel <;> simp at hel
          · rename_i len' e he
            split at hel
            · rename_i m hm
              simp only [Option.some.injEq, Prod.mk.injEq] at hel
              obtain ⟨rfl, rfl⟩ := hel
              simp [opA, op2, h1, h3, indexAddrA, natOf, he, hm, hb, sameA]
            · cases hel
          · cases hel
        · cases h4
      · cases h4
    · cases h4
  · -- index
    rename_i s x ix
    obtain ⟨v, h1, h2⟩ := o1_spec hx; obtain ⟨u, h3, h4⟩ := o1_spec h2
    cases hs : isStr E s with
    | true =>
      simp only [hs, cond_true] at h4
      split at h4
      · obtain ⟨j, c, rfl, hc, h5⟩ := strK_spec h4
        refine ⟨_, h, ?_, h5⟩
        unfold isStr at hs
        split at hs
        · rename_i he
          simp [opA, op2, h1, h3, indexA, natOf, he, hc, sameA]
        · cases hs
      · cases h4
    | false =>
      simp only [hs, cond_false] at h4
      obtain ⟨y, h5, h6⟩ := bindV_spec h4; exact ⟨_, h, by simp [opA, op2, h1, h3, h5, sameA], h6⟩
  · split at hx
    · rename_i lo hi hlo hhi
      obtain ⟨v, h1, h2⟩ := o1_spec hx; obtain ⟨y, h3, h4⟩ := bindV_spec h2; exact ⟨_, h, by simp [opA, op1, hlo, hhi, h1, h3, sameA], h4⟩
    · cases hx
  · -- store
    obtain ⟨v, h1, h2⟩ := o1_spec hx; obtain ⟨u, h3, h4⟩ := o1_spec h2
    split at h4
    · split at h4
      · rename_i n hn
        cases hn1 : Nat.beq n 1 with
        | true =>
          simp only [hn1, cond_true] at h4
          obtain ⟨hs, h5⟩ := guardB_spec h4
          have hu : u.cells = [u] := by cases u <;> simp [AV.single] at hs <;> rfl
          have hl : Nat.beq u.cells.length n = true := by rw [hu, Nat.eq_of_beq_eq_true hn1]; rfl
          have hs' : singles u.cells = true := by rw [hu]; simp [singles, hs]
          obtain ⟨q, rfl, h6⟩ := need_spec h5
          split at h6
          · rename_i h' he; exact ⟨_, h', by simp [opA, op2, h1, h3, store_spec hn hl hs' (by rw [hu]; exact he), unit], h6⟩
          · cases h6
        | false =>
        simp only [hn1, cond_false] at h4
        cases hl : Nat.beq u.cells.length n with
        | true =>
          simp only [hl, cond_true] at h4
          obtain ⟨hs, h5⟩ := guardB_spec h4
          obtain ⟨q, rfl, h6⟩ := need_spec h5
          split at h6
          · rename_i h' he; exact ⟨_, h', by simp [opA, op2, h1, h3, store_spec hn hl hs he, unit], h6⟩
          · cases h6
        | false => simp [hl] at h4
      · cases h4
    · cases h4
  · obtain ⟨v, h1, h2⟩ := o1_spec hx; obtain ⟨y, h3, h4⟩ := bindV_spec h2; exact ⟨_, h, by simp [opA, op1, h1, h3, sameA], h4⟩
  · obtain ⟨y, h', h1, h2⟩ := bindT_spec hx; exact ⟨_, h', h1, h2⟩

/-- calls by typed functions, as calls of the first evaluator -/
def callOf (C : CallK) : CallF := fun f args h => C f args h fun v h' => some (v, h')
structure CallKOK (P : Program) (C : CallK) : Prop where
  nat : ∀ {β : Type} {f : FuncId} {args : List AV} {h : Heap} {k : AV → Heap → Option β} {b : β}, C f args h k = some b → ∃ v h', callOf C f args h = some (v, h') ∧ k v h' = some b
  ok : CallOK P (callOf C)

theorem oneK_spec {C : CallK} (hC : CallKOK P C) {fr : Fr} {o : Op} {t : Ty} {h : Heap} {k : AV → Heap → Option β} {b : β} (hx : oneK E C fr o t h k = some b) : ∃ v h', oneA E (callOf C) fr o h = some (v, h') ∧ k v h' = some b := by
  unfold oneK at hx
  split at hx
  · rename_i c
    split at hx
    · rename_i bi hcal
      split at hx
      · rename_i args hargs
        obtain ⟨y, h', h1, h2⟩ := bindT_spec hx
        exact ⟨_, h', by simp [oneA, tgtA, hargs, hcal, h1], h2⟩
      · cases hx
    · split at hx
      · rename_i f args htg
        obtain ⟨v, h', h1, h2⟩ := hC.nat hx
        exact ⟨v, h', by simp [oneA, htg, h1], h2⟩
      · cases hx
  · rename_i o hne
    obtain ⟨v, h', h1, h2⟩ := opK_spec hx
    refine ⟨v, h', ?_, h2⟩
    unfold oneA
    split
    · rename_i c; exact absurd rfl (hne c)
    · exact h1
end
end Go.Proofs.YtjeaammlambkeaaDoor.Ai

namespace Go.Proofs.YtjeaammlambkeaaDoor.Ai
/-- a frame that says no more than another -/
def FrLe (fr big : Fr) : Prop := ∀ i v, fr.get i = some v → big.get i = some v
theorem FrLe.refl (fr : Fr) : FrLe fr fr := fun _ _ h => h
theorem FrLe.put {nt : Nat} (hnt : nt ≤ 1073741824) {fr big : Fr} (h : FrLe fr big) (d : Option Tmp) (v : AV) : FrLe (putD nt fr d v) (putD nt big d v) := by
  cases d with
  | none => exact h
  | some t =>
    simp only [putD]
    cases hb : Nat.blt t nt with
    | false => intro i u hu; simp [Tr.get_nil] at hu
    | true =>
      have hlt : t < nt := by simpa [Nat.blt_eq] using hb
      intro i u hu
      simp only [cond_true] at hu ⊢
      rcases Tr.get_set hu with ⟨rfl, rfl⟩ | ⟨hne, h2⟩
      · exact Tr.get_set_same
      · exact Tr.get_set_other hne (h i u h2)
theorem FrLe.fix {fr big : Fr} (h : FrLe fr big) {d : Nat} {v : AV} (hg : fr.get d = some v) : FrLe (fr.set d v) big := by
  intro i u hu
  rcases Tr.get_set hu with ⟨rfl, rfl⟩ | ⟨_, h2⟩
  · exact h _ _ hg
  · exact h i u h2
section
variable {E : Env} {P : Program} {call : CallF} {fr big : Fr}
theorem opnd_le (h : FrLe fr big) {x : Operand} {v : AV} (hx : opnd fr x = some v) : opnd big x = some v := by
  cases x with
  | tmp t => exact h t v hx
  | const c => exact hx
  | global g => exact hx
  | func f => exact hx
theorem opnds_le (h : FrLe fr big) : ∀ {l : List Operand} {vs : List AV}, opnds fr l = some vs → opnds big l = some vs
  | [], vs, hx => hx
  | x :: r, vs, hx => by
    simp only [opnds] at hx ⊢
    cases h1 : opnd fr x with
    | none => simp [h1] at hx
    | some v =>
      cases h2 : opnds fr r with
      | none => simp [h1, h2] at hx
      | some l => simp only [h1, h2] at hx; simp only [opnd_le h h1, opnds_le h h2, hx]
theorem parts_le (h : FrLe fr big) : ∀ {l : List (Nat × Operand)} {vs : List (Nat × AV)}, partsA fr l = some vs → partsA big l = some vs
  | [], vs, hx => hx
  | (i, x) :: r, vs, hx => by
    simp only [partsA] at hx ⊢
    cases h1 : opnd fr x with
    | none => simp [h1] at hx
    | some v =>
      cases h2 : partsA fr r with
      | none => simp [h1, h2] at hx
      | some l => simp only [h1, h2] at hx; simp only [opnd_le h h1, parts_le h h2, hx]
theorem opt_le (h : FrLe fr big) {x : Option Operand} {v : Option AV} (hx : optA fr x = some v) : optA big x = some v := by
  cases x with
  | none => exact hx
  | some x =>
    simp only [optA] at hx ⊢
    cases h1 : opnd fr x with
    | none => simp [h1] at hx
    | some u => simp only [h1] at hx; simp only [opnd_le h h1, hx]
theorem op1_le (h : FrLe fr big) {x : Operand} {f g : AV → Option (AV × Heap)} {r : AV × Heap} (hfg : ∀ v, f v = some r → g v = some r) (hx : op1 fr x f = some r) : op1 big x g = some r := by
  obtain ⟨v, h1, h2⟩ := op1_spec hx
  simp only [op1, opnd_le h h1, hfg v h2]
theorem op2_le (h : FrLe fr big) {x y : Operand} {f : AV → AV → Option (AV × Heap)} {r : AV × Heap} (hx : op2 fr x y f = some r) : op2 big x y f = some r := by
  obtain ⟨v, u, h1, h2, h3⟩ := op2_spec hx
  simp only [op2, opnd_le h h1, opnd_le h h2, h3]
theorem op3_le (h : FrLe fr big) {x y z : Operand} {f : AV → AV → AV → Option (AV × Heap)} {r : AV × Heap} (hx : op3 fr x y z f = some r) : op3 big x y z f = some r := by
  obtain ⟨v, u, q, h1, h2, h3, h4⟩ := op3_spec hx
  simp only [op3, opnd_le h h1, opnd_le h h2, opnd_le h h3, h4]
theorem same_le (h : FrLe fr big) {x : Operand} {hp : Heap} {r : AV × Heap} (hx : sameA hp (opnd fr x) = some r) : sameA hp (opnd big x) = some r := by
  cases h1 : opnd fr x with
  | none => simp [h1, sameA] at hx
  | some v => rw [h1] at hx; rw [opnd_le h h1, hx]
theorem opA_le (h : FrLe fr big) {o : Op} {hp : Heap} {r : AV × Heap} (hx : opA E fr o hp = some r) : opA E big o hp = some r := by
  unfold opA at hx ⊢
  split at hx
  case h_3 =>
    refine op1_le h (fun v hv => ?_) hx
    split at hv
    · exact same_le h hv
    · exact same_le h hv
    · cases hv
  all_goals first
    | exact same_le h hx
    | exact op2_le h hx
    | exact op3_le h hx
    | exact op1_le h (fun _ hv => hv) hx
    | exact hx
    | skip
  · split at hx
    · rename_i l hl; simp only [parts_le h hl]; exact hx
    · cases hx
  · split at hx
    · rename_i l hl; simp only [parts_le h hl]; exact hx
    · cases hx
  · split at hx
    · cases hx
    · exact op1_le h (fun _ hv => hv) hx
    · cases hx
  · split at hx
    · rename_i l m hl hm; simp only [opnds_le h hl, opnds_le h hm]; exact hx
    · cases hx
  · split at hx
    · rename_i lo hi hl hm; simp only [opt_le h hl, opt_le h hm]; exact op1_le h (fun _ hv => hv) hx
    · cases hx
end
end Go.Proofs.YtjeaammlambkeaaDoor.Ai

namespace Go.Proofs.YtjeaammlambkeaaDoor.Ai
section
variable {E : Env} {P : Program} {call : CallF} {fr big : Fr}
theorem tgtA_le (h : FrLe fr big) {c : Call} {hp : Heap} {t : Tgt} (hx : tgtA E fr c hp = some t) : tgtA E big c hp = some t := by
  unfold tgtA at hx ⊢
  cases h1 : opnds fr c.args.toList with
  | none => simp [h1] at hx
  | some args =>
    simp only [h1] at hx
    simp only [opnds_le h h1]
    split at hx
    · exact hx
    · rename_i recv name _
      cases h2 : opnd fr recv with
      | none => simp [h2] at hx
      | some v => rw [h2] at hx; rw [opnd_le h h2]; exact hx
    · rename_i f _
      cases h2 : opnd fr f with
      | none => simp [h2] at hx
      | some v => rw [h2] at hx; rw [opnd_le h h2]; exact hx
theorem oneA_le (h : FrLe fr big) {o : Op} {hp : Heap} {r : AV × Heap} (hx : oneA E call fr o hp = some r) : oneA E call big o hp = some r := by
  unfold oneA at hx ⊢
  split at hx
  · rename_i c
    cases h1 : tgtA E fr c hp with
    | none => simp [h1] at hx
    | some t => rw [h1] at hx; simp only [tgtA_le h h1]; exact hx
  · exact opA_le h hx
theorem yielded_of {ops : List Oper} {j d : Nat} {b : Bool} (hs : guardSlot ops j = some d) (hg : fr.get d = some (.bool b)) : yieldedA ops fr j = some b := by
  unfold guardSlot at hs
  unfold yieldedA
  cases ho : ops[j]? with
  | none => simp [ho] at hs
  | some o => simp only [ho] at hs ⊢; simp only [hs, hg]
theorem evOpsK_trace {C : CallK} (hC : CallKOK P C) {nt : Nat} (hnt : nt ≤ 1073741824) {ops : List Oper} {β : Type} : ∀ {r : List Oper} {fr big : Fr} {h : Heap} {k : Fr → Heap → Option β} {b : β}, evOpsK E C nt ops r fr h k = some b → FrLe fr big →
    ∃ recs fr' big' h', traceA E (callOf C) nt ops r big h = some (recs, big', h') ∧ FrLe fr' big' ∧ k fr' h' = some b
  | [], fr, big, h, k, b, hx, hle => ⟨[], fr, big, h, rfl, hle, hx⟩
  | o :: r, fr, big, h, k, b, hx, hle => by
    have step : ∀ {fr1 : Fr} {v : AV} {h1 : Heap}, FrLe fr1 big → stepA E (callOf C) ops big o h = some (v, h1) → evOpsK E C nt ops r (putD nt fr1 o.dst v) h1 k = some b →
        ∃ recs fr' big' h', traceA E (callOf C) nt ops (o :: r) big h = some (recs, big', h') ∧ FrLe fr' big' ∧ k fr' h' = some b := by
      intro fr1 v h1 hle1 hs he
      obtain ⟨recs, fr', big', h', e1, e2, e3⟩ := evOpsK_trace hC hnt he (hle1.put hnt o.dst v)
      exact ⟨(big, h, v) :: recs, fr', big', h', by simp only [traceA, hs, e1], e2, e3⟩
    simp only [evOpsK] at hx
    cases hg : o.guard with
    | none =>
      simp only [hg] at hx
      obtain ⟨v, h1, e1, e2⟩ := oneK_spec hC hx
      refine step hle ?_ e2
      simp only [stepA, wantedA, hg]; exact oneA_le hle e1
    | some p =>
      obtain ⟨j, want⟩ := p
      simp only [hg] at hx
      cases hs : guardSlot ops j with
      | none => simp [hs] at hx
      | some d =>
        simp only [hs] at hx
        cases hv : fr.get d with
        | none => simp [hv] at hx
        | some u =>
          cases u with
          | bool t =>
            simp only [hv] at hx
            have hy : yieldedA ops big j = some t := yielded_of hs (hle d _ hv)
            cases t with
            | true =>
              have hfix := hle.fix hv
              cases want with
              | true =>
                simp only [cond_true] at hx
                obtain ⟨v, h1, e1, e2⟩ := oneK_spec hC hx
                refine step hfix ?_ e2
                simp only [stepA, wantedA, hg, hy, cond_true]; exact oneA_le hfix e1
              | false =>
                simp only [cond_true, cond_false] at hx
                refine step hfix ?_ hx
                simp only [stepA, wantedA, hg, hy, cond_true]
            | false =>
              have hfix := hle.fix hv
              cases want with
              | true =>
                simp only [cond_true, cond_false] at hx
                refine step hfix ?_ hx
                simp only [stepA, wantedA, hg, hy, cond_false, Bool.not_true]
              | false =>
                simp only [cond_false] at hx
                obtain ⟨v, h1, e1, e2⟩ := oneK_spec hC hx
                refine step hfix ?_ e2
                simp only [stepA, wantedA, hg, hy, cond_false, Bool.not_false]; exact oneA_le hfix e1
          | tuple l =>
            cases l with
            | nil =>
              simp only [hv] at hx
              refine step hle ?_ hx
              have hy : yieldedA ops big j = none := by
                unfold guardSlot at hs
                unfold yieldedA
                split at hs
                · rename_i o2 ho2; simp only [ho2, hs, hle d _ hv]
                · cases hs
              have hu : unrunA ops big j = true := by
                unfold guardSlot at hs
                unfold unrunA
                split at hs
                · rename_i o2 ho2; simp only [ho2, hs, hle d _ hv]
                · cases hs
              simp only [stepA, wantedA, hg, hy, hu, cond_true]
            | cons y r => simp [hv] at hx
          | _ => simp [hv] at hx
theorem eqBytes_refl : ∀ s : List UInt8, eqBytes s s = true
  | [] => rfl
  | a :: s => by simp [eqBytes, eqBytes_refl s]
theorem eqInt_refl (n : Int) : eqInt n n = true := by cases n <;> simp [eqInt]
mutual
theorem eqV_refl : ∀ v : AV, eqV v v = true
  | .bool b => by cases b <;> rfl
  | .int k n => by simp [eqV, eqKind, eqInt_refl]
  | .str s => by simp [eqV, eqBytes_refl]
  | .ptr none => rfl
  | .ptr (some (A, i)) => by simp [eqV]
  | .slice none l c s => by simp [eqV]
  | .slice (some (A, i)) l c s => by simp [eqV]
  | .map none => rfl
  | .map (some A) => by simp [eqV]
  | .func f a b => by simp [eqV, eqVs_refl a, eqVs_refl b]
  | .nilFunc => rfl
  | .iface t v => by simp [eqV, eqV_refl v]
  | .nilIface => rfl
  | .agg a => by simp [eqV, eqVs_refl a]
  | .tuple a => by simp [eqV, eqVs_refl a]
theorem eqVs_refl : ∀ v : List AV, eqVs v v = true
  | [] => rfl
  | a :: r => by simp [eqVs, eqV_refl a, eqVs_refl r]
end
@[simp] theorem sameO_some (v : AV) : sameO (some v) v = true := eqV_refl v
theorem chk1_sound {fr : Fr} {o : Op} {v : AV} {H h h' : Heap} (hc : chk1 E fr o v H = true) (hx : oneA E call fr o h = some (v, h')) : ∃ u h2, oneA E call fr o H = some (u, h2) ∧ eqV u v = true := by
  unfold chk1 at hc
  split at hc
  · rename_i t a
    split at hc
    · rename_i p hq
      have key : ∀ {x : (Nat × Nat) → Option AV}, (needB p fun q => sameO (x q) v) = true → ∃ q u, p = some q ∧ x q = some u ∧ eqV u v = true := by
        intro x hx
        cases p with
        | none => simp [needB] at hx
        | some q =>
          simp only [needB] at hx
          cases hxq : x q with
          | none => simp [sameO, hxq] at hx
          | some u => rw [hxq] at hx; exact ⟨q, u, rfl, hxq, hx⟩
      split at hc
      · rename_i hagg
        split at hc
        · rename_i n hn
          obtain ⟨q, u, rfl, h1, h2⟩ := key (x := fun q => H.cells q n) hc
          obtain ⟨l, h6, h7⟩ := cells_read h1
          exact ⟨u, H, by simp [oneA, opA, op1, hq, loadA, hagg, hn, h6, h7, sameA], h2⟩
        · cases hc
      · rename_i hagg
        obtain ⟨q, u, rfl, h1, h2⟩ := key (x := fun q => H.cell q) hc
        exact ⟨u, H, by simp [oneA, opA, op1, hq, loadA, hagg, cell_read h1, sameA], h2⟩
      · cases hc
    · cases hc
  · rename_i t x lo hi
    have hr : eqV v v = true := eqV_refl v
    have indep : ∀ (y : AV), (∃ a l c s, y = .slice a l c s) ∨ (∃ s, y = .str s) → ∀ (l u : Option AV), sliceA E H t y l u = sliceA E h t y l u := by
      intro y hy l u
      unfold sliceA
      rcases hy with ⟨a, l', c, s, rfl⟩ | ⟨s, rfl⟩
      · cases E.und t with
        | none => rfl
        | some d => cases a <;> cases d <;> rfl
      · cases E.und t with
        | none => rfl
        | some d => cases d <;> rfl
    have fin : ∀ y, opnd fr x = some y → ((∃ a l c s, y = .slice a l c s) ∨ (∃ s, y = .str s)) → ∃ u h2, oneA E call fr (.slice t x lo hi none) H = some (u, h2) ∧ eqV u v = true := by
      intro y hy hi2
      simp only [oneA, opA] at hx ⊢
      split at hx
      · rename_i lo' hi' hl hh
        simp only [op1, hy] at hx ⊢
        rw [indep y hi2]
        cases hs : sliceA E h t y lo' hi' with
        | none => simp [hs, sameA] at hx
        | some u =>
          simp only [hs, sameA, Option.some.injEq, Prod.mk.injEq] at hx ⊢
          obtain ⟨rfl, _⟩ := hx
          exact ⟨_, _, ⟨rfl, rfl⟩, hr⟩
      · cases hx
    split at hc
    · rename_i hy; exact fin _ hy (.inl ⟨_, _, _, _, rfl⟩)
    · rename_i hy; exact fin _ hy (.inr ⟨_, rfl⟩)
    · cases hc
  · rename_i c
    have hr : eqV v v = true := eqV_refl v
    have fin : ∀ y, c.callee = .builtin .len → opnds fr c.args.toList = some [y] → ((∃ a l c s, y = .slice a l c s) ∨ (∃ s, y = .str s)) → ∃ u h2, oneA E call fr (.call c) H = some (u, h2) ∧ eqV u v = true := by
      intro y hcal hy hi2
      simp only [oneA, tgtA, hcal, hy] at hx ⊢
      have hb : ∀ (h : Heap), builtinA E .len c.argTypes.toList [y] h = (match c.argTypes.toList with | [t] => sameA h (lenA E t y) | _ => none) := by
        intro h
        rcases hi2 with ⟨_, _, _, _, rfl⟩ | ⟨_, rfl⟩ <;>
        · match c.argTypes.toList with
          | [] => rfl
          | [t] => rfl
          | _ :: _ :: _ => rfl
      rw [hb] at hx ⊢
      match ht : c.argTypes.toList with
      | [] => simp [ht] at hx
      | [t] =>
        simp only [ht] at hx ⊢
        cases hs : lenA E t y with
        | none => simp [hs, sameA] at hx
        | some u =>
          simp only [hs, sameA, Option.some.injEq, Prod.mk.injEq] at hx ⊢
          obtain ⟨rfl, _⟩ := hx
          exact ⟨_, _, ⟨rfl, rfl⟩, hr⟩
      | _ :: _ :: _ => simp [ht] at hx
    split at hc
    · rename_i h1 h2; exact fin _ h1 h2 (.inl ⟨_, _, _, _, rfl⟩)
    · rename_i h1 h2; exact fin _ h1 h2 (.inr ⟨_, rfl⟩)
    · cases hc
  · cases hc
theorem trace_ops {nt : Nat} {ops : List Oper} : ∀ {r : List Oper} {fr : Fr} {h : Heap} {recs : List (Fr × Heap × AV)} {fr' : Fr} {h' : Heap}, traceA E call nt ops r fr h = some (recs, fr', h') → evOps E call nt ops r fr h = some (fr', h')
  | [], fr, h, recs, fr', h', hx => by
    simp only [traceA, Option.some.injEq, Prod.mk.injEq] at hx
    obtain ⟨_, rfl, rfl⟩ := hx; rfl
  | o :: r, fr, h, recs, fr', h', hx => by
    simp only [traceA] at hx
    simp only [evOps]
    cases hs : stepA E call ops fr o h with
    | none => simp [hs] at hx
    | some p =>
      obtain ⟨v, h1⟩ := p
      simp only [hs] at hx ⊢
      cases ht : traceA E call nt ops r (putD nt fr o.dst v) h1 with
      | none => simp [ht] at hx
      | some q =>
        obtain ⟨l, fr2, h2⟩ := q
        simp only [ht, Option.some.injEq, Prod.mk.injEq] at hx
        obtain ⟨_, rfl, rfl⟩ := hx
        exact trace_ops ht

theorem AR.le {μ : Mu} {nt : Nat} {a : Act} (h : AR μ nt big a) (hle : FrLe fr big) : AR μ nt fr a := ⟨fun t v ht => h.slot t v (hle t v ht), h.size, h.defers⟩

theorem chkHs_spec {wn : Nat → Nat → Bool} {i : Nat} {fr : Fr} {o : Op} {v : AV} {z : Bool} : ∀ {hs : List (Nat × Heap)}, chkHs E wn i fr o v z hs = true → (∀ k H, (k, H) ∈ hs → wn i k = true → chk1 E fr o v H = true) ∧ z = true
  | [], h => ⟨fun k H hH => by simp at hH, h⟩
  | (k, H) :: r, h => by
    simp only [chkHs] at h
    cases hw : wn i k with
    | false =>
      simp only [hw, cond_false] at h
      obtain ⟨h1, h2⟩ := chkHs_spec h
      refine ⟨fun k' H' hH' hw' => ?_, h2⟩
      rcases List.mem_cons.1 hH' with h3 | h3
      · cases h3; rw [hw] at hw'; cases hw'
      · exact h1 k' H' h3 hw'
    | true =>
      simp only [hw, cond_true] at h
      cases hc : chk1 E fr o v H with
      | false => simp [hc] at h
      | true =>
        simp only [hc, cond_true] at h
        obtain ⟨h1, h2⟩ := chkHs_spec h
        refine ⟨fun k' H' hH' hw' => ?_, h2⟩
        rcases List.mem_cons.1 hH' with h3 | h3
        · cases h3; exact hc
        · exact h1 k' H' h3 hw'
theorem chkAll_spec {wn : Nat → Nat → Bool} {hs : List (Nat × Heap)} : ∀ {rs : List (Nat × Fr × Op × AV)}, chkAll E wn hs rs = true → ∀ i fr o v, (i, fr, o, v) ∈ rs → ∀ k H, (k, H) ∈ hs → wn i k = true → chk1 E fr o v H = true
  | [], _, i, fr, o, v, hm, _, _, _ => by simp at hm
  | (i', fr', o', v') :: r, h, i, fr, o, v, hm, k, H, hH => by
    simp only [chkAll] at h
    obtain ⟨h1, h2⟩ := chkHs_spec h
    rcases List.mem_cons.1 hm with h3 | h3
    · cases h3; exact h1 k H hH
    · exact chkAll_spec h2 i fr o v h3 k H hH
theorem evOpsR_trace {C : CallK} (hC : CallKOK P C) {nt : Nat} (hnt : nt ≤ 1073741824) {ops : List Oper} {wn : Nat → Nat → Bool} {β : Type} : ∀ {r : List Oper} {i : Nat} {fr big : Fr} {h : Heap} {rs : List (Nat × Fr × Op × AV)} {hs : List (Nat × Heap)} {k : Fr → Heap → Option β} {b : β}, evOpsR E C nt ops wn i r fr h rs hs k = some b → FrLe fr big →
    ∃ recs fr' big' h' R HS, traceA E (callOf C) nt ops r big h = some (recs, big', h') ∧ FrLe fr' big' ∧ k fr' h' = some b ∧ chkAll E wn HS R = true ∧ (∀ x ∈ rs, x ∈ R) ∧ (∀ H ∈ hs, H ∈ HS) ∧ (i + r.length, h') ∈ HS ∧
      (∀ (j : Nat) (o : Oper) (f : Fr) (hh : Heap) (v : AV), r[j]? = some o → recs[j]? = some (f, hh, v) → kindA o.op = 2 → (i + j, hh) ∈ HS) ∧
      (∀ (j : Nat) (o : Oper) (f : Fr) (hh : Heap) (v : AV), r[j]? = some o → recs[j]? = some (f, hh, v) → kindA o.op = 1 → ∀ k H, (k, H) ∈ HS → wn (i + j) k = true → ∃ u h2, stepA E (callOf C) ops f o H = some (u, h2) ∧ eqV u v = true)
  | [], i, fr, big, h, rs, hs, k, b, hx, hle => by
    simp only [evOpsR] at hx
    obtain ⟨h1, h2⟩ := guardB_spec hx
    exact ⟨[], fr, big, h, rs, (i, h) :: hs, rfl, hle, h2, h1, fun _ h => h, fun _ h => List.mem_cons_of_mem _ h, List.mem_cons_self, fun j o f hh v h => by simp at h, fun j o f hh v h => by simp at h⟩
  | o :: r, i, fr, big, h, rs, hs, k, b, hx, hle => by
    have step : ∀ {fr1 : Fr} {v : AV} {h1 : Heap} {rs1 : List (Nat × Fr × Op × AV)}, FrLe fr1 big → stepA E (callOf C) ops big o h = some (v, h1) → (∀ x ∈ rs, x ∈ rs1) →
        (∀ (R : List (Nat × Fr × Op × AV)) (HS : List (Nat × Heap)), (∀ x ∈ rs1, x ∈ R) → chkAll E wn HS R = true → kindA o.op = 1 → ∀ k H, (k, H) ∈ HS → wn i k = true → ∃ u h2, stepA E (callOf C) ops big o H = some (u, h2) ∧ eqV u v = true) →
        evOpsR E C nt ops wn (i + 1) r (putD nt fr1 o.dst v) h1 rs1 (stgR i o h hs) k = some b →
        ∃ recs fr' big' h' R HS, traceA E (callOf C) nt ops (o :: r) big h = some (recs, big', h') ∧ FrLe fr' big' ∧ k fr' h' = some b ∧ chkAll E wn HS R = true ∧ (∀ x ∈ rs, x ∈ R) ∧ (∀ H ∈ hs, H ∈ HS) ∧ (i + (o :: r).length, h') ∈ HS ∧
      (∀ (j : Nat) (o2 : Oper) (f : Fr) (hh : Heap) (v : AV), (o :: r)[j]? = some o2 → recs[j]? = some (f, hh, v) → kindA o2.op = 2 → (i + j, hh) ∈ HS) ∧
      (∀ (j : Nat) (o2 : Oper) (f : Fr) (hh : Heap) (v : AV), (o :: r)[j]? = some o2 → recs[j]? = some (f, hh, v) → kindA o2.op = 1 → ∀ k H, (k, H) ∈ HS → wn (i + j) k = true → ∃ u h2, stepA E (callOf C) ops f o2 H = some (u, h2) ∧ eqV u v = true) := by
      intro fr1 v h1 rs1 hle1 hs0 hrs hchk he
      obtain ⟨recs, fr', big', h', R, HS, e1, e2, e3, e4, e5, e6, eh, e7, e8⟩ := evOpsR_trace hC hnt he (hle1.put hnt o.dst v)
      have hin : ∀ H ∈ hs, H ∈ HS := fun H hH => e6 H (by
        unfold stgR
        cases Nat.beq (kindA o.op) 2
        · exact hH
        · exact List.mem_cons_of_mem _ hH)
      refine ⟨(big, h, v) :: recs, fr', big', h', R, HS, by simp only [traceA, hs0, e1], e2, e3, e4, fun x hx => e5 x (hrs x hx), hin, ?_, ?_, ?_⟩
      · rw [List.length_cons, show i + (r.length + 1) = i + 1 + r.length from by omega]; exact eh
      · intro j o' f hh v' hj hrec hk
        cases j with
        | zero =>
          simp at hj hrec
          subst hj; obtain ⟨rfl, rfl, rfl⟩ := hrec
          exact e6 _ (by unfold stgR; rw [hk]; exact List.mem_cons_self)
        | succ j =>
          rw [show i + (j + 1) = i + 1 + j from by omega]
          exact e7 j o' f hh v' (by simpa using hj) (by simpa using hrec) hk
      · intro j o' f hh v' hj hrec hk k' H hH hw
        cases j with
        | zero =>
          simp at hj hrec
          subst hj; obtain ⟨rfl, rfl, rfl⟩ := hrec
          exact hchk R HS e5 e4 hk k' H hH hw
        | succ j =>
          rw [show i + (j + 1) = i + 1 + j from by omega] at hw
          exact e8 j o' f hh v' (by simpa using hj) (by simpa using hrec) hk k' H hH hw
    have run : ∀ {fr1 : Fr}, FrLe fr1 big → wantedA ops big o = some true → (oneK E C fr1 o.op (dstTy E o) h fun v h' => evOpsR E C nt ops wn (i + 1) r (putD nt fr1 o.dst v) h' (recR i o fr1 v rs) (stgR i o h hs) k) = some b →
        ∃ recs fr' big' h' R HS, traceA E (callOf C) nt ops (o :: r) big h = some (recs, big', h') ∧ FrLe fr' big' ∧ k fr' h' = some b ∧ chkAll E wn HS R = true ∧ (∀ x ∈ rs, x ∈ R) ∧ (∀ H ∈ hs, H ∈ HS) ∧ (i + (o :: r).length, h') ∈ HS ∧
      (∀ (j : Nat) (o2 : Oper) (f : Fr) (hh : Heap) (v : AV), (o :: r)[j]? = some o2 → recs[j]? = some (f, hh, v) → kindA o2.op = 2 → (i + j, hh) ∈ HS) ∧
      (∀ (j : Nat) (o2 : Oper) (f : Fr) (hh : Heap) (v : AV), (o :: r)[j]? = some o2 → recs[j]? = some (f, hh, v) → kindA o2.op = 1 → ∀ k H, (k, H) ∈ HS → wn (i + j) k = true → ∃ u h2, stepA E (callOf C) ops f o2 H = some (u, h2) ∧ eqV u v = true) := by
      intro fr1 hle1 hw hx1
      obtain ⟨v, h1, e1, e2⟩ := oneK_spec hC hx1
      refine step hle1 (v := v) (rs1 := recR i o fr1 v rs) ?_ ?_ ?_ e2
      · simp only [stepA, hw]; exact oneA_le hle1 e1
      · intro x hx
        unfold recR
        cases Nat.beq (kindA o.op) 1
        · exact hx
        · exact List.mem_cons_of_mem _ hx
      · intro R HS hR hcall hk k' H hH hwn
        have hm : (i, fr1, o.op, v) ∈ R := hR _ (by unfold recR; rw [hk]; exact List.mem_cons_self)
        have hc := chkAll_spec hcall _ _ _ _ hm k' H hH hwn
        obtain ⟨u, h2, e3, e4⟩ := chk1_sound hc e1
        exact ⟨u, h2, by simp only [stepA, hw]; exact oneA_le hle1 e3, e4⟩
    have skip : ∀ {fr1 : Fr}, FrLe fr1 big → wantedA ops big o = some false → evOpsR E C nt ops wn (i + 1) r (putD nt fr1 o.dst undefA) h rs (stgR i o h hs) k = some b →
        ∃ recs fr' big' h' R HS, traceA E (callOf C) nt ops (o :: r) big h = some (recs, big', h') ∧ FrLe fr' big' ∧ k fr' h' = some b ∧ chkAll E wn HS R = true ∧ (∀ x ∈ rs, x ∈ R) ∧ (∀ H ∈ hs, H ∈ HS) ∧ (i + (o :: r).length, h') ∈ HS ∧
      (∀ (j : Nat) (o2 : Oper) (f : Fr) (hh : Heap) (v : AV), (o :: r)[j]? = some o2 → recs[j]? = some (f, hh, v) → kindA o2.op = 2 → (i + j, hh) ∈ HS) ∧
      (∀ (j : Nat) (o2 : Oper) (f : Fr) (hh : Heap) (v : AV), (o :: r)[j]? = some o2 → recs[j]? = some (f, hh, v) → kindA o2.op = 1 → ∀ k H, (k, H) ∈ HS → wn (i + j) k = true → ∃ u h2, stepA E (callOf C) ops f o2 H = some (u, h2) ∧ eqV u v = true) := by
      intro fr1 hle1 hw hx1
      refine step hle1 (v := undefA) (rs1 := rs) (by simp only [stepA, hw]) (fun _ h => h) ?_ hx1
      intro R HS _ _ _ _ H _ _
      exact ⟨undefA, H, by simp only [stepA, hw], eqV_refl _⟩
    simp only [evOpsR] at hx
    cases hg : o.guard with
    | none =>
      simp only [hg] at hx
      exact run hle (by simp only [wantedA, hg]) hx
    | some p =>
      obtain ⟨j, want⟩ := p
      simp only [hg] at hx
      cases hs1 : guardSlot ops j with
      | none => simp [hs1] at hx
      | some d =>
        simp only [hs1] at hx
        cases hv : fr.get d with
        | none => simp [hv] at hx
        | some u =>
          cases u with
          | bool t =>
            simp only [hv] at hx
            have hy : yieldedA ops big j = some t := yielded_of hs1 (hle d _ hv)
            have hfix := hle.fix hv
            cases t with
            | true =>
              cases want with
              | true =>
                simp only [cond_true] at hx
                exact run hfix (by simp only [wantedA, hg, hy, cond_true]) hx
              | false =>
                simp only [cond_true, cond_false] at hx
                exact skip hfix (by simp only [wantedA, hg, hy, cond_true]) hx
            | false =>
              cases want with
              | true =>
                simp only [cond_true, cond_false] at hx
                exact skip hfix (by simp only [wantedA, hg, hy, cond_false, Bool.not_true]) hx
              | false =>
                simp only [cond_false] at hx
                exact run hfix (by simp only [wantedA, hg, hy, cond_false, Bool.not_false]) hx
          | tuple l =>
            cases l with
            | nil =>
              simp only [hv] at hx
              have hy : yieldedA ops big j = none := by
                unfold guardSlot at hs1
                unfold yieldedA
                split at hs1
                · rename_i o2 ho2; simp only [ho2, hs1, hle d _ hv]
                · cases hs1
              have hu : unrunA ops big j = true := by
                unfold guardSlot at hs1
                unfold unrunA
                split at hs1
                · rename_i o2 ho2; simp only [ho2, hs1, hle d _ hv]
                · cases hs1
              exact skip hle (by simp only [wantedA, hg, hy, hu, cond_true]) hx
            | cons y r => simp [hv] at hx
          | _ => simp [hv] at hx

/-- what a piece of code comes to -/
def RunOK {β : Type} (nt : Nat) (fr : Fr) (h : Heap) (k : Out → Fr → Heap → Option β) (b : β) (K : (Exit → Act → World → Prop) → Act → World → Prop) : Prop :=
  ∀ (μ : Mu) (w : World) (a : Act) (Q : Exit → Act → World → Prop), HR μ h w → AR μ nt fr a →
    (∀ o fr' h' μ' a' w', AR μ' nt fr' a' → HR μ' h' w' → Ext μ h w μ' h' w' → k o fr' h' = some b → Q (exitOf o) a' w') → K Q a w

theorem region_run (ok : EnvOK E P) (hm : P.follows .mixedOrders = true) {C : CallK} (hC : CallKOK P C) {nt : Nat} (hnt : nt ≤ 1073741824) {β : Type} {id : Nat} {ops : Array Oper} {draw : Bool} {fr : Fr} {h : Heap} {k : Out → Fr → Heap → Option β} {b : β}
    (hx : (bif draw && !orderS ops.toList then (bif orderB ops.toList then evOpsR E C nt ops.toList (winB ops.toList (predsGo ops.toList [])) 0 ops.toList fr h [] [] fun fr' h' => k .norm fr' h' else bif orderP ops.toList then evOpsR E C nt ops.toList (fun _ _ => true) 0 ops.toList fr h [] [] fun fr' h' => k .norm fr' h' else bif orderR ops.toList then evOpsR E C nt ops.toList (fun _ _ => true) 0 ops.toList fr h [] [] fun fr' h' => k .norm fr' h' else none) else evOpsK E C nt ops.toList ops.toList fr h fun fr' h' => k .norm fr' h') = some b) : RunOK nt fr h k b (fun Q a w => (Code.region id ops draw).wp P Q a w) := by
  intro μ w a Q hr ha hq
  cases hd : (draw && !orderS ops.toList) with
  | true =>
    simp only [hd, cond_true] at hx
    cases hob : orderB ops.toList with
    | false =>
      simp only [hob, cond_false] at hx
      cases hop : orderP ops.toList with
      | false =>
        simp only [hop, cond_false] at hx
        cases hor : orderR ops.toList with
        | false => simp [hor] at hx
        | true =>
          simp only [hor, cond_true] at hx
          obtain ⟨recs, fr', big', h', R, HS, e1, e2, e3, _, _, _, eh, e7, e8⟩ := evOpsR_trace hC hnt hx (FrLe.refl fr)
          have hend : ∀ μ' a' w', AR μ' nt big' a' → HR μ' h' w' → Ext μ h w μ' h' w' → Q .normal a' w' := fun μ' a' w' ha' hr' hext => hq .norm fr' h' μ' a' w' (ha'.le e2) hr' hext e3
          have hdr : draw = true := by cases draw with
            | true => rfl
            | false => simp at hd
          subst hdr
          refine drawR_wp ok hm hC.ok (fr' := big') (h' := h') e1 hor ?_ hr ha hend
          intro i o f hh v hi hrec hk k Hk hstage
          rw [Nat.zero_add] at eh
          have hHS : (k, Hk) ∈ HS := by
            rcases hstage with ⟨o', f', v', h1, h2, h3⟩ | ⟨rfl, rfl⟩
            · have := e7 k o' f' Hk v' h1 h3 h2
              rwa [Nat.zero_add] at this
            · exact eh
          exact e8 i o f hh v hi hrec hk k Hk hHS rfl
      | true =>
        simp only [hop, cond_true] at hx
        obtain ⟨recs, fr', big', h', R, HS, e1, e2, e3, _, _, _, eh, e7, e8⟩ := evOpsR_trace hC hnt hx (FrLe.refl fr)
        have hend : ∀ μ' a' w', AR μ' nt big' a' → HR μ' h' w' → Ext μ h w μ' h' w' → Q .normal a' w' := fun μ' a' w' ha' hr' hext => hq .norm fr' h' μ' a' w' (ha'.le e2) hr' hext e3
        have hdr : draw = true := by cases draw with
          | true => rfl
          | false => simp at hd
        subst hdr
        refine drawP_wp ok hm hC.ok (fr' := big') (h' := h') e1 hop ?_ hr ha hend
        intro i o f hh v hi hrec hk
        rw [Nat.zero_add] at eh
        exact e8 i o f hh v hi hrec hk _ _ eh rfl
    | true =>
      simp only [hob, cond_true] at hx
      obtain ⟨recs, fr', big', h', R, HS, e1, e2, e3, _, _, _, eh, e7, e8⟩ := evOpsR_trace hC hnt hx (FrLe.refl fr)
      have hend : ∀ μ' a' w', AR μ' nt big' a' → HR μ' h' w' → Ext μ h w μ' h' w' → Q .normal a' w' := fun μ' a' w' ha' hr' hext => hq .norm fr' h' μ' a' w' (ha'.le e2) hr' hext e3
      have hdr : draw = true := by cases draw with
        | true => rfl
        | false => simp at hd
      subst hdr
      refine drawW_wp ok hm hC.ok (fr' := big') (h' := h') e1 hob ?_ hr ha hend
      intro i o f hh v hi hrec hk k Hk hstage hwin
      have hHS : (k, Hk) ∈ HS := by
        rcases hstage with ⟨o', f', v', h1, h2, h3⟩ | ⟨rfl, rfl⟩
        · have := e7 k o' f' Hk v' h1 h3 h2
          rwa [Nat.zero_add] at this
        · rwa [Nat.zero_add] at eh
      have hw : winB ops.toList (predsGo ops.toList []) i k = true := by
        unfold winB
        simp only [Bool.and_eq_true]
        refine ⟨winLo_spec.2 fun j hj o' ho' hk' => (hwin j o' ho' hk').1 hj, winHi_spec fun j ps hj o' ho' hk' hi' => ?_⟩
        rw [Nat.zero_add] at ho' ⊢
        exact (hwin j o' ho' hk').2 (by rw [hj]; exact hi')
      have := e8 i o f hh v hi hrec hk k Hk hHS
      rw [Nat.zero_add] at this
      exact this hw
  | false =>
    simp only [hd, cond_false] at hx
    obtain ⟨recs, fr', big', h', e1, e2, e3⟩ := evOpsK_trace hC hnt hx (FrLe.refl fr)
    have hend : ∀ μ' a' w', AR μ' nt big' a' → HR μ' h' w' → Ext μ h w μ' h' w' → Q .normal a' w' := fun μ' a' w' ha' hr' hext => hq .norm fr' h' μ' a' w' (ha'.le e2) hr' hext e3
    cases draw with
    | true =>
      simp only [Bool.true_and, Bool.not_eq_false'] at hd
      exact drawS_wp ok hm hC.ok e1 hd hr ha hend
    | false =>
      refine wp_region ?_
      rw [List.range_eq_range']
      exact evOps_wp ok hC.ok ops.size 0 μ h w fr a big' h' (by omega) (by simpa using trace_ops e1) hr ha hend

theorem evC0_run (ok : EnvOK E P) (hm : P.follows .mixedOrders = true) {C : CallK} (hC : CallKOK P C) {nt : Nat} (hnt : nt ≤ 1073741824) {β : Type} : ∀ (c : Code) {fr : Fr} {h : Heap} {k : Out → Fr → Heap → Option β} {b : β},
    evC0 E C nt c fr h k = some b → RunOK nt fr h k b (fun Q a w => c.wp P Q a w) := by
  intro c
  induction c with
  | skip => intro fr h k b hx μ w a Q hr ha hq; exact wp_skip (hq .norm fr h μ a w ha hr (Ext.refl μ h w) hx)
  | region id ops draw => intro fr h k b hx; exact region_run ok hm hC hnt hx
  | seq x y ihx ihy =>
    intro fr h k b hx μ w a Q hr ha hq
    refine wp_seq (ihx hx μ w a _ hr ha ?_)
    intro o fr' h' μ' a' w' ha' hr' hext hk
    cases o with
    | norm => exact ihy hk μ' w' a' Q hr' ha' fun o2 fr2 h2 μ2 a2 w2 ha2 hr2 hext2 hk2 => hq o2 fr2 h2 μ2 a2 w2 ha2 hr2 (Ext.trans hr hext hext2) hk2
    | exit id => exact hq _ fr' h' μ' a' w' ha' hr' hext hk
    | ret => exact hq _ fr' h' μ' a' w' ha' hr' hext hk
  | cond c x y ihx ihy =>
    intro fr h k b hx μ w a Q hr ha hq
    simp only [evC0] at hx
    split at hx
    · rename_i t hb
      have hv := opnd_sound ha hb
      simp only [VR] at hv
      refine wp_cond hv ?_
      cases t with
      | true => simp only [cond_true] at hx; exact ihx hx μ w a Q hr ha hq
      | false => simp only [cond_false] at hx; exact ihy hx μ w a Q hr ha hq
    · simp at hx
  | block id c ih =>
    intro fr h k b hx μ w a Q hr ha hq
    refine wp_block (ih hx μ w a _ hr ha ?_)
    intro o fr' h' μ' a' w' ha' hr' hext hk
    cases o with
    | norm => exact hq .norm fr' h' μ' a' w' ha' hr' hext hk
    | exit id' =>
      simp only at hk
      cases hb : Nat.beq id' id with
      | true =>
        simp only [hb, cond_true] at hk
        have : id' = id := Nat.eq_of_beq_eq_true hb
        simp only [exitOf, Exit.inBlock, this, if_true]
        exact hq .norm fr' h' μ' a' w' ha' hr' hext hk
      | false =>
        simp only [hb, cond_false] at hk
        have : id' ≠ id := fun e => by rw [bt e] at hb; cases hb
        simp only [exitOf, Exit.inBlock, this, if_false]
        exact hq (.exit id') fr' h' μ' a' w' ha' hr' hext hk
    | ret => exact hq .ret fr' h' μ' a' w' ha' hr' hext hk
  | exit id => intro fr h k b hx μ w a Q hr ha hq; exact wp_exit (hq (.exit id) fr h μ a w ha hr (Ext.refl μ h w) hx)
  | ret => intro fr h k b hx μ w a Q hr ha hq; exact wp_ret (hq .ret fr h μ a w ha hr (Ext.refl μ h w) hx)
  | scope c ih =>
    intro fr h k b hx μ w a Q hr ha hq
    refine wp_scope_straight (ih hx μ w a _ hr ha ?_)
    intro o fr' h' μ' a' w' ha' hr' hext hk
    have := hq o fr' h' μ' a' w' ha' hr' hext hk
    cases o <;> exact this
  | label l => intro fr h k b hx μ w a Q hr ha hq; exact wp_label (hq .norm fr h μ a w ha hr (Ext.refl μ h w) hx)
  | loop => intro fr h k b hx; simp [evC0] at hx
  | rangeFunc => intro fr h k b hx; simp [evC0] at hx
  | goto => intro fr h k b hx; simp [evC0] at hx
  | refuse => intro fr h k b hx; simp [evC0] at hx
end
end Go.Proofs.YtjeaammlambkeaaDoor.Ai

namespace Go.Proofs.YtjeaammlambkeaaDoor.Ai
section
variable {E : Env} {P : Program}
theorem jget_spec {β : Type} : ∀ {os : List (Out × List (Nat × VTy))} {o : Out} {fr : Fr} {h : Heap} {K : jden os → Option β} {b : β}, jget os o fr h K = some b →
    ∃ j, K j = some b ∧ ∀ {γ : Type} (K2 : Out → Fr → Heap → Option γ) (c : γ), jdisp os j K2 = some c → ∃ fr2, FrLe fr2 fr ∧ K2 o fr2 h = some c
  | [], o, fr, h, K, b, hx => by cases hx
  | p :: r, o, fr, h, K, b, hx => by
    simp only [jget] at hx
    cases he : eqOut o p.1 with
    | true =>
      simp only [he, cond_true] at hx
      obtain ⟨xs, h1, h2⟩ := getL_spec hx
      refine ⟨_, h2, fun K2 c hc => ⟨frL p.2 xs, h1, ?_⟩⟩
      rw [eqOut_eq he]; exact hc
    | false =>
      simp only [he, cond_false] at hx
      obtain ⟨j, h1, h2⟩ := jget_spec hx
      exact ⟨_, h1, fun K2 c hc => h2 K2 c hc⟩
def loopBody (E : Env) (C : CallK) (N nt : Nat) (li : List (Nat × VTy)) (outs : List Out) (lo : List (Nat × VTy)) (x : Ann) (c : Code) (go : vdens (li.map (·.2)) → Heap → Option (Out × vdens (lo.map (·.2)) × Heap)) (vs : vdens (li.map (·.2))) (h : Heap) : Option (Out × vdens (lo.map (·.2)) × Heap) :=
  evCK E C N nt x c (frL li vs) h fun o fr' h' => match o with
        | .norm => getL li fr' fun ws => go ws h'
        | o => bif inOuts outs o then getL lo fr' fun us => some (o, us, h') else none
theorem evCK_run (ok : EnvOK E P) (hm : P.follows .mixedOrders = true) {C : CallK} (hC : CallKOK P C) {N nt : Nat} (hnt : nt ≤ 1073741824) : ∀ (x : Ann) (c : Code) {β : Type} {fr : Fr} {h : Heap} {k : Out → Fr → Heap → Option β} {b : β},
    evCK E C N nt x c fr h k = some b → RunOK nt fr h k b (fun Q a w => c.wp P Q a w) := by
  intro x
  induction x with
  | n => intro c β fr h k b hx; exact evC0_run ok hm hC hnt c hx
  | two x y ihx ihy =>
    intro c β fr h k b hx μ w a Q hr ha hq
    simp only [evCK] at hx
    split at hx
    · refine wp_seq (ihx _ hx μ w a _ hr ha ?_)
      intro o fr' h' μ' a' w' ha' hr' hext hk
      cases o with
      | norm => exact ihy _ hk μ' w' a' Q hr' ha' fun o2 fr2 h2 μ2 a2 w2 ha2 hr2 hext2 hk2 => hq o2 fr2 h2 μ2 a2 w2 ha2 hr2 (Ext.trans hr hext hext2) hk2
      | exit id => exact hq _ fr' h' μ' a' w' ha' hr' hext hk
      | ret => exact hq _ fr' h' μ' a' w' ha' hr' hext hk
    · split at hx
      · rename_i t hb
        have hv := opnd_sound ha hb
        simp only [VR] at hv
        refine wp_cond hv ?_
        cases t with
        | true => simp only [cond_true] at hx; exact ihx _ hx μ w a Q hr ha hq
        | false => simp only [cond_false] at hx; exact ihy _ hx μ w a Q hr ha hq
      · simp at hx
    · rename_i id c
      refine wp_block (ihx _ hx μ w a _ hr ha ?_)
      intro o fr' h' μ' a' w' ha' hr' hext hk
      cases o with
      | norm => exact hq .norm fr' h' μ' a' w' ha' hr' hext hk
      | exit id' =>
        simp only at hk
        cases hb : Nat.beq id' id with
        | true =>
          simp only [hb, cond_true] at hk
          have : id' = id := Nat.eq_of_beq_eq_true hb
          simp only [exitOf, Exit.inBlock, this, if_true]
          exact hq .norm fr' h' μ' a' w' ha' hr' hext hk
        | false =>
          simp only [hb, cond_false] at hk
          have : id' ≠ id := fun e => by rw [bt e] at hb; cases hb
          simp only [exitOf, Exit.inBlock, this, if_false]
          exact hq (.exit id') fr' h' μ' a' w' ha' hr' hext hk
      | ret => exact hq .ret fr' h' μ' a' w' ha' hr' hext hk
    · rename_i c
      refine wp_scope_straight (ihx _ hx μ w a _ hr ha ?_)
      intro o fr' h' μ' a' w' ha' hr' hext hk
      have := hq o fr' h' μ' a' w' ha' hr' hext hk
      cases o <;> exact this
    · cases hx
  | join live x ih =>
    intro c β fr h k b hx μ w a Q hr ha hq
    simp only [evCK] at hx
    obtain ⟨us, h1, e1, e2⟩ := bind2_spec hx
    refine ih _ e1 μ w a Q hr ha ?_
    intro o fr' h' μ' a' w' ha' hr' hext hk
    cases o with
    | norm =>
      obtain ⟨xs, e3, e4⟩ := getL_spec hk
      simp only [Option.some.injEq, Prod.mk.injEq] at e4
      obtain ⟨rfl, rfl⟩ := e4
      exact hq .norm _ h' μ' a' w' (ha'.le e3) hr' hext e2
    | exit id => simp at hk
    | ret => simp at hk
  | joinO os x ih =>
    intro c β fr h k b hx μ w a Q hr ha hq
    simp only [evCK] at hx
    obtain ⟨j, e1, e2⟩ := need_spec hx
    refine ih _ e1 μ w a Q hr ha ?_
    intro o1 fr' h' μ' a' w' ha' hr' hext hk
    obtain ⟨j', e3, e4⟩ := jget_spec hk
    cases e3
    obtain ⟨fr2, e5, e6⟩ := e4 _ _ e2
    exact hq _ _ h' μ' a' w' (ha'.le e5) hr' hext e6
  | loop li outs lo x ih =>
    intro c β fr h k b hx μ w a Q hr ha hq
    simp only [evCK] at hx
    split at hx
    · rename_i c
      obtain ⟨vs, e0, hx⟩ := getL_spec hx
      obtain ⟨o, us, h1, e1, e2⟩ := bind3_spec hx
      have rounds : ∀ (M : Nat) (vs : vdens (li.map (·.2))) (h0 : Heap), iter (loopBody E C N nt li outs lo x c) M vs h0 = some (o, us, h1) →
          ∀ (μ : Mu) (w : World) (a : Act) (Q : Exit → Act → World → Prop), HR μ h0 w → AR μ nt (frL li vs) a →
            (∀ μ' a' w', o ∈ outs → AR μ' nt (frL lo us) a' → HR μ' h1 w' → Ext μ h0 w μ' h1 w' → Q (exitOf o) a' w') → Code.rounds P c Q M a w := by
        intro M
        induction M with
        | zero => intro vs h0 he; cases he
        | succ M ihM =>
          intro vs h0 he
          have he' : loopBody E C N nt li outs lo x c (iter (loopBody E C N nt li outs lo x c) M) vs h0 = some (o, us, h1) := he
          unfold loopBody at he'
          have hrun := ih c he'
          intro μ w a Q hr ha hq
          rw [rounds_succ]
          refine hrun μ w a _ hr ha ?_
          intro o1 fr' h' μ' a' w' ha' hr' hext hk
          have other : ∀ (hne : o1 ≠ .norm), (bif inOuts outs o1 then getL lo fr' fun us => some (o1, us, h') else none) = some (o, us, h1) → Q (exitOf o1) a' w' := by
            intro hne hk
            cases hin : inOuts outs o1 with
            | false => simp [hin] at hk
            | true =>
              simp only [hin, cond_true] at hk
              obtain ⟨xs, e3, e4⟩ := getL_spec hk
              simp only [Option.some.injEq, Prod.mk.injEq] at e4
              obtain ⟨rfl, rfl, rfl⟩ := e4
              exact hq μ' a' w' (inOuts_mem hin) (ha'.le e3) hr' hext
          cases o1 with
          | norm =>
            obtain ⟨ws, e3, e4⟩ := getL_spec hk
            exact ihM ws h' e4 μ' w' a' Q hr' (ha'.le e3) fun μ2 a2 w2 hm2 ha2 hr2 hext2 => hq μ2 a2 w2 hm2 ha2 hr2 (Ext.trans hr hext hext2)
          | exit id => exact other (by simp) hk
          | ret => exact other (by simp) hk
      exact wp_loop_rounds _ (rounds _ vs h e1 μ w a Q hr (ha.le e0) fun μ' a' w' hmem ha' hr' hext => hq o _ h1 μ' a' w' ha' hr' hext (disp_spec hmem e2))
    · simp at hx

theorem resK_spec {β : Type} {fr : Fr} {h : Heap} : ∀ {l : List (ResultVar × VTy)} {K : List AV → Option β} {b : β}, resK E fr h l K = some b → ∃ vs, resultsA E fr h (l.map (·.1)) = some vs ∧ K vs = some b
  | [], K, b, hx => ⟨[], rfl, hx⟩
  | (.tmp t, c) :: r, K, b, hx => by
    simp only [resK] at hx
    cases hg : fr.get t with
    | none => simp [hg] at hx
    | some v =>
      simp only [hg] at hx
      obtain ⟨vs, h1, h2⟩ := resK_spec hx
      exact ⟨v :: vs, by simp only [List.map_cons, resultsA, hg, h1], h2⟩
  | (.cell a t, c) :: r, K, b, hx => by
    simp only [resK] at hx
    split at hx
    · rename_i p hg
      split at hx
      · rename_i hagg
        split at hx
        · rename_i n hn
          obtain ⟨q, rfl, h3⟩ := need_spec hx
          obtain ⟨y, h4, h5⟩ := bindV_spec h3
          obtain ⟨l, h6, h7⟩ := cells_read h4
          obtain ⟨vs, h2, h3⟩ := resK_spec h5
          refine ⟨c.to y :: vs, ?_, h3⟩
          have hl : loadA E h t (.ptr (some q)) = some (c.to y) := by simp [loadA, hagg, hn, h6]; exact h7.symm
          simp only [List.map_cons, resultsA, hg, hl, h2]
        · cases hx
      · rename_i hagg
        obtain ⟨q, rfl, h3⟩ := need_spec hx
        obtain ⟨y, h4, h5⟩ := bindV_spec h3
        obtain ⟨vs, h2, h3⟩ := resK_spec h5
        refine ⟨c.to y :: vs, ?_, h3⟩
        have hl : loadA E h t (.ptr (some q)) = some (c.to y) := by simp [loadA, hagg, cell_read h4]; rfl
        simp only [List.map_cons, resultsA, hg, hl, h2]
      · cases hx
    · cases hx

/-- A TYPED FUNCTION THAT SAYS WHAT A FUNCTION OF THE PROGRAM COMES TO -/
def FnOK (P : Program) (f : FuncId) (l : List VTy) (t : Ty) (F : vdens l → Heap → Option (t.den × Heap)) : Prop :=
  ∀ xs h r h', F xs h = some (r, h') → ∀ μ w (args' : Array Value), HR μ h w → VRs μ (VTy.tos l xs) args'.toList →
    (callFunc f args').run P w = .ok (.enter f args') w ∧ Calls P f args' w fun e w' => ∃ u, e = .returned u ∧ Post μ h w (t.to r) h' u w'

theorem noCalls_ok : CallKOK P noCalls where
  nat := by intro β f args h k b hx; cases hx
  ok := by intro f args h v h' hx; cases hx
theorem CTy.cast_to {β : Type} : ∀ (c : CTy) (x : c.den) (K : c.den → Option β), c.cast (c.to x) K = K x
  | .bool, x, K => rfl
  | .int k, x, K => by simp [CTy.cast, CTy.to, eqKind]
  | .str, x, K => rfl
  | .ptr, x, K => rfl
  | .slice, x, K => rfl
  | .any, x, K => rfl
theorem CTy.casts_tos {β : Type} : ∀ (l : List CTy) (x : dens l) (K : dens l → Option β), CTy.casts l (CTy.tos l x) K = K x
  | [], x, K => rfl
  | c :: r, x, K => by simp only [CTy.tos, CTy.casts, CTy.cast_to, CTy.casts_tos r]
theorem VTy.cast_to {β : Type} : ∀ (c : VTy) (x : c.den) (K : c.den → Option β), c.cast (c.to x) K = K x
  | .one c, x, K => CTy.cast_to c x K
  | .agg l, x, K => CTy.casts_tos l x K
  | .clo g l, x, K => by simp only [VTy.cast, VTy.to, Nat.beq_refl, cond_true]; exact CTy.casts_tos l x K
theorem VTy.casts_tos {β : Type} : ∀ (l : List VTy) (x : vdens l) (K : vdens l → Option β), VTy.casts l (VTy.tos l x) K = K x
  | [], x, K => rfl
  | c :: r, x, K => by simp only [VTy.tos, VTy.casts, VTy.cast_to, VTy.casts_tos r]
theorem addCall_ok {f : FuncId} {l : List VTy} {t : Ty} {F : vdens l → Heap → Option (t.den × Heap)} {C : CallK} (hF : FnOK P f l t F) (hC : CallKOK P C) : CallKOK P (addCall f l t F C) := by
  constructor
  · intro β g args h k b hx
    unfold addCall at hx
    cases hg : Nat.beq g f with
    | true =>
      simp only [hg, cond_true] at hx
      obtain ⟨xs, rfl, h1⟩ := VTy.casts_spec hx
      obtain ⟨r, h', h2, h3⟩ := bind2_spec h1
      refine ⟨t.to r, h', ?_, h3⟩
      simp only [callOf, addCall, hg, cond_true, VTy.casts_tos, h2, bind2]
    | false =>
      simp only [hg, cond_false] at hx
      obtain ⟨v, h', h1, h2⟩ := hC.nat hx
      exact ⟨v, h', by simp only [callOf, addCall, hg, cond_false]; exact h1, h2⟩
  · intro g args h v h' hx μ w args' hr hv
    simp only [callOf, addCall] at hx
    cases hg : Nat.beq g f with
    | true =>
      simp only [hg, cond_true] at hx
      obtain ⟨xs, rfl, h1⟩ := VTy.casts_spec hx
      obtain ⟨r, h2, h3, h4⟩ := bind2_spec h1
      simp only [Option.some.injEq, Prod.mk.injEq] at h4
      obtain ⟨rfl, rfl⟩ := h4
      have := Nat.eq_of_beq_eq_true hg
      subst this
      exact .inr (hF xs h r h2 h3 μ w args' hr hv)
    | false =>
      simp only [hg, cond_false] at hx
      exact hC.ok g args h v h' hx μ w args' hr hv

theorem addCallS_ok {f : FuncId} {sel : List AV → Bool} {l : List VTy} {t : Ty} {F : vdens l → Heap → Option (t.den × Heap)} {C : CallK} (hF : FnOK P f l t F) (hC : CallKOK P C) : CallKOK P (addCallS f sel l t F C) := by
  constructor
  · intro β g args h k b hx
    unfold addCallS at hx
    cases hg : Nat.beq g f with
    | true =>
      cases hs : sel args with
      | true =>
        simp only [hg, hs, cond_true] at hx
        obtain ⟨xs, rfl, h1⟩ := VTy.casts_spec hx
        obtain ⟨r, h', h2, h3⟩ := bind2_spec h1
        refine ⟨t.to r, h', ?_, h3⟩
        simp only [callOf, addCallS, hg, hs, cond_true, VTy.casts_tos, h2, bind2]
      | false =>
        simp only [hg, hs, cond_true, cond_false] at hx
        obtain ⟨v, h', h1, h2⟩ := hC.nat hx
        exact ⟨v, h', by simp only [callOf, addCallS, hg, hs, cond_true, cond_false]; exact h1, h2⟩
    | false =>
      simp only [hg, cond_false] at hx
      obtain ⟨v, h', h1, h2⟩ := hC.nat hx
      exact ⟨v, h', by simp only [callOf, addCallS, hg, cond_false]; exact h1, h2⟩
  · intro g args h v h' hx μ w args' hr hv
    simp only [callOf, addCallS] at hx
    cases hg : Nat.beq g f with
    | true =>
      cases hs : sel args with
      | true =>
        simp only [hg, hs, cond_true] at hx
        obtain ⟨xs, rfl, h1⟩ := VTy.casts_spec hx
        obtain ⟨r, h2, h3, h4⟩ := bind2_spec h1
        simp only [Option.some.injEq, Prod.mk.injEq] at h4
        obtain ⟨rfl, rfl⟩ := h4
        have := Nat.eq_of_beq_eq_true hg
        subst this
        exact .inr (hF xs h r h2 h3 μ w args' hr hv)
      | false =>
        simp only [hg, hs, cond_true, cond_false] at hx
        exact hC.ok g args h v h' hx μ w args' hr hv
    | false =>
      simp only [hg, cond_false] at hx
      exact hC.ok g args h v h' hx μ w args' hr hv
/-- THE RULE: a function's code, run by the typed evaluator, over calls that are right -/
theorem runK_ok (ok : EnvOK E P) (hm : P.follows .mixedOrders = true) {C : CallK} (hC : CallKOK P C) {N : Nat} {x : Ann} {f : FuncId} {fn : Func} {c : Code} {l : List VTy} {t : Ty} {F : vdens l → Heap → Option (t.den × Heap)}
    (hf : E.fn f = some fn) (hb : fn.body = some c) (hnt : Nat.ble fn.ntmps 1073741824 = true) (hsz : Nat.beq fn.results.size fn.resultTypes.size = true) (hF : ∀ xs h, F xs h = runK E C N x fn c t (VTy.tos l xs) h) : FnOK P f l t F := by
  intro xs h r h' hx μ w args' hr hv
  rw [hF] at hx
  unfold runK at hx
  have hnt' : fn.ntmps ≤ 1073741824 := by simpa using hnt
  obtain ⟨hfp, hname⟩ := ok.fn f fn hf
  cases hle : Nat.ble (VTy.tos l xs).length fn.ntmps with
  | false => simp [hle] at hx
  | true =>
    simp only [hle, cond_true] at hx
    have hle' : (VTy.tos l xs).length ≤ fn.ntmps := by simpa using hle
    have hargs : args'.size = (VTy.tos l xs).length := by simpa using hv.length
    refine ⟨?_, ?_⟩
    · unfold callFunc
      refine (run_bind_ok (P := P) (a := P) (w' := w) rfl).trans ?_
      rw [hfp]
      simp only [hname, Bool.false_eq_true, if_false, hb, Option.isNone_some]
      rfl
    · refine calls_of_wp hfp hb ?_
      refine evCK_run ok hm hC hnt' x c hx μ w _ _ hr ?_ ?_
      · refine ⟨fun t x hx => ?_, by simp [hargs]; omega, rfl⟩
        rcases initFr_get (VTy.tos l xs) 0 .nil t x hx with ⟨_, h2⟩ | h2
        · obtain ⟨y, h3, h4⟩ := hv.get h2
          have h3' : args'[t]? = some y := by simpa using h3
          have hlt : t < args'.size := (Array.getElem?_eq_some_iff.1 h3').1
          have : (args' ++ Array.replicate (fn.ntmps - args'.size) undef).getD t undef = y := by
            simp only [Array.getD_eq_getD_getElem?]
            rw [Array.getElem?_append_left hlt, h3']; rfl
          rw [this]; exact h4
        · simp [Tr.get_nil] at h2
      · intro out fr1 h1 μ' a' w' ha' hr' hext hk
        have hres : (exitOf out = .normal ∨ exitOf out = .ret) ∧ resK E fr1 h1 (fn.results.toList.zip (fn.resultTypes.toList.map (vtyOf E))) (fun vs => t.cast (tupA vs) fun r => some (r, h1)) = some (r, h') := by
          cases out with
          | norm => exact ⟨.inl rfl, hk⟩
          | ret => exact ⟨.inr rfl, hk⟩
          | exit id => cases hk
        obtain ⟨hres, hk⟩ := hres
        obtain ⟨vs, hrs, hk⟩ := resK_spec hk
        obtain ⟨r', hr1, hk⟩ := Ty.cast_spec hk
        simp only [Option.some.injEq, Prod.mk.injEq] at hk
        obtain ⟨rfl, rfl⟩ := hk
        have hfin : a'.defers = [] ∧ ∃ u, (results fn a'.tmps).run P w' = .ok u w' ∧ ∃ u', Ending.returned u = .returned u' ∧ Post μ h w (t.to r') h1 u' w' := by
          refine ⟨ha'.defers, ?_⟩
          have hzip : (fn.results.toList.zip (fn.resultTypes.toList.map (vtyOf E))).map (·.1) = fn.results.toList := by
            have hsz' : fn.results.size = fn.resultTypes.size := Nat.eq_of_beq_eq_true hsz
            exact List.map_fst_zip (by simp; omega)
          rw [hzip] at hrs
          obtain ⟨us, g1, g2⟩ := results_sound (P := P) (g := fun | .tmp t => pure (a'.tmps.getD t undef) | .cell a t => do loadVar t (← asAddr (a'.tmps.getD a undef))) ok hr' ha' (fun _ => rfl) (fun _ _ => rfl) hrs
          have hrun : ∀ (r : Value), (if hs : us.toArray.size = 1 then us.toArray[0] else .tuple us.toArray) = r → (results fn a'.tmps).run P w' = .ok r w' := by
            intro r hr0
            have hmap : (fn.results.mapM (fun | .tmp t => pure (a'.tmps.getD t undef) | .cell a t => do loadVar t (← asAddr (a'.tmps.getD a undef)) : ResultVar → Sem Value)).run P w' = .ok us.toArray w' := by
              rw [Array.mapM_eq_mapM_toList, Sem.run_map, g1]; rfl
            unfold results
            exact (run_bind_ok (P := P) hmap).trans (by rw [← hr0]; rfl)
          have hul := g2.length
          rw [hr1]
          by_cases h1v : ∃ v, vs = [v]
          · obtain ⟨v, rfl⟩ := h1v
            simp only [VRs] at g2
            obtain ⟨y, ys, rfl, g3, rfl⟩ := g2
            exact ⟨y, hrun y (by simp), y, rfl, μ', g3, hr', hext⟩
          · have hn1 : us.toArray.size ≠ 1 := by
              intro e
              have : vs.length = 1 := by rw [← hul]; simpa using e
              obtain ⟨z, hz⟩ := List.length_eq_one_iff.1 this
              exact h1v ⟨z, hz⟩
            have htup : tupA vs = .tuple vs := by
              unfold tupA; split
              · exact absurd ⟨_, rfl⟩ h1v
              · rfl
            rw [htup]
            exact ⟨.tuple us.toArray, hrun _ (by rw [dif_neg hn1]), _, rfl, μ', by simp only [VR]; exact ⟨_, rfl, by simpa using g2⟩, hr', hext⟩
        rcases hres with e | e <;> rw [e] <;> exact hfin
end
end Go.Proofs.YtjeaammlambkeaaDoor.Ai

namespace Go.Proofs.YtjeaammlambkeaaDoor.Ai
/-! the abstract heap, for proofs -/
theorem Tr.get_set_of {α : Type} {t : Tr α} {n m : Nat} {x : α} (hne : m ≠ n) : (t.set n x).get m = t.get m := by
  cases h : (t.set n x).get m with
  | some y =>
    rcases Tr.get_set h with ⟨h1, _⟩ | ⟨_, h1⟩
    · exact absurd h1 hne
    · exact h1.symm
  | none =>
    cases h2 : t.get m with
    | none => rfl
    | some y => rw [Tr.get_set_other hne h2] at h; cases h
/-- block A is a row of these cells -/
def Heap.is (h : Heap) (A : Nat) (cs : List AV) : Prop := h.t.get A = some (.row cs .own) ∧ A < h.next
theorem Heap.is.lt {h : Heap} {A : Nat} {cs : List AV} (hx : h.is A cs) : A < h.next := hx.2
theorem Heap.is_push (h : Heap) (cs : List AV) : (h.push (.row cs .own)).is h.next cs := ⟨Tr.get_set_same, Nat.lt_succ_self _⟩
theorem Heap.is.push {h : Heap} {A : Nat} {cs : List AV} (hx : h.is A cs) (b : Blk) : (h.push b).is A cs :=
  ⟨(Tr.get_set_of (Nat.ne_of_lt hx.2)).trans hx.1, Nat.lt_succ_of_lt hx.2⟩
theorem Heap.is.put_same {h : Heap} {A : Nat} {cs : List AV} (hx : h.is A cs) (cs' : List AV) : (h.put A (.row cs' .own)).is A cs' := ⟨Tr.get_set_same, hx.2⟩
theorem Heap.is.put_other {h : Heap} {A B : Nat} {cs : List AV} (hx : h.is A cs) (hne : A ≠ B) (b : Blk) : (h.put B b).is A cs := ⟨(Tr.get_set_of hne).trans hx.1, hx.2⟩
theorem Heap.is.row {h : Heap} {A : Nat} {cs : List AV} (hx : h.is A cs) : h.row A = some cs := by simp [Heap.row, hx.1]
theorem Heap.is.rowW {h : Heap} {A : Nat} {cs : List AV} (hx : h.is A cs) : h.rowW A = some (cs, .own) := by simp [Heap.rowW, hx.1]
theorem Heap.is.cell {h : Heap} {A : Nat} {cs : List AV} (hx : h.is A cs) (i : Nat) : h.cell (A, i) = (cs.drop i).head? := by
  simp only [Heap.cell, hx.row]
  cases cs.drop i <;> rfl
theorem Heap.is.cells {h : Heap} {A : Nat} {cs : List AV} (hx : h.is A cs) (i n : Nat) : h.cells (A, i) n = (takeN n (cs.drop i)).map AV.agg := by
  simp only [Heap.cells, Heap.read, hx.row]
  cases takeN n (cs.drop i) <;> rfl
theorem Heap.is.store {h : Heap} {A : Nat} {cs cs' : List AV} (hx : h.is A cs) (i : Nat) (vs : List AV) (ho : over i cs vs = some cs') : h.store (A, i) vs = some (h.put A (.row cs' .own)) := by
  simp only [Heap.store, hx.rowW, ho]
@[simp] theorem Heap.push_next (h : Heap) (b : Blk) : (h.push b).next = h.next + 1 := rfl
@[simp] theorem Heap.put_next (h : Heap) (A : Nat) (b : Blk) : (h.put A b).next = h.next := rfl
@[simp] theorem bind2_some {α β : Type} (v : α) (h : Heap) (k : α → Heap → Option β) : bind2 (some (v, h)) k = k v h := rfl
@[simp] theorem bind3_some {α β : Type} (o : Out) (v : α) (h : Heap) (k : Out → α → Heap → Option β) : bind3 (some (o, v, h)) k = k o v h := rfl
@[simp] theorem need_some {α β : Type} (a : α) (K : α → Option β) : need (some a) K = K a := rfl
@[simp] theorem bindV_some {β : Type} (t : Ty) (v : AV) (K : t.den → Option β) : bindV t (some v) K = t.cast v K := rfl
@[simp] theorem bindT_some {β : Type} (t : Ty) (v : AV) (h : Heap) (K : t.den → Heap → Option β) : bindT t (some (v, h)) K = t.cast v fun y => K y h := rfl
@[simp] theorem cast_bool {β : Type} (b : Bool) (K : Bool → Option β) : (Ty.val (.one .bool)).cast (.bool b) K = K b := rfl
@[simp] theorem cast_int {β : Type} (k : IntKind) (n : Int) (K : Int → Option β) : (Ty.val (.one (.int k))).cast (.int k n) K = K n := CTy.cast_to (.int k) n K
@[simp] theorem cast_str {β : Type} (s : List UInt8) (K : List UInt8 → Option β) : (Ty.val (.one .str)).cast (.str s) K = K s := rfl
@[simp] theorem cast_ptr {β : Type} (p : Option (Nat × Nat)) (K : Option (Nat × Nat) → Option β) : (Ty.val (.one .ptr)).cast (.ptr p) K = K p := rfl
@[simp] theorem cast_slice {β : Type} (a : Option (Nat × Nat)) (l c s : Nat) (K : SL → Option β) : (Ty.val (.one .slice)).cast (.slice a l c s) K = K ⟨a, l, c, s⟩ := rfl
@[simp] theorem cast_any {β : Type} (v : AV) (K : AV → Option β) : (Ty.val (.one .any)).cast v K = K v := rfl
@[simp] theorem cast_agg {β : Type} (l : List CTy) (cs : List AV) (K : dens l → Option β) : (Ty.val (.agg l)).cast (.agg cs) K = CTy.casts l cs K := rfl
@[simp] theorem casts_nil {β : Type} (K : Unit → Option β) : CTy.casts [] [] K = K () := rfl
@[simp] theorem casts_bool {β : Type} (r : List CTy) (b : Bool) (vs : List AV) (K : Bool × dens r → Option β) : CTy.casts (.bool :: r) (.bool b :: vs) K = CTy.casts r vs fun xs => K (b, xs) := rfl
@[simp] theorem casts_int {β : Type} (r : List CTy) (k : IntKind) (n : Int) (vs : List AV) (K : Int × dens r → Option β) : CTy.casts (.int k :: r) (.int k n :: vs) K = CTy.casts r vs fun xs => K (n, xs) := by simp [CTy.casts, CTy.cast, eqKind]
@[simp] theorem casts_slice {β : Type} (r : List CTy) (a : Option (Nat × Nat)) (l c s : Nat) (vs : List AV) (K : SL × dens r → Option β) : CTy.casts (.slice :: r) (.slice a l c s :: vs) K = CTy.casts r vs fun xs => K (⟨a, l, c, s⟩, xs) := rfl
@[simp] theorem casts_ptr {β : Type} (r : List CTy) (p : Option (Nat × Nat)) (vs : List AV) (K : Option (Nat × Nat) × dens r → Option β) : CTy.casts (.ptr :: r) (.ptr p :: vs) K = CTy.casts r vs fun xs => K (p, xs) := rfl
@[simp] theorem casts_str {β : Type} (r : List CTy) (s : List UInt8) (vs : List AV) (K : List UInt8 × dens r → Option β) : CTy.casts (.str :: r) (.str s :: vs) K = CTy.casts r vs fun xs => K (s, xs) := rfl
@[simp] theorem casts_any {β : Type} (r : List CTy) (v : AV) (vs : List AV) (K : AV × dens r → Option β) : CTy.casts (.any :: r) (v :: vs) K = CTy.casts r vs fun xs => K (v, xs) := rfl
theorem iter_succ {σ ρ : Type} (body : (σ → Heap → Option ρ) → σ → Heap → Option ρ) (N : Nat) (s : σ) (h : Heap) : iter body (N + 1) s h = body (iter body N) s h := rfl
theorem wrapA_small {x : Int} (h1 : -9223372036854775808 ≤ x) (h2 : x ≤ 9223372036854775807) : wrapA .i64 x = x := by rw [wrapA_eq]; exact IntWalk.i64_in x ⟨h1, h2⟩
theorem ltInt_dec (a b : Int) : ltInt a b = decide (a < b) := by rw [ltInt_eq]
theorem leInt_dec (a b : Int) : leInt a b = decide (a ≤ b) := by rw [leInt_eq]
theorem eqInt_dec (a b : Int) : eqInt a b = decide (a = b) := by rw [eqInt_eq]; rfl
end Go.Proofs.YtjeaammlambkeaaDoor.Ai

namespace Go.Proofs.YtjeaammlambkeaaDoor.Ai
/-! the heap as a simp set: 'simp (disch := omega) [hs]' -/
def Heap.g (h : Heap) (A : Nat) : Option Blk := h.t.get A
def cellB (b : Option Blk) (i : Nat) : Option AV := match b with
  | some (.row cs .own) => (cs.drop i).head?
  | some (.row cs .grown) => (cs.drop i).head?
  | some (.row cs (.bytes _)) => (cs.drop i).head?
  | some (.row cs (.ty _)) => (cs.drop i).head?
  | some (.row cs .ro) => (cs.drop i).head?
  | _ => none
def cellsB (b : Option Blk) (i n : Nat) : Option AV := match b with
  | some (.row cs .own) => (takeN n (cs.drop i)).map AV.agg
  | some (.row cs .grown) => (takeN n (cs.drop i)).map AV.agg
  | some (.row cs (.bytes _)) => (takeN n (cs.drop i)).map AV.agg
  | some (.row cs (.ty _)) => (takeN n (cs.drop i)).map AV.agg
  | some (.row cs .ro) => (takeN n (cs.drop i)).map AV.agg
  | _ => none
def storeB (h : Heap) (A : Nat) (b : Option Blk) (i : Nat) (vs : List AV) : Option Heap := match b with
  | some (.row cs .own) => (over i cs vs).map fun cs' => h.put A (.row cs' .own)
  | some (.row cs .grown) => (over i cs vs).map fun cs' => h.put A (.row cs' .grown)
  | some (.row cs (.bytes t)) => (over i cs vs).map fun cs' => h.put A (.row cs' (.bytes t))
  | some (.row cs (.ty t)) => (over i cs vs).map fun cs' => h.put A (.row cs' (.ty t))
  | _ => none
theorem Heap.cell_g (h : Heap) (A i : Nat) : h.cell (A, i) = cellB (h.g A) i := by
  unfold Heap.cell Heap.row cellB Heap.g
  cases h.t.get A with
  | none => rfl
  | some b => cases b with
    | row cs st => cases st <;> simp only <;> cases cs.drop i <;> rfl
    | _ => rfl
theorem Heap.cells_g (h : Heap) (A i n : Nat) : h.cells (A, i) n = cellsB (h.g A) i n := by
  unfold Heap.cells Heap.read Heap.row cellsB Heap.g
  cases h.t.get A with
  | none => rfl
  | some b => cases b with
    | row cs st => cases st <;> simp only <;> cases takeN n (cs.drop i) <;> rfl
    | _ => rfl
theorem Heap.store_g (h : Heap) (A i : Nat) (vs : List AV) : h.store (A, i) vs = storeB h A (h.g A) i vs := by
  unfold Heap.store Heap.rowW storeB Heap.g
  cases h.t.get A with
  | none => rfl
  | some b => cases b with
    | row cs st => cases st <;> simp only <;> cases over i cs vs <;> rfl
    | _ => rfl
theorem g_push_eq {h : Heap} {A : Nat} (b : Blk) (he : A = h.next) : (h.push b).g A = some b := by subst he; exact Tr.get_set_same
theorem g_push_ne {h : Heap} {A : Nat} (b : Blk) (hne : A ≠ h.next) : (h.push b).g A = h.g A := Tr.get_set_of hne
theorem g_put_eq {h : Heap} {A B : Nat} (b : Blk) (he : A = B) : (h.put B b).g A = some b := by subst he; exact Tr.get_set_same
theorem g_put_ne {h : Heap} {A B : Nat} (b : Blk) (hne : A ≠ B) : (h.put B b).g A = h.g A := Tr.get_set_of hne
theorem cellB_own (cs : List AV) (i : Nat) : cellB (some (.row cs .own)) i = (cs.drop i).head? := rfl
theorem cellB_grown (cs : List AV) (i : Nat) : cellB (some (.row cs .grown)) i = (cs.drop i).head? := rfl
theorem cellsB_own (cs : List AV) (i n : Nat) : cellsB (some (.row cs .own)) i n = (takeN n (cs.drop i)).map AV.agg := rfl
theorem storeB_own (h : Heap) (A : Nat) (cs : List AV) (i : Nat) (vs : List AV) : storeB h A (some (.row cs .own)) i vs = (over i cs vs).map fun cs' => h.put A (.row cs' .own) := rfl
theorem over_nil (n : Nat) (cs : List AV) : over n cs [] = some cs := by cases n <;> cases cs <;> rfl
theorem over_zero (c v : AV) (cs vs : List AV) : over 0 (c :: cs) (v :: vs) = (over 0 cs vs).map (v :: ·) := by
  show (match over 0 cs vs with | some l => some (v :: l) | none => none) = _
  cases over 0 cs vs <;> rfl
theorem over_succ (n : Nat) (c v : AV) (cs vs : List AV) : over (n + 1) (c :: cs) (v :: vs) = (over n cs (v :: vs)).map (c :: ·) := by
  show (match over n cs (v :: vs) with | some l => some (c :: l) | none => none) = _
  cases over n cs (v :: vs) <;> rfl
theorem takeN_zero (cs : List AV) : takeN 0 cs = some [] := by cases cs <;> rfl
theorem takeN_succ (n : Nat) (c : AV) (cs : List AV) : takeN (n + 1) (c :: cs) = (takeN n cs).map (c :: ·) := by
  show (match takeN n cs with | some l => some (c :: l) | none => none) = _
  cases takeN n cs <;> rfl
@[simp] theorem eqOut_exit (i j : Nat) : eqOut (.exit i) (.exit j) = decide (i = j) := by
  show Nat.beq i j = _
  cases h : Nat.beq i j with
  | true => have := Nat.eq_of_beq_eq_true h; simp [this]
  | false => have := Nat.ne_of_beq_eq_false h; simp [this]
@[simp] theorem eqOut_ret (j : Nat) : eqOut .ret (.exit j) = false := rfl
@[simp] theorem eqOut_ret2 : eqOut .ret .ret = true := rfl
@[simp] theorem eqOut_exit_ret (j : Nat) : eqOut (.exit j) .ret = false := rfl
theorem ixK_of {β : Type} (q : Nat × Nat) (len j n : Nat) (K : Nat × Nat → Option β) (h : j < len) : ixK (some q) len (Int.ofNat j) n K = K (q.1, q.2 + j * n) := by
  have : Nat.blt j len = true := by simpa [Nat.blt_eq] using h
  simp [ixK, this]
end Go.Proofs.YtjeaammlambkeaaDoor.Ai

namespace Go.Proofs.YtjeaammlambkeaaDoor.Ai
open Go.ChangeShapes Go.WideShapes
open Go.RowKit (Below)
/-! a call that is true whatever there is -/
theorem HR.below {μ : Mu} {h : Heap} {w w' : World} (hr : HR μ h w) (hb : Below w.heap.size w w') : HR μ h w' :=
  ⟨fun A l hA => ⟨(hr.dom A l hA).1, Nat.lt_of_lt_of_le (hr.dom A l hA).2 hb.size⟩, hr.inj, fun A l b hA hb' => BR.heap (hb.block l.b (hr.dom A l hA).2) (hr.blk A l b hA hb'), hr.pin⟩
theorem Ext.of_below {μ : Mu} {h : Heap} {w w' : World} (hb : Below w.heap.size w w') : Ext μ h w μ h w' :=
  ⟨Mu.le_refl μ, Nat.le_refl _, fun _ _ h => .inl h, fun _ _ h => h, fun b hlt _ => hb.block b hlt, hb.size, hb.os, hb.tape, hb.output⟩
theorem enter_of {E : Env} {P : Program} (ok : EnvOK E P) {f : FuncId} {fn : Func} (hf : E.fn f = some fn) (hb : fn.body.isSome = true) (args : Array Value) (w : World) : (callFunc f args).run P w = .ok (.enter f args) w := by
  obtain ⟨hfp, hname⟩ := ok.fn f fn hf
  unfold callFunc
  refine (run_bind_ok (P := P) (a := P) (w' := w) rfl).trans ?_
  rw [hfp]
  simp only [hname, Bool.false_eq_true, if_false]
  cases hbb : fn.body with
  | none => simp [hbb] at hb
  | some c => rfl
theorem fnOK_told {E : Env} {P : Program} (ok : EnvOK E P) {f : FuncId} {fn : Func} (hf : E.fn f = some fn) (hb : fn.body.isSome = true)
    (hc : ∀ w, Calls P f #[] w fun e w' => e = .returned (.bool true) ∧ Below w.heap.size w w') : FnOK P f [] (.val (.one .bool)) (fun _ h => some (true, h)) := by
  intro xs h r h' hx μ w args' hr hv
  simp only [Option.some.injEq, Prod.mk.injEq] at hx
  obtain ⟨rfl, rfl⟩ := hx
  have : args' = #[] := by
    have := hv.length
    simp only [VTy.tos, List.length_nil] at this
    exact Array.eq_empty_of_size_eq_zero (by simpa using this)
  subst this
  refine ⟨enter_of ok hf hb _ _, (hc w).mono ?_⟩
  rintro e w' ⟨rfl, hbel⟩
  exact ⟨_, rfl, μ, by simp [Ty.to, VTy.to, CTy.to, VR], hr.below hbel, Ext.of_below hbel⟩

/-! arguments, of plain types: what the row reads, as an abstract heap -/
def tileT (P : Program) (S : List TypeId) : List Field → Nat → Nat → Bool
  | [], off, tot => Nat.beq off tot
  | f :: r, off, tot => Nat.beq f.offset off && memL f.type S && tileT P S r (off + P.cellsOf f.type) tot
def plainT (P : Program) (S : List TypeId) (t : TypeId) : Bool :=
  match P.underlying t with
  | some .bool => true
  | some (.int _) => true
  | some .string => true
  | some (.slice e) => memL e S && Nat.ble 1 (P.cellsOf e)
  | some (.struct fs) => tileT P S fs.toList 0 (P.cellsOf t)
  | some (.array n e) => memL e S && Nat.beq (P.cellsOf t) (n * P.cellsOf e)
  | _ => false
def plainB (P : Program) (S : List TypeId) : Bool := S.all (plainT P S)

section
variable {H : Type} {enc : TypeId × Value → H} {P : Program} {w : World} {bs : Nat}
/-- abstract cells read as a datum -/
inductive Rd (P : Program) (h : Heap) : TypeId → List AV → DataW H → Prop
  | bool {t : TypeId} {b : Bool} : P.underlying t = some .bool → Rd P h t [.bool b] (.lit (.bool b))
  | int {t : TypeId} {k : IntKind} {n : Int} : P.underlying t = some (.int k) → (Lit.int k n).wf = true → Rd P h t [.int k n] (.lit (.int k n))
  | str {t : TypeId} {s : List UInt8} : P.underlying t = some .string → s.length ≤ maxLen → Rd P h t [.str s] (.lit (.string s))
  | nil {t e : TypeId} : P.underlying t = some (.slice e) → Rd P h t [.slice none 0 0 0] .nil
  | slice {t e : TypeId} {A : Nat} {ass : List (List AV)} {ds sp : List (DataW H)} : P.underlying t = some (.slice e) → h.t.get A = some (.row ass.flatten .ro) → A < h.next → ds.length ≤ maxLen → ass.length = ds.length →
      (∀ (i : Nat) (a : List AV) (d : DataW H), ass[i]? = some a → ds[i]? = some d → Rd P h e a d) → Rd P h t [.slice (some (A, 0)) ds.length ds.length (P.cellsOf e)] (.slice ds sp)
  | struct {t : TypeId} {fs : Array Field} {ass : List (List AV)} {ds : List (DataW H)} : P.underlying t = some (.struct fs) → ass.length = fs.size → ds.length = fs.size →
      (∀ (i : Nat) (f : Field) (a : List AV) (d : DataW H), fs[i]? = some f → ass[i]? = some a → ds[i]? = some d → Rd P h f.type a d) → Rd P h t ass.flatten (.agg ds)
  | array {t : TypeId} {n : Nat} {e : TypeId} {ass : List (List AV)} {ds : List (DataW H)} : P.underlying t = some (.array n e) → ass.length = n → ds.length = n →
      (∀ (i : Nat) (a : List AV) (d : DataW H), ass[i]? = some a → ds[i]? = some d → Rd P h e a d) → Rd P h t ass.flatten (.agg ds)

structure HLe (h h' : Heap) : Prop where
  get : ∀ A b, h.t.get A = some b → h'.t.get A = some b
  next : h.next ≤ h'.next
  pins : h'.pins = h.pins
theorem HLe.refl (h : Heap) : HLe h h := ⟨fun _ _ h => h, Nat.le_refl _, rfl⟩
theorem HLe.trans {a b c : Heap} (x : HLe a b) (y : HLe b c) : HLe a c := ⟨fun A l h => y.get A l (x.get A l h), Nat.le_trans x.next y.next, y.pins.trans x.pins⟩
theorem Rd.mono {h h' : Heap} (hl : HLe h h') {t : TypeId} {as : List AV} {d : DataW H} (hx : Rd P h t as d) : Rd P h' t as d := by
  induction hx with
  | bool h1 => exact .bool h1
  | int h1 h2 => exact .int h1 h2
  | str h1 h2 => exact .str h1 h2
  | nil h1 => exact .nil h1
  | slice h1 h2 h3 h4 h5 _ ih => exact .slice h1 (hl.get _ _ h2) (Nat.lt_of_lt_of_le h3 hl.next) h4 h5 ih
  | struct h1 h2 h3 _ ih => exact .struct h1 h2 h3 ih
  | array h1 h2 h3 _ ih => exact .array h1 h2 h3 ih

/-- only what is read, and nothing above -/
structure Rof (h : Heap) : Prop where
  ro : ∀ A b, h.t.get A = some b → ∃ cs, b = .row cs .ro
  top : ∀ A, h.next ≤ A → h.t.get A = none
def Opens (P : Program) (w : World) (t : TypeId) (cs : List Value) (d : DataW H) : Prop :=
  ∀ μ h, HR μ h w → Rof h → ∃ μ' h' as, μ.le μ' ∧ HLe h h' ∧ HR μ' h' w ∧ Rof h' ∧ VRs μ' as cs ∧ Rd P h' t as d
theorem opens_list : ∀ (l : List (TypeId × List Value × DataW H)), (∀ x ∈ l, Opens P w x.1 x.2.1 x.2.2) → ∀ μ h, HR μ h w → Rof h →
    ∃ (μ' : Mu) (h' : Heap) (ass : List (List AV)), μ.le μ' ∧ HLe h h' ∧ HR μ' h' w ∧ Rof h' ∧ ass.length = l.length ∧ ∀ (i : Nat) a x, ass[i]? = some a → l[i]? = some x → VRs μ' a x.2.1 ∧ Rd P h' x.1 a x.2.2
  | [], _, μ, h, hr, hro => ⟨μ, h, [], Mu.le_refl μ, HLe.refl h, hr, hro, rfl, fun i a x ha => by simp at ha⟩
  | x :: r, hx, μ, h, hr, hro => by
    obtain ⟨μ1, h1, as, g1, g2, g3, g4, g5, g6⟩ := hx x List.mem_cons_self μ h hr hro
    obtain ⟨μ2, h2, ass, k1, k2, k3, k4, k5, k6⟩ := opens_list r (fun y hy => hx y (List.mem_cons_of_mem _ hy)) μ1 h1 g3 g4
    refine ⟨μ2, h2, as :: ass, fun A l hA => k1 A l (g1 A l hA), g2.trans k2, k3, k4, by simp [k5], ?_⟩
    intro i a y ha hy
    cases i with
    | zero => simp at ha hy; subst ha; subst hy; exact ⟨VRs.mono k1 _ _ g5, Rd.mono k2 g6⟩
    | succ i => simp at ha hy; exact k6 i a y ha hy
theorem VRs.flatten {μ : Mu} : ∀ {ass : List (List AV)} {css : List (List Value)}, ass.length = css.length → (∀ (i : Nat) a c, ass[i]? = some a → css[i]? = some c → VRs μ a c) → VRs μ ass.flatten css.flatten
  | [], [], _, _ => VRs.nil
  | a :: r, c :: q, hl, hx => by
    simp only [List.flatten_cons]
    exact VRs.append (hx 0 a c rfl rfl) (VRs.flatten (by simpa using hl) fun i a c h1 h2 => hx (i + 1) a c (by simpa using h1) (by simpa using h2))
  | [], _ :: _, hl, _ => by simp at hl
  | _ :: _, [], hl, _ => by simp at hl

/-- pushing a row that is only read -/
theorem HR.pushRo {μ : Mu} {h : Heap} (hr : HR μ h w) (hro : Rof h) {l : Loc} {cs : List AV} (hlt : l.b < w.heap.size) (hrow : RowR μ w l cs) :
    HR (μ.add h.next l) (h.push (.row cs .ro)) w ∧ Rof (h.push (.row cs .ro)) ∧ HLe h (h.push (.row cs .ro)) ∧ μ.le (μ.add h.next l) := by
  have hle : μ.le (μ.add h.next l) := Mu.le_add hr.isNone
  have hget : ∀ A b, (h.push (.row cs .ro)).t.get A = some b → (A = h.next ∧ b = .row cs .ro) ∨ (A ≠ h.next ∧ h.t.get A = some b) := fun A b hA => Tr.get_set hA
  refine ⟨⟨?_, ?_, ?_, fun x hx => hle _ _ (hr.pin x hx)⟩, ⟨?_, ?_⟩, ⟨?_, Nat.le_succ _, rfl⟩, hle⟩
  · intro A l' hA
    unfold Mu.add at hA
    split at hA
    · rename_i he; simp only [Option.some.injEq] at hA; subst hA; subst he; exact ⟨Nat.lt_succ_self _, hlt⟩
    · exact ⟨Nat.lt_succ_of_lt (hr.dom A l' hA).1, (hr.dom A l' hA).2⟩
  · intro A B la lb ba bb _ _ hA hB _ _ _ _
    have ro : ∀ A b, (h.push (.row cs .ro)).t.get A = some b → b.isRo = true := by
      intro A b hA
      rcases hget A b hA with ⟨_, rfl⟩ | ⟨_, h1⟩
      · rfl
      · obtain ⟨c, rfl⟩ := hro.ro A b h1; rfl
    exact ⟨ro _ _ hA, ro _ _ hB⟩
  · intro A l' b hA hb
    unfold Mu.add at hA
    split at hA
    · rename_i he
      simp only [Option.some.injEq] at hA; subst hA
      rcases hget A b hb with ⟨_, rfl⟩ | ⟨h1, _⟩
      · exact RowR.mono hrow hle
      · exact absurd he h1
    · rename_i hne
      rcases hget A b hb with ⟨h1, _⟩ | ⟨_, h1⟩
      · exact absurd h1 hne
      · exact BR.mono hle (hr.blk A l' b hA h1)
  · intro A b hA
    rcases hget A b hA with ⟨_, rfl⟩ | ⟨_, h1⟩
    · exact ⟨cs, rfl⟩
    · exact hro.ro A b h1
  · intro A hA
    have h1 : h.next + 1 ≤ A := hA
    show (h.t.set h.next _).get A = none
    rw [Tr.get_set_of (by omega)]
    exact hro.top A (by omega)
  · intro A b hA
    show (h.t.set h.next _).get A = some b
    rw [Tr.get_set_of ?_]
    · exact hA
    · intro e
      rw [hro.top A (by omega)] at hA; cases hA

def hasRow (w : World) : Prop := ∃ b e n, w.shape? b = some (e, n)
theorem shape_of_cell {a : Addr} {v : Value} (h : w.cell? a = some v) : ∃ e n, w.shape? a.block = some (e, n) := by
  unfold World.cell? at h
  unfold World.shape?
  split at h
  · exact ⟨_, _, rfl⟩
  · cases h
theorem lt_of_shape {b : Nat} {e n} (h : w.shape? b = some (e, n)) : b < w.heap.size := by
  unfold World.shape? at h
  split at h
  · rename_i c e f hh; exact (Array.getElem?_eq_some_iff.1 hh).1
  · cases h
theorem tile_flatten {S : List TypeId} : ∀ (fs : List Field) (off tot : Nat) (cs : List Value), tileT P S fs off tot = true → cs.length = tot → off ≤ tot →
    (fs.map fun f => (cs.drop f.offset).take (P.cellsOf f.type)).flatten = cs.drop off ∧ ∀ f ∈ fs, f.type ∈ S
  | [], off, tot, cs, h, hl, _ => by
    simp only [tileT] at h
    have := Nat.eq_of_beq_eq_true h
    subst this
    exact ⟨by rw [List.drop_of_length_le (by omega)]; rfl, fun f hf => by simp at hf⟩
  | f :: r, off, tot, cs, h, hl, hle => by
    simp only [tileT, Bool.and_eq_true] at h
    obtain ⟨⟨h1, h2⟩, h3⟩ := h
    have e1 := Nat.eq_of_beq_eq_true h1
    have hle2 : off + P.cellsOf f.type ≤ tot := by
      have : ∀ (fs : List Field) (off tot : Nat), tileT P S fs off tot = true → off ≤ tot := by
        intro fs
        induction fs with
        | nil => intro off tot h; simp only [tileT] at h; have := Nat.eq_of_beq_eq_true h; omega
        | cons f r ih => intro off tot h; simp only [tileT, Bool.and_eq_true] at h; have := ih _ _ h.2; omega
      exact this _ _ _ h3
    obtain ⟨h4, h5⟩ := tile_flatten r _ tot cs h3 hl hle2
    refine ⟨?_, fun g hg => ?_⟩
    · simp only [List.map_cons, List.flatten_cons, h4, e1]
      rw [← List.drop_drop, List.take_append_drop]
    · rcases List.mem_cons.1 hg with rfl | hg
      · exact memL_iff.1 h2
      · exact h5 g hg
theorem chunks_flatten (n : Nat) : ∀ (k : Nat) (cs : List Value), cs.length = k * n → ((List.range k).map fun i => (cs.drop (i * n)).take n).flatten = cs
  | 0, cs, h => by simp at h; subst h; rfl
  | k + 1, cs, h => by
    rw [List.range_succ_eq_map, List.map_cons, List.flatten_cons, List.map_map]
    have := chunks_flatten n k (cs.drop n) (by simp [h, Nat.add_mul])
    have e : ((List.range k).map ((fun i => (cs.drop (i * n)).take n) ∘ Nat.succ)) = (List.range k).map fun i => ((cs.drop n).drop (i * n)).take n := by
      refine List.map_congr_left fun i _ => ?_
      simp only [Function.comp, List.drop_drop]
      rw [Nat.succ_mul, Nat.add_comm]
    rw [e, this]
    simp

theorem open_any {S : List TypeId} (hS : plainB P S = true) : ∀ (fuel : Nat) (t : TypeId) (cs : List Value) (d : DataW H) (ps : List MemPlace), t ∈ S → DataW.trod enc P w 0 (fun _ => true) true fuel t cs = some (d, ps) →
    (∀ a, .slice (some a) 0 0 ∈ cs → hasRow w) → Opens P w t cs d
  | 0, t, cs, d, ps, _, h, _ => by simp [DataW.trod] at h
  | fuel + 1, t, cs, d, ps, ht, h, hz => by
    have hp := List.all_eq_true.1 hS t ht
    unfold plainT at hp
    intro μ h0 hr hro
    split at hp
    · rename_i hu
      obtain ⟨b, rfl, hx⟩ := DataW.trod_bool hu h
      simp only [Prod.mk.injEq] at hx; obtain ⟨rfl, _⟩ := hx
      exact ⟨μ, h0, [.bool b], Mu.le_refl μ, HLe.refl _, hr, hro, VRs.cons (by simp [VR]) VRs.nil, .bool hu⟩
    · rename_i k hu
      obtain ⟨n, rfl, hx, hw⟩ := DataW.trod_int hu h
      simp only [Prod.mk.injEq] at hx; obtain ⟨rfl, _⟩ := hx
      exact ⟨μ, h0, [.int k n], Mu.le_refl μ, HLe.refl _, hr, hro, VRs.cons (by simp [VR]) VRs.nil, .int hu hw⟩
    · rename_i hu
      obtain ⟨s, rfl, hx, hw⟩ := DataW.trod_string hu h
      simp only [Prod.mk.injEq] at hx; obtain ⟨rfl, _⟩ := hx
      refine ⟨μ, h0, [.str s.data.toList], Mu.le_refl μ, HLe.refl _, hr, hro, VRs.cons (by simp [VR]) VRs.nil, .str hu (by simpa using hw)⟩
    · -- slice
      rename_i e hu
      simp only [Bool.and_eq_true] at hp
      have he : e ∈ S := memL_iff.1 hp.1
      have hn1 : 1 ≤ P.cellsOf e := by simpa using hp.2
      rcases DataW.trod_slice hu h with ⟨rfl, hx⟩ | ⟨a, len, cap, elems, rest, n, hfu, rfl, hx, _, hlc, hcm, hlen, hel, hsp, _⟩
      · simp only [Prod.mk.injEq] at hx; obtain ⟨rfl, _⟩ := hx
        exact ⟨μ, h0, [.slice none 0 0 0], Mu.le_refl μ, HLe.refl _, hr, hro, VRs.cons (by simp [VR]) VRs.nil, .nil hu⟩
      · obtain rfl : fuel = n := by omega
        simp only [Prod.mk.injEq] at hx
        obtain ⟨rfl, _⟩ := hx
        obtain ⟨hrl, hre⟩ := hsp rfl
        have hall : ∀ i, i < cap → ∃ cs', w.cells? 0 (a.add (i * P.cellsOf e)) (P.cellsOf e) = some cs' := by
          intro i hi
          have key : ∃ y, (w.cells? 0 (a.add (i * P.cellsOf e)) (P.cellsOf e)).bind (DataW.trod enc P w 0 (fun _ => true) true fuel e) = some y := by
            by_cases hil : i < len
            · rw [hel i hil, List.getElem?_eq_getElem (by omega)]; exact ⟨_, rfl⟩
            · have := hre (i - len) (by omega)
              rw [show len + (i - len) = i by omega] at this
              rw [this, List.getElem?_eq_getElem (by omega)]; exact ⟨_, rfl⟩
          obtain ⟨y, hy⟩ := key
          obtain ⟨cs', h1, _⟩ := Option.bind_eq_some_iff.1 hy
          exact ⟨cs', h1⟩
        obtain ⟨C, hC⟩ := Deep.choose_lt hall
        -- where the cells lie
        have hcell : ∀ i, i < cap → ∀ j, j < P.cellsOf e → ∃ v, (C i)[j]? = some v ∧ a.spot = none ∧ w.cell? ⟨a.block, a.off + (i * P.cellsOf e + j), none⟩ = some v := by
          intro i hi j hj
          obtain ⟨_, hl2, h2⟩ := World.cells?_some (hC i hi)
          obtain ⟨_, hl0, h20⟩ := World.cells?_some (hC 0 (by omega))
          have hspot : a.spot = none := by
            have h3 := h20 0 (by omega)
            rw [List.getElem?_eq_getElem (by omega)] at h3
            simp only [Nat.zero_mul, Addr.add, if_true] at h3
            unfold World.cell? at h3
            split at h3
            · split at h3
              · cases h3
              · rename_i hs; cases hq : a.spot with
                | none => rfl
                | some _ => simp [hq] at hs
            · cases h3
          refine ⟨(C i)[j], List.getElem?_eq_getElem (by omega), hspot, ?_⟩
          have h3 := h2 j hj
          rw [List.getElem?_eq_getElem (by omega)] at h3
          rw [← h3, Deep.add_add]
          unfold Addr.add
          split
          · rename_i h0; rw [h0, ← hspot]; rfl
          · rfl
        have hrow : 0 < cap → ∃ e' n', w.shape? a.block = some (e', n') := fun hc => by
          obtain ⟨v, _, _, h3⟩ := hcell 0 hc 0 (by omega)
          exact shape_of_cell (a := ⟨a.block, _, none⟩) h3
        have hopen : ∀ x ∈ (List.range len).map (fun i => ((e, C i, (elems.getD i (.nil, [])).1) : TypeId × List Value × DataW H)), Opens P w x.1 x.2.1 x.2.2 := by
          intro x hx
          obtain ⟨i, hi, rfl⟩ := List.mem_map.1 hx
          have hi : i < len := by simpa using hi
          have h3 := hel i hi
          rw [hC i (by omega)] at h3
          have h4 : DataW.trod enc P w 0 (fun _ => true) true fuel e (C i) = some ((elems.getD i (.nil, [])).1, (elems.getD i (.nil, [])).2) := by
            simp only [Option.bind_some] at h3
            rw [h3]; simp [List.getD, List.getElem?_eq_getElem (show i < elems.length by omega)]
          refine open_any hS fuel e (C i) _ _ he h4 (fun _ _ => ?_)
          obtain ⟨e', n', h5⟩ := hrow (by omega)
          exact ⟨_, e', n', h5⟩
        obtain ⟨μ1, h1, ass, g1, g2, g3, g4, g5, g6⟩ := opens_list _ hopen μ h0 hr hro
        simp only [List.length_map, List.length_range] at g5
        have gi : ∀ i, i < len → ((List.range len).map (fun i => ((e, C i, (elems.getD i (.nil, [])).1) : TypeId × List Value × DataW H)))[i]? = some (e, C i, (elems.getD i (.nil, [])).1) := fun i hi => by simp [hi]
        have hds : ∀ i, i < len → (elems.map (·.1))[i]? = some ((elems.getD i (.nil, [])).1) := fun i hi => by
          simp [List.getD, List.getElem?_eq_getElem (show i < elems.length by omega)]
        have hvf : VRs μ1 ass.flatten ((List.range len).map C).flatten := VRs.flatten (by simp [g5]) fun i a c ha hc => by
          have hi : i < len := by have := (List.getElem?_eq_some_iff.1 ha).1; omega
          simp [hi] at hc
          subst hc
          exact (g6 i a _ ha (gi i hi)).1
        have hCl : ∀ i, i < cap → (C i).length = P.cellsOf e := fun i hi => (World.cells?_some (hC i hi)).2.1
        have hfl : ∀ k, k ≤ cap → ((List.range k).map C).flatten.length = k * P.cellsOf e ∧ ∀ (i : Nat) v, ((List.range k).map C).flatten[i]? = some v → w.cell? ⟨a.block, a.off + i, none⟩ = some v := by
          intro k
          induction k with
          | zero => intro _; exact ⟨by simp, fun i v h => by simp at h⟩
          | succ k ih =>
            intro hk
            obtain ⟨i1, i2⟩ := ih (by omega)
            rw [List.range_succ, List.map_append, List.flatten_append]
            refine ⟨by simp only [List.length_append, i1, List.map_cons, List.map_nil, List.flatten_cons, List.flatten_nil, List.append_nil, hCl k (by omega), Nat.succ_mul], fun i v hv => ?_⟩
            rcases Nat.lt_or_ge i (k * P.cellsOf e) with hlt | hge
            · rw [List.getElem?_append_left (by omega)] at hv; exact i2 i v hv
            · rw [List.getElem?_append_right (by omega), i1] at hv
              simp only [List.map_cons, List.map_nil, List.flatten_cons, List.flatten_nil, List.append_nil] at hv
              have hj : i - k * P.cellsOf e < P.cellsOf e := by
                have := (List.getElem?_eq_some_iff.1 hv).1
                rw [hCl k (by omega)] at this; exact this
              obtain ⟨u, h3, _, h4⟩ := hcell k (by omega) _ hj
              rw [hv] at h3; cases h3
              rw [← h4]; congr 2; omega
        by_cases hc0 : cap = 0
        · obtain rfl : len = 0 := by omega
          subst hc0
          obtain ⟨b0, e0, n0, hb0⟩ := hz a (by simp)
          have hass : ass = [] := List.eq_nil_of_length_eq_zero g5
          obtain ⟨q1, q2, q3, q4⟩ := HR.pushRo g3 g4 (l := ⟨b0, 0, n0, false⟩) (cs := ass.flatten) (lt_of_shape hb0) ⟨⟨e0, hb0⟩, by simp [hass], fun i x hx => by simp [hass] at hx⟩
          have hel0 : elems = [] := List.eq_nil_of_length_eq_zero hlen
          refine ⟨_, _, [.slice (some (h1.next, 0)) (elems.map (·.1)).length (elems.map (·.1)).length (P.cellsOf e)], fun A l hA => q4 A l (g1 A l hA), g2.trans q3, q1, q2, VRs.cons ?_ VRs.nil, .slice hu Tr.get_set_same (Nat.lt_succ_self _) (by simp [hel0]) (by simp [g5, hel0]) fun i a d ha hd => by simp [hass] at ha⟩
          simp only [VR]
          exact ⟨⟨b0, 0, n0, false⟩, a, 0, by simp [Mu.add], by simp [hel0], Nat.le_refl _, .inl ⟨by simp [hel0], rfl⟩⟩
        · obtain ⟨e', n', hsh⟩ := hrow (by omega)
          obtain ⟨v, _, hspot, _⟩ := hcell 0 (by omega) 0 (by omega)
          obtain ⟨hf1, hf2⟩ := hfl cap (Nat.le_refl _)
          obtain ⟨hf3, hf4⟩ := hfl len hlc
          have htot : a.off + cap * P.cellsOf e ≤ n' := by
            have h3 : cap * P.cellsOf e - 1 < ((List.range cap).map C).flatten.length := by
              have : 0 < cap * P.cellsOf e := Nat.mul_pos (by omega) hn1
              omega
            have h4 := hf2 _ _ (List.getElem?_eq_getElem h3)
            unfold World.cell? at h4
            unfold World.shape? at hsh
            split at h4
            · rename_i c el fz hh
              rw [hh] at hsh
              simp only [Option.some.injEq, Prod.mk.injEq] at hsh
              split at h4
              · cases h4
              · have := (Array.getElem?_eq_some_iff.1 h4).1
                dsimp only at this
                have h0 : 0 < cap * P.cellsOf e := Nat.mul_pos (by omega) hn1
                omega
            · cases h4
          have hlm : len * P.cellsOf e ≤ cap * P.cellsOf e := Nat.mul_le_mul_right _ hlc
          obtain ⟨q1, q2, q3, q4⟩ := HR.pushRo g3 g4 (l := ⟨a.block, a.off, n', false⟩) (cs := ass.flatten) (lt_of_shape hsh) ⟨⟨e', hsh⟩, by have := hvf.length; simp only; rw [← this, hf3]; omega, fun i x hx => by
            obtain ⟨y, h3, h4⟩ := hvf.get hx
            exact ⟨y, hf4 i y h3, h4⟩⟩
          refine ⟨_, _, [.slice (some (h1.next, 0)) (elems.map (·.1)).length (elems.map (·.1)).length (P.cellsOf e)], fun A l hA => q4 A l (g1 A l hA), g2.trans q3, q1, q2, VRs.cons ?_ VRs.nil, .slice hu Tr.get_set_same (Nat.lt_succ_self _) (by simp; omega) (by simp [g5, hlen]) fun i a' d ha hd => ?_⟩
          · simp only [VR]
            refine ⟨⟨a.block, a.off, n', false⟩, a, cap, by simp [Mu.add], by simp [hlen], Nat.le_refl _, .inr ⟨?_, by simp [hlen, hlc], by simpa using htot, by simp⟩⟩
            cases a; simp only at hspot ⊢; rw [hspot]; rfl
          · have hi : i < len := by have := (List.getElem?_eq_some_iff.1 ha).1; omega
            rw [hds i hi] at hd; cases hd
            exact Rd.mono q3 (g6 i a' _ ha (gi i hi)).2
    · -- struct
      rename_i fs hu
      obtain ⟨xs, n, hfu, hx, hcl, hxl, hf⟩ := DataW.trod_struct hu h
      obtain rfl : fuel = n := by omega
      simp only [Prod.mk.injEq] at hx
      obtain ⟨rfl, _⟩ := hx
      obtain ⟨hfl, hin⟩ := tile_flatten fs.toList 0 _ cs hp hcl (Nat.zero_le _)
      have hopen : ∀ x ∈ (List.range fs.size).map (fun i => (((fs.getD i default).type, (cs.drop (fs.getD i default).offset).take (P.cellsOf (fs.getD i default).type), (xs.getD i (.nil, [])).1) : TypeId × List Value × DataW H)), Opens P w x.1 x.2.1 x.2.2 := by
        intro x hx
        obtain ⟨i, hi, rfl⟩ := List.mem_map.1 hx
        have hi : i < fs.size := by simpa using hi
        have hfi : fs[i]? = some (fs.getD i default) := by simp [Array.getD, hi]
        have h3 := hf i _ hfi
        have h4 : xs[i]? = some ((xs.getD i (.nil, [])).1, (xs.getD i (.nil, [])).2) := by simp [List.getD, List.getElem?_eq_getElem (show i < xs.length by omega)]
        refine open_any hS fuel _ _ _ _ (hin _ ?_) (h3.trans h4) (fun a ha => hz a ?_)
        · simpa using Array.mem_of_getElem? hfi
        · exact List.mem_of_mem_drop (List.mem_of_mem_take ha)
      obtain ⟨μ1, h1, ass, g1, g2, g3, g4, g5, g6⟩ := opens_list _ hopen μ h0 hr hro
      simp only [List.length_map, List.length_range] at g5
      have gi : ∀ i, i < fs.size → ((List.range fs.size).map (fun i => (((fs.getD i default).type, (cs.drop (fs.getD i default).offset).take (P.cellsOf (fs.getD i default).type), (xs.getD i (.nil, [])).1) : TypeId × List Value × DataW H)))[i]? = some ((fs.getD i default).type, (cs.drop (fs.getD i default).offset).take (P.cellsOf (fs.getD i default).type), (xs.getD i (.nil, [])).1) := fun i hi => by simp [hi]
      refine ⟨μ1, h1, ass.flatten, g1, g2, g3, g4, ?_, .struct hu (by omega) (by simp [hxl]) fun i f a d hfi ha hd => ?_⟩
      · have h3 : VRs μ1 ass.flatten ((fs.toList.map fun f => (cs.drop f.offset).take (P.cellsOf f.type))).flatten := VRs.flatten (by simp [g5]) fun i a c ha hc => by
          have hi : i < fs.size := by have := (List.getElem?_eq_some_iff.1 ha).1; omega
          have h4 := (g6 i a _ ha (gi i hi)).1
          simp [hi] at hc
          subst hc
          simpa [Array.getD, hi] using h4
        rw [hfl] at h3
        simpa using h3
      · have hi : i < fs.size := (Array.getElem?_eq_some_iff.1 hfi).1
        have h4 := (g6 i a _ ha (gi i hi)).2
        have e1 : fs.getD i default = f := by
          have := (Array.getElem?_eq_some_iff.1 hfi).2
          simp [Array.getD, hi, this]
        have e2 : (xs.getD i (.nil, [])).1 = d := by
          have hxi : xs[i]? = some xs[i] := List.getElem?_eq_getElem (by omega)
          simp [hxi] at hd
          simp [List.getD, hxi, hd]
        rw [e1, e2] at h4
        exact h4
    · -- array
      rename_i n e hu
      simp only [Bool.and_eq_true] at hp
      have he : e ∈ S := memL_iff.1 hp.1
      have hsz := Nat.eq_of_beq_eq_true hp.2
      unfold DataW.trod at h
      rw [hu] at h
      simp only [Option.ite_none_right_eq_some, Option.map_eq_some_iff, Prod.mk.injEq] at h
      obtain ⟨hcl, xs, hxs, rfl, _⟩ := h
      have hxl : xs.length = n := by simpa using mapM_some_length hxs
      have hopen : ∀ x ∈ (List.range n).map (fun i => ((e, (cs.drop (i * P.cellsOf e)).take (P.cellsOf e), (xs.getD i (.nil, [])).1) : TypeId × List Value × DataW H)), Opens P w x.1 x.2.1 x.2.2 := by
        intro x hx
        obtain ⟨i, hi, rfl⟩ := List.mem_map.1 hx
        have hi : i < n := by simpa using hi
        have h3 := mapM_some_get hxs i i (by simp [hi])
        have h4 : xs[i]? = some ((xs.getD i (.nil, [])).1, (xs.getD i (.nil, [])).2) := by simp [List.getD, List.getElem?_eq_getElem (show i < xs.length by omega)]
        refine open_any hS fuel _ _ _ _ he (h3.trans h4) (fun a ha => hz a ?_)
        exact List.mem_of_mem_drop (List.mem_of_mem_take ha)
      obtain ⟨μ1, h1, ass, g1, g2, g3, g4, g5, g6⟩ := opens_list _ hopen μ h0 hr hro
      simp only [List.length_map, List.length_range] at g5
      have gi : ∀ i, i < n → ((List.range n).map (fun i => ((e, (cs.drop (i * P.cellsOf e)).take (P.cellsOf e), (xs.getD i (.nil, [])).1) : TypeId × List Value × DataW H)))[i]? = some (e, (cs.drop (i * P.cellsOf e)).take (P.cellsOf e), (xs.getD i (.nil, [])).1) := fun i hi => by simp [hi]
      refine ⟨μ1, h1, ass.flatten, g1, g2, g3, g4, ?_, .array hu (by omega) (by simp [hxl]) fun i a d ha hd => ?_⟩
      · have h3 : VRs μ1 ass.flatten (((List.range n).map fun i => (cs.drop (i * P.cellsOf e)).take (P.cellsOf e))).flatten := VRs.flatten (by simp [g5]) fun i a c ha hc => by
          have hi : i < n := by have := (List.getElem?_eq_some_iff.1 ha).1; omega
          have h4 := (g6 i a _ ha (gi i hi)).1
          simp [hi] at hc
          subst hc
          exact h4
        rw [chunks_flatten (P.cellsOf e) n cs (by omega)] at h3
        exact h3
      · have hi : i < n := by have := (List.getElem?_eq_some_iff.1 ha).1; omega
        have h4 := (g6 i a _ ha (gi i hi)).2
        have e2 : (xs.getD i (.nil, [])).1 = d := by
          have hxi : xs[i]? = some xs[i] := List.getElem?_eq_getElem (by omega)
          simp [hxi] at hd
          simp [List.getD, hxi, hd]
        rw [e2] at h4
        exact h4
    · simp at hp

theorem mapM_range' {β : Type} : ∀ (l : List β) (k : Nat) (f : Nat → Option β), (∀ i, i < l.length → f (k + i) = l[i]?) → (List.range' k l.length).mapM f = some l
  | [], k, f, _ => rfl
  | x :: r, k, f, h => by
    have h0 := h 0 (by simp)
    have ih := mapM_range' r (k + 1) f (fun i hi => by have := h (i + 1) (by simpa using hi); rw [show k + 1 + i = k + (i + 1) by omega]; simpa using this)
    simp only [List.length_cons, List.range'_succ, List.mapM_cons]
    simp at h0
    rw [h0, ih]
    rfl
/-- read again, with the spare only where it is old -/
theorem trod_spare {S : List TypeId} (hS : plainB P S = true) {w' : World} {sp : Nat → Bool} : ∀ (fuel : Nat) (t : TypeId) (cs : List Value) (x : DataW H × List MemPlace), t ∈ S → DataW.trod enc P w' 0 (fun _ => true) true fuel t cs = some x →
    (∀ p ∈ x.2, sp p.block = true) → DataW.trod enc P w' 0 sp true fuel t cs = some x
  | 0, t, cs, x, _, h, _ => by simp [DataW.trod] at h
  | fuel + 1, t, cs, x, ht, h, hs => by
    have hp := List.all_eq_true.1 hS t ht
    unfold plainT at hp
    split at hp
    · rename_i hu
      obtain ⟨b, rfl, rfl⟩ := DataW.trod_bool hu h
      simp [DataW.trod, hu]
    · rename_i k hu
      obtain ⟨n, rfl, rfl, hw⟩ := DataW.trod_int hu h
      simp [DataW.trod, hu, hw]
    · rename_i hu
      obtain ⟨s, rfl, rfl, hw⟩ := DataW.trod_string hu h
      simp [DataW.trod, hu, hw]
    · rename_i e hu
      simp only [Bool.and_eq_true] at hp
      have he : e ∈ S := memL_iff.1 hp.1
      have hn1 : 1 ≤ P.cellsOf e := by simpa using hp.2
      rcases DataW.trod_slice hu h with ⟨rfl, rfl⟩ | ⟨a, len, cap, elems, rest, n, hfu, rfl, rfl, hb, hlc, hcm, hlen, hel, hsp, _⟩
      · simp [DataW.trod, hu]
      · obtain rfl : fuel = n := by omega
        obtain ⟨hrl, hre⟩ := hsp rfl
        have one : ∀ (i : Nat) (y : DataW H × List MemPlace), y ∈ elems ++ rest →
            (w'.cells? 0 (a.add (i * P.cellsOf e)) (P.cellsOf e)).bind (DataW.trod enc P w' 0 (fun _ => true) true fuel e) = some y → (w'.cells? 0 (a.add (i * P.cellsOf e)) (P.cellsOf e)).bind (DataW.trod enc P w' 0 sp true fuel e) = some y := by
          intro i y hy hv
          simp only [Option.bind_eq_some_iff] at hv ⊢
          obtain ⟨cs', hc', hy'⟩ := hv
          refine ⟨cs', hc', trod_spare hS fuel e cs' y he hy' (fun p hp => hs p ?_)⟩
          simp only [List.mem_append, List.mem_flatMap]
          right
          exact ⟨y, by simpa using hy, hp⟩
        have tot : ∀ {β : Type} (f : Nat → Option β) (l : List β), (∀ i, i < l.length → f i = l[i]?) → (List.range l.length).mapM f = some l := by
          intro β f l hf
          rw [List.range_eq_range']
          exact mapM_range' l 0 f (fun i hi => by rw [Nat.zero_add]; exact hf i hi)
        have m1 : (List.range len).mapM (fun i => (w'.cells? 0 (a.add (i * P.cellsOf e)) (P.cellsOf e)).bind (DataW.trod enc P w' 0 sp true fuel e)) = some elems := by
          rw [← hlen]
          refine tot _ _ fun i hi => ?_
          have h1 := hel i (by omega)
          rw [List.getElem?_eq_getElem hi] at h1 ⊢
          exact one i _ (by simp) h1
        have m2 : (if sp a.block then (List.range (cap - len)).mapM fun j => (w'.cells? 0 (a.add ((len + j) * P.cellsOf e)) (P.cellsOf e)).bind (DataW.trod enc P w' 0 sp true fuel e) else some []) = some rest := by
          split
          · rw [← hrl]
            refine tot _ _ fun i hi => ?_
            have h1 := hre i (by omega)
            rw [List.getElem?_eq_getElem hi] at h1 ⊢
            exact one (len + i) _ (by simp) h1
          · rename_i hsp
            cases hr0 : rest with
            | nil => rfl
            | cons y r =>
              exfalso
              apply hsp
              refine hs (.cell a.block (a.off + 0)) ?_
              simp only [List.mem_append]
              left
              refine MemPlace.mem_row.2 ⟨0, ?_, rfl⟩
              rw [hr0]
              simp only [List.length_cons]
              exact Nat.mul_pos (by omega) hn1
        rw [DataW.trod_step]
        unfold DataW.trodStep
        rw [hu]
        simp only [m1, m2, Nat.zero_le, hlc, hcm, and_self, if_true, Option.bind_some, Option.map_some]
    · rename_i fs hu
      obtain ⟨hfl, hin⟩ : True ∧ ∀ f ∈ fs.toList, f.type ∈ S := by
        have : ∀ (fs : List Field) (off tot : Nat), tileT P S fs off tot = true → ∀ f ∈ fs, f.type ∈ S := by
          intro fs
          induction fs with
          | nil => intro off tot _ f hf; simp at hf
          | cons f r ih =>
            intro off tot h g hg
            simp only [tileT, Bool.and_eq_true] at h
            rcases List.mem_cons.1 hg with rfl | hg
            · exact memL_iff.1 h.1.2
            · exact ih _ _ h.2 g hg
        exact ⟨trivial, this _ _ _ hp⟩
      rw [DataW.trod_step] at h ⊢
      unfold DataW.trodStep at h ⊢
      rw [hu] at h ⊢
      simp only [Option.ite_none_right_eq_some, Option.map_eq_some_iff] at h ⊢
      obtain ⟨hc, xs, hx, rfl⟩ := h
      exact ⟨hc, xs, mapM_carry hx (fun f y hf hy hv => trod_spare hS fuel _ _ y (hin f hf) hv (fun p hp => hs p (List.mem_flatMap.2 ⟨y, hy, hp⟩))), rfl⟩
    · rename_i n e hu
      simp only [Bool.and_eq_true] at hp
      have he : e ∈ S := memL_iff.1 hp.1
      rw [DataW.trod_step] at h ⊢
      unfold DataW.trodStep at h ⊢
      rw [hu] at h ⊢
      simp only [Option.ite_none_right_eq_some, Option.map_eq_some_iff] at h ⊢
      obtain ⟨hc, xs, hx, rfl⟩ := h
      exact ⟨hc, xs, mapM_carry hx (fun f y hf hy hv => trod_spare hS fuel _ _ y he hv (fun p hp => hs p (List.mem_flatMap.2 ⟨y, hy, hp⟩))), rfl⟩
    · simp at hp

theorem trodAll_again {S : List TypeId} (hS : plainB P S = true) {w' : World} {sp : Nat → Bool} : ∀ {ts : List TypeId} {vs : List Value} {ds : List (DataW H)} {ps : List MemPlace}, (∀ t ∈ ts, t ∈ S) → DataW.TrodAll enc P w 0 (fun _ => true) true ts vs ds ps →
    (∀ p ∈ ps, w.sameAt w' p) → (∀ p ∈ ps, sp p.block = true) → DataW.TrodAll enc P w' 0 sp true ts vs ds ps
  | [], [], [], ps, _, h, _, _ => h
  | t :: ts, v :: vs, d :: ds, ps, hS', h, h1, h2 => by
    obtain ⟨p, q, ⟨fuel, h3⟩, h4, rfl⟩ := h
    refine ⟨p, q, ⟨fuel, ?_⟩, trodAll_again hS (fun t ht => hS' t (List.mem_cons_of_mem _ ht)) h4 (fun x hx => h1 x (by simp [hx])) (fun x hx => h2 x (by simp [hx])), rfl⟩
    exact trod_spare hS fuel t _ _ (hS' t List.mem_cons_self) (DataW.trod_carry fuel _ _ _ h3 fun x hx => h1 x (by simp [hx])) (fun x hx => h2 x (by simp at hx; simp [hx]))
  | [], _ :: _, _, _, _, h, _, _ => by simp [DataW.TrodAll] at h
  | [], [], _ :: _, _, _, h, _, _ => by simp [DataW.TrodAll] at h
  | _ :: _, [], _, _, _, h, _, _ => by simp [DataW.TrodAll] at h
  | _ :: _, _ :: _, [], _, _, h, _, _ => by simp [DataW.TrodAll] at h

/-! arguments -/
def argOf (P : Program) (t : TypeId) (cs : List AV) : AV :=
  match P.underlying t with
  | some (.struct _) => .agg cs
  | some (.array _ _) => .agg cs
  | _ => cs.headD undefA
def RdArgs (P : Program) (h : Heap) : List TypeId → List AV → List (DataW H) → Prop
  | [], [], [] => True
  | t :: ts, a :: as, d :: ds => (∃ cs, a = argOf P t cs ∧ Rd P h t cs d) ∧ RdArgs P h ts as ds
  | _, _, _ => False
theorem RdArgs.mono {h h' : Heap} (hl : HLe h h') : ∀ {ts : List TypeId} {as : List AV} {ds : List (DataW H)}, RdArgs P h ts as ds → RdArgs P h' ts as ds
  | [], [], [], h => h
  | t :: ts, a :: as, d :: ds, h => by
    obtain ⟨⟨cs, h1, h2⟩, h3⟩ := h
    exact ⟨⟨cs, h1, h2.mono hl⟩, RdArgs.mono hl h3⟩
  | [], _ :: _, _, h => by simp [RdArgs] at h
  | [], [], _ :: _, h => by simp [RdArgs] at h
  | _ :: _, [], _, h => by simp [RdArgs] at h
  | _ :: _, _ :: _, [], h => by simp [RdArgs] at h
theorem row_of_okCell {r : Reach} {b : Nat} {u : TypeId} {a : Addr} {n m : Nat} (h : Cell.okWide P w r b u (.slice (some a) n m)) : hasRow w := by
  unfold Cell.okWide at h
  split at h <;> try (rename_i heq; cases heq)
  unfold Cell.ok at h
  split at h <;> try (rename_i heq; cases heq)
  all_goals first | (obtain ⟨_, _, _, _, row, cells, hs, _⟩ := h; exact ⟨_, _, _, hs⟩) | (exfalso; simp_all; done) | skip

theorem row_of_okWide {t : TypeId} {v : Value} {a : Addr} (h : Value.okWide P w .any bs t v) (hm : .slice (some a) 0 0 ∈ v.cells.toList) : hasRow w := by
  unfold Value.okWide at h
  have single : ∀ {v : Value}, (∀ cs, v ≠ .agg cs) → .slice (some a) 0 0 ∈ v.cells.toList → v = .slice (some a) 0 0 := by
    intro v hv hm
    have hc : v.cells.toList = [v] := by
      cases v with
      | agg cs => exact absurd rfl (hv cs)
      | _ => rfl
    rw [hc] at hm
    exact (List.mem_singleton.1 hm).symm
  have isRow : ∀ {cs : Array Value}, Row.okWide P w .any bs t cs → .slice (some a) 0 0 ∈ cs.toList → hasRow w := by
    rintro cs ⟨ts, _, _, h⟩ hm
    obtain ⟨i, hi⟩ := List.mem_iff_getElem?.1 hm
    obtain ⟨u, _, h3⟩ := h i _ (by simpa using hi)
    exact row_of_okCell h3
  split at h
  · obtain ⟨cs, rfl, _, h⟩ := h; exact isRow h (by simpa [Value.cells] using hm)
  · obtain ⟨cs, rfl, _, h⟩ := h; exact isRow h (by simpa [Value.cells] using hm)
  · rename_i hn1 hn2
    by_cases hv : ∃ cs, v = .agg cs
    · obtain ⟨cs, rfl⟩ := hv
      exfalso
      unfold Cell.okWide at h
      split at h <;> try (rename_i heq; cases heq)
      unfold Cell.ok at h
      split at h <;> try (rename_i heq; cases heq)
      all_goals first | exact h | (simp_all; done)
    · have := single (fun cs e => hv ⟨cs, e⟩) hm
      subst this
      exact row_of_okCell h

theorem arg_of {μ : Mu} {h : Heap} {t : TypeId} {v : Value} {as : List AV} {d : DataW H} (hok : Value.okWide P w .any bs t v) (hv : VRs μ as v.cells.toList) (hr : Rd P h t as d) : VR μ (argOf P t as) v := by
  unfold Value.okWide at hok
  have one : (∀ fs, P.underlying t ≠ some (.struct fs)) → (∀ n e, P.underlying t ≠ some (.array n e)) → ∃ x, as = [x] ∧ argOf P t as = x := by
    intro h1 h2
    have ha : argOf P t as = as.headD undefA := by
      unfold argOf; split
      · rename_i fs hu; exact absurd hu (h1 fs)
      · rename_i n e hu; exact absurd hu (h2 n e)
      · rfl
    cases hr with
    | bool hu => exact ⟨_, rfl, ha⟩
    | int hu => exact ⟨_, rfl, ha⟩
    | str hu => exact ⟨_, rfl, ha⟩
    | nil hu => exact ⟨_, rfl, ha⟩
    | slice hu => exact ⟨_, rfl, ha⟩
    | struct hu => exact absurd hu (h1 _)
    | array hu => exact absurd hu (h2 _ _)
  split at hok
  · rename_i fs hu
    obtain ⟨cs, rfl, _⟩ := hok
    simp only [argOf, hu, VR]
    exact ⟨cs, rfl, by simpa [Value.cells] using hv⟩
  · rename_i n e hu
    obtain ⟨cs, rfl, _⟩ := hok
    simp only [argOf, hu, VR]
    exact ⟨cs, rfl, by simpa [Value.cells] using hv⟩
  · rename_i h1 h2
    obtain ⟨x, rfl, hx⟩ := one h1 h2
    rw [hx]
    have hna : ∀ cs, v ≠ .agg cs := by
      rintro cs rfl
      unfold Cell.okWide at hok
      split at hok <;> try (rename_i heq; cases heq)
      unfold Cell.ok at hok
      split at hok <;> try (rename_i heq; cases heq)
      all_goals first | exact hok | (simp_all; done)
    have hc : v.cells.toList = [v] := by
      cases v with
      | agg cs => exact absurd rfl (hna cs)
      | _ => rfl
    rw [hc] at hv
    simp only [VRs] at hv
    obtain ⟨y, ys, h3, h4, _⟩ := hv
    cases h3; exact h4

theorem open_args {S : List TypeId} (hS : plainB P S = true) : ∀ {ts : List TypeId} {vs : List Value} {ds : List (DataW H)} {ps : List MemPlace}, (∀ t ∈ ts, t ∈ S) → DataW.TrodAll enc P w 0 (fun _ => true) true ts vs ds ps →
    (∀ (j : Nat) t v, ts[j]? = some t → vs[j]? = some v → Value.okWide P w .any bs t v) → ∀ μ h, HR μ h w → Rof h →
    ∃ μ' h' as, μ.le μ' ∧ HLe h h' ∧ HR μ' h' w ∧ Rof h' ∧ VRs μ' as vs ∧ RdArgs P h' ts as ds
  | [], [], [], ps, _, _, _, μ, h, hr, hro => ⟨μ, h, [], Mu.le_refl μ, HLe.refl h, hr, hro, VRs.nil, trivial⟩
  | t :: ts, v :: vs, d :: ds, ps, hS', hA, hok, μ, h, hr, hro => by
    obtain ⟨p, q, ⟨fuel, h3⟩, h4, rfl⟩ := hA
    obtain ⟨μ1, h1, as, g1, g2, g3, g4, g5, g6⟩ := open_any hS fuel t _ d p (hS' t List.mem_cons_self) h3 (fun a ha => row_of_okWide (hok 0 t v rfl rfl) ha) μ h hr hro
    obtain ⟨μ2, h2, ass, k1, k2, k3, k4, k5, k6⟩ := open_args hS (fun t ht => hS' t (List.mem_cons_of_mem _ ht)) h4 (fun j t v h5 h6 => hok (j + 1) t v (by simpa using h5) (by simpa using h6)) μ1 h1 g3 g4
    exact ⟨μ2, h2, argOf P t as :: ass, fun A l hA => k1 A l (g1 A l hA), g2.trans k2, k3, k4, VRs.cons (VR.mono k1 _ _ (arg_of (hok 0 t v rfl rfl) g5 g6)) k5, ⟨as, rfl, g6.mono k2⟩, k6⟩
  | [], _ :: _, _, _, _, h, _, _, _, _, _ => by simp [DataW.TrodAll] at h
  | [], [], _ :: _, _, _, h, _, _, _, _, _ => by simp [DataW.TrodAll] at h
  | _ :: _, [], _, _, _, h, _, _, _, _, _ => by simp [DataW.TrodAll] at h
  | _ :: _, _ :: _, [], _, _, h, _, _, _, _, _ => by simp [DataW.TrodAll] at h

theorem Rof.ext_below {h : Heap} (hro : Rof h) {μ μ' : Mu} {h' : Heap} {w' : World} (hx : Ext μ h w μ' h' w') : Below w.heap.size w w' :=
  ⟨hx.os, hx.tape, hx.output, hx.size, fun k hk => hx.frame k hk fun A l _ _ hw => by
    obtain ⟨b, h1, h2⟩ := hw
    obtain ⟨cs, rfl⟩ := hro.ro A b h1
    cases h2⟩

/-- A LAW: a function that answers true whatever its arguments' data are -/
theorem law_true {S : List TypeId} (hS : plainB P S = true) {f : FuncId} {ts : List TypeId} (hts : ∀ t ∈ ts, t ∈ S) {l : List VTy} {F : vdens l → Heap → Option (Bool × Heap)} (hF : FnOK P f l (.val (.one .bool)) F)
    (hlaw : ∀ (h : Heap) (as : List AV) (ds : List (DataW H)), Rof h → RdArgs P h ts as ds → ∃ xs h', VTy.tos l xs = as ∧ F xs h = some (true, h'))
    {args : Array Value} {ds : List (DataW H)} {ps : List MemPlace} (hA : DataW.TrodAll enc P w 0 (fun _ => true) true ts args.toList ds ps)
    (hok : ∀ (j : Nat) t v, ts[j]? = some t → args[j]? = some v → Value.okWide P w .any bs t v) :
    Calls P f args w fun e w' => e = .returned (.bool true) ∧ Below w.heap.size w w' := by
  obtain ⟨μ, h, as, _, _, hr, hro, hv, hrd⟩ := open_args hS hts hA (fun j t v h1 h2 => hok j t v h1 (by simpa using h2)) (fun _ => none) emptyH (emptyHR w) ⟨fun A b h => (by cases h), fun A _ => by simp [emptyH, Tr.get_nil]⟩
  obtain ⟨xs, h', rfl, hx⟩ := hlaw h as ds hro hrd
  refine (hF xs h true h' hx μ w args hr hv).2.mono ?_
  rintro e w' ⟨u, rfl, μ', h1, _, h3⟩
  simp only [Ty.to, VTy.to, CTy.to, VR] at h1
  exact ⟨by rw [h1], hro.ext_below h3⟩
end
end Go.Proofs.YtjeaammlambkeaaDoor.Ai

namespace Go.Proofs.YtjeaammlambkeaaDoor.Ai
open Go.WideShapes Go.ChangeShapes Go.ChangeAt Go.RowKit
open Go.RowKit (Below)
variable {H : Type} {enc : TypeId × Value → H} {P : Program} {bs : Nat}
theorem below_same {ts : List TypeId} {vars : List String} {apart : Bool} {W W' : World} {vs : List Value} {ds gs : List (DataW H)} {ps : List MemPlace} (hW : DataW.Whole enc P ts vars apart W vs ds gs ps) (hb : Below W.heap.size W W') : ∀ p ∈ ps, W.sameAt W' p := by
  intro p hp
  have hlt := hW.lt p hp
  cases p with
  | cell b off => exact hb.cell (p := ⟨b, off, none⟩) hlt
  | map b => exact hb.block b hlt
/-- what a row asks of a law that answers true: from its call -/
theorem law_post {S : List TypeId} (hS : plainB P S = true) {f : Func} {s : ChangeSpec} {apart fresh handsOn again : Bool} (hts : ∀ t ∈ f.params.toList, t ∈ S) (hvars : s.vars = []) {n : Nat} (hn : f.params.toList.length = n)
    (hspec : ∀ ds : List (DataW H), ds.length = n → s.fn H ds = { results := [.lit (.bool true)], args := ds }) {tb : TypeId} (hres : f.resultTypes.toList = [tb]) (hsz : f.resultTypes.size = 1) (htb : P.underlying tb = some .bool)
    {W : World} {args : Array Value} {ds gs : List (DataW H)} {before : List MemPlace} (hW : DataW.Whole enc P f.params.toList s.vars apart W args.toList ds gs before)
    {W' : World} (hb : Below W.heap.size W W')
    (hok : ∀ (j : Nat) (t : TypeId) (r : Value), f.resultTypes[j]? = some t → ((Value.bool true).resultList f.resultTypes.size)[j]? = some r → Value.okWide P W' .any 0 t r) :
    s.post enc P f apart fresh handsOn again W args (.bool true) W' := by
  have hW' := hW
  obtain ⟨p, q, hA, hV, rfl, hfz, hnd⟩ := hW
  rw [hvars] at hV
  obtain ⟨rfl, rfl⟩ := trodVars_none hV
  have hlen : ds.length = n := by
    have : ∀ {ts : List TypeId} {vs : List Value} {ds : List (DataW H)} {ps : List MemPlace}, DataW.TrodAll enc P W 0 (fun _ => true) true ts vs ds ps → ds.length = ts.length := by
      intro ts
      induction ts with
      | nil => intro vs ds ps h; cases vs <;> cases ds <;> simp [DataW.TrodAll] at h ⊢
      | cons t ts ih =>
        intro vs ds ps h
        cases vs <;> cases ds <;> simp [DataW.TrodAll] at h ⊢
        obtain ⟨_, _, _, h2, _⟩ := h
        exact ih h2
    exact (this hA).trans hn
  have hsp : s.fn H (ds ++ []) = { results := [.lit (.bool true)], args := ds } := by rw [List.append_nil]; exact hspec ds hlen
  have hres' : (Value.bool true).resultList f.resultTypes.size = [.bool true] := by rw [hsz]; rfl
  refine post_of_below (pa := p) (pv := []) hW' ?_ ?_ ?_ rfl hb hok
  · intro b sp hd
    rw [hsp, hres', hres]
    exact trodAll_cons_mk (shut_bool htb _) trodAll_mk0
  · intro sp hs
    rw [hsp]
    refine trodAll_again hS hts hA (fun x hx => below_same hW' hb x (by simp [hx])) (fun x hx => hs x (by simp [hx]))
  · intro sp hs
    rw [hsp, hvars]
    rfl
end Go.Proofs.YtjeaammlambkeaaDoor.Ai

namespace Go.Proofs.YtjeaammlambkeaaDoor.Ai
open Go.ChangeShapes Go.WideShapes
section
variable {H : Type} {P : Program} {h h' : Heap}
/-! what plain data are, by their types -/
theorem Rd.bool_inv {t : TypeId} {as : List AV} {d : DataW H} (hu : P.underlying t = some .bool) (hx : Rd P h t as d) : ∃ b, as = [.bool b] ∧ d = .lit (.bool b) := by
  cases hx <;> simp_all
theorem Rd.int_inv {t : TypeId} {k : IntKind} {as : List AV} {d : DataW H} (hu : P.underlying t = some (.int k)) (hx : Rd P h t as d) : ∃ n, as = [.int k n] ∧ d = .lit (.int k n) ∧ k.min ≤ n ∧ n ≤ k.max := by
  cases hx with
  | int h1 h2 =>
    rw [hu] at h1; simp only [Option.some.injEq, TypeDesc.int.injEq] at h1; subst h1
    simp only [Lit.wf, Bool.and_eq_true, decide_eq_true_eq] at h2
    exact ⟨_, rfl, rfl, h2.1, h2.2⟩
  | _ => simp_all
theorem Rd.str_inv {t : TypeId} {as : List AV} {d : DataW H} (hu : P.underlying t = some .string) (hx : Rd P h t as d) : ∃ s, as = [.str s] ∧ d = .lit (.string s) ∧ s.length ≤ 9223372036854775807 := by
  cases hx with
  | str h1 h2 => exact ⟨_, rfl, rfl, h2⟩
  | _ => simp_all
theorem Rd.slice_inv {t e : TypeId} {as : List AV} {d : DataW H} (hu : P.underlying t = some (.slice e)) (hx : Rd P h t as d) : (as = [.slice none 0 0 0] ∧ d = .nil) ∨
    ∃ (A : Nat) (ass : List (List AV)) (ds sp : List (DataW H)), as = [.slice (some (A, 0)) ds.length ds.length (P.cellsOf e)] ∧ d = .slice ds sp ∧ h.t.get A = some (.row ass.flatten .ro) ∧ A < h.next ∧ ds.length ≤ 9223372036854775807 ∧ ass.length = ds.length ∧
      (∀ (i : Nat) (a : List AV) (d : DataW H), ass[i]? = some a → ds[i]? = some d → Rd P h e a d) := by
  cases hx with
  | nil h1 => exact .inl ⟨rfl, rfl⟩
  | slice h1 h2 h3 h4 h5 h6 =>
    rw [hu] at h1; simp only [Option.some.injEq, TypeDesc.slice.injEq] at h1; subst h1
    exact .inr ⟨_, _, _, _, rfl, rfl, h2, h3, h4, h5, h6⟩
  | _ => simp_all
theorem Rd.struct_inv {t : TypeId} {fs : Array Field} {as : List AV} {d : DataW H} (hu : P.underlying t = some (.struct fs)) (hx : Rd P h t as d) :
    ∃ (ass : List (List AV)) (ds : List (DataW H)), as = ass.flatten ∧ d = .agg ds ∧ ass.length = fs.size ∧ ds.length = fs.size ∧ (∀ (i : Nat) (f : Field) (a : List AV) (d : DataW H), fs[i]? = some f → ass[i]? = some a → ds[i]? = some d → Rd P h f.type a d) := by
  cases hx with
  | struct h1 h2 h3 h4 =>
    rw [hu] at h1; simp only [Option.some.injEq, TypeDesc.struct.injEq] at h1; subst h1
    exact ⟨_, _, rfl, rfl, h2, h3, h4⟩
  | _ => simp_all
theorem argOf_one {t : TypeId} (h1 : ∀ fs, P.underlying t ≠ some (.struct fs)) (h2 : ∀ n e, P.underlying t ≠ some (.array n e)) (v : AV) : argOf P t [v] = v := by
  unfold argOf
  split
  · rename_i fs hu; exact absurd hu (h1 fs)
  · rename_i n e hu; exact absurd hu (h2 n e)
  · rfl
theorem argOf_struct {t : TypeId} {fs : Array Field} (h1 : P.underlying t = some (.struct fs)) (cs : List AV) : argOf P t cs = .agg cs := by
  unfold argOf; rw [h1]

/-! slices, as what they show -/
/-- where a slice's element lies -/
def SL.at (s : SL) (i n : Nat) : Nat × Nat := ((s.a.getD (0, 0)).1, (s.a.getD (0, 0)).2 + i * n)
theorem ixK_at {β : Type} {s : SL} {i n : Nat} (hs : s.a.isSome = true) (hi : i < s.len) (K : Nat × Nat → Option β) : ixK s.a s.len (i : Int) n K = K (s.at i n) := by
  have hb : Nat.blt i s.len = true := by simpa [Nat.blt_eq] using hi
  obtain ⟨q, hq⟩ := Option.isSome_iff_exists.1 hs
  show (match (Int.ofNat i) with | .ofNat j => bif Nat.blt j s.len then need s.a fun q => K (q.1, q.2 + j * n) else none | .negSucc _ => none) = _
  simp only [hb, cond_true, hq, need_some, SL.at, Option.getD_some]
theorem ixK_z {β : Type} {s : SL} {x : Int} {n : Nat} (hs : s.a.isSome = true) (h0 : 0 ≤ x) (hi : x < s.len) (K : Nat × Nat → Option β) : ixK s.a s.len x n K = K (s.at x.toNat n) := by
  obtain ⟨i, rfl⟩ := Int.eq_ofNat_of_zero_le h0
  exact ixK_at hs (by omega) K
/-- the block's cells, if they may be read -/
def rowB : Option Blk → Option (List AV)
  | some (.row cs .own) => some cs
  | some (.row cs .grown) => some cs
  | some (.row cs (.bytes _)) => some cs
  | some (.row cs (.ty _)) => some cs
  | some (.row cs .ro) => some cs
  | _ => none
theorem cellB_row (b : Option Blk) (i : Nat) : cellB b i = (rowB b).bind fun cs => cs[i]? := by
  unfold cellB rowB
  split <;> simp [List.head?_drop]
theorem cellsB_row (b : Option Blk) (i n : Nat) : cellsB b i n = (rowB b).bind fun cs => (takeN n (cs.drop i)).map AV.agg := by
  unfold cellsB rowB; split <;> simp
/-- a slice shows these cells -/
def Sees (h : Heap) (s : SL) (vs : List AV) : Prop :=
  vs.length = s.len * s.sz ∧ (s.a = none → s.len = 0) ∧ ∀ A off, s.a = some (A, off) → A < h.next ∧ ∃ cs, rowB (h.g A) = some cs ∧ (cs.drop off).take vs.length = vs
theorem Sees.isSome {s : SL} {vs : List AV} (hx : Sees h s vs) (hl : 0 < s.len) : s.a.isSome = true := by
  cases ha : s.a with
  | none => have := hx.2.1 ha; omega
  | some q => rfl
theorem Sees.cell {s : SL} {vs : List AV} (hx : Sees h s vs) (h1 : s.sz = 1) {i : Nat} (hi : i < s.len) : h.cell (s.at i 1) = vs[i]? := by
  obtain ⟨h2, h3, h4⟩ := hx
  cases ha : s.a with
  | none => have := h3 ha; omega
  | some q =>
    obtain ⟨A, off⟩ := q
    obtain ⟨_, cs, h5, h6⟩ := h4 A off ha
    rw [h1, Nat.mul_one] at h2
    simp only [SL.at, ha, Option.getD_some, Heap.cell_g, cellB_row, h5, Option.bind_some, Nat.mul_one]
    rw [← h6, List.getElem?_take, List.getElem?_drop, if_pos (by omega)]
theorem Sees.cells {s : SL} {vs : List AV} (hx : Sees h s vs) {n : Nat} (h1 : s.sz = n) {i : Nat} (hi : i < s.len) : h.cells (s.at i n) n = some (.agg ((vs.drop (i * n)).take n)) := by
  obtain ⟨h2, h3, h4⟩ := hx
  subst h1
  cases ha : s.a with
  | none => have := h3 ha; omega
  | some q =>
    obtain ⟨A, off⟩ := q
    obtain ⟨_, cs, h5, h6⟩ := h4 A off ha
    have hle : i * s.sz + s.sz ≤ s.len * s.sz := by
      rw [← Nat.succ_mul]; exact Nat.mul_le_mul_right _ hi
    have hlen : ((cs.drop off).take vs.length).length = vs.length := by rw [h6]
    rw [List.length_take, List.length_drop] at hlen
    simp only [SL.at, ha, Option.getD_some, Heap.cells_g, cellsB_row, h5, Option.bind_some]
    have ht : ∀ (n : Nat) (l : List AV), n ≤ l.length → takeN n l = some (l.take n) := by
      intro n
      induction n with
      | zero => intro l _; cases l <;> rfl
      | succ n ih =>
        intro l hl
        cases l with
        | nil => simp at hl
        | cons x r => simp only [takeN, ih r (by simpa using hl), List.take_succ_cons]
    rw [ht _ _ (by rw [List.length_drop]; omega)]
    simp only [Option.map_some, Option.some.injEq, AV.agg.injEq]
    rw [← h6, List.drop_take, List.take_take, List.drop_drop, Nat.min_eq_left (by omega)]
/-- blocks below 'B' stay as they are -/
structure Keep (B : Nat) (h h' : Heap) : Prop where
  g : ∀ A, A < B → h'.g A = h.g A
  next : h.next ≤ h'.next
theorem Keep.refl (B : Nat) (h : Heap) : Keep B h h := ⟨fun _ _ => rfl, Nat.le_refl _⟩
theorem Keep.trans {B : Nat} {a b c : Heap} (x : Keep B a b) (y : Keep B b c) : Keep B a c := ⟨fun A hA => (y.g A hA).trans (x.g A hA), Nat.le_trans x.next y.next⟩
theorem Keep.mono {B C : Nat} {a b : Heap} (x : Keep B a b) (hl : C ≤ B) : Keep C a b := ⟨fun A hA => x.g A (by omega), x.next⟩
theorem Keep.push {B : Nat} {h0 h : Heap} (x : Keep B h0 h) (hl : B ≤ h0.next) (b : Blk) : Keep B h0 (h.push b) := ⟨fun A hA => (g_push_ne b (by have := x.next; omega)).trans (x.g A hA), by have := x.next; simp; omega⟩
theorem Keep.put {B : Nat} {h0 h : Heap} (x : Keep B h0 h) {A : Nat} (hl : B ≤ A) (b : Blk) : Keep B h0 (h.put A b) := ⟨fun C hC => (g_put_ne b (by omega)).trans (x.g C hC), x.next⟩
def SL.under (s : SL) (B : Nat) : Prop := ∀ A off, s.a = some (A, off) → A < B
theorem Sees.under {s : SL} {vs : List AV} (hx : Sees h s vs) : s.under h.next := fun A off ha => (hx.2.2 A off ha).1
theorem Sees.keep {B : Nat} (hk : Keep B h h') {s : SL} {vs : List AV} (hu : s.under B) (hx : Sees h s vs) : Sees h' s vs := by
  refine ⟨hx.1, hx.2.1, fun A off ha => ?_⟩
  obtain ⟨h1, cs, h2, h3⟩ := hx.2.2 A off ha
  exact ⟨Nat.lt_of_lt_of_le h1 hk.next, cs, by rw [hk.g A (hu A off ha)]; exact h2, h3⟩
theorem Sees.nil (h : Heap) : Sees h ⟨none, 0, 0, 0⟩ [] := ⟨rfl, fun _ => rfl, fun A off ha => by simp at ha⟩
theorem Sees.nilS (h : Heap) (sz : Nat) : Sees h ⟨none, 0, 0, sz⟩ [] := ⟨by simp, fun _ => rfl, fun A off ha => by simp at ha⟩
/-- a slice of the arguments -/
theorem Rd.sees {t e : TypeId} {as : List AV} {d : DataW H} (hu : P.underlying t = some (.slice e)) (hl : ∀ a (d : DataW H), Rd P h e a d → a.length = P.cellsOf e) (hx : Rd P h t as d) :
    ∃ (s : SL) (ass : List (List AV)), as = [.slice s.a s.len s.cap s.sz] ∧ ass.length = s.len ∧ s.len ≤ 9223372036854775807 ∧ (s.sz = P.cellsOf e ∨ s.len = 0) ∧ Sees h s ass.flatten ∧ ∀ (i : Nat) (a : List AV), ass[i]? = some a → ∃ d : DataW H, Rd P h e a d := by
  rcases Rd.slice_inv hu hx with ⟨rfl, _⟩ | ⟨A, ass, ds, sp, rfl, _, h1, h2, h3, h4, h5⟩
  · exact ⟨⟨none, 0, 0, 0⟩, [], rfl, rfl, by simp, .inr rfl, Sees.nil h, fun i a ha => by simp at ha⟩
  · have hd : ∀ (i : Nat) (a : List AV), ass[i]? = some a → ∃ d : DataW H, Rd P h e a d := by
      intro i a ha
      have hi : i < ds.length := by have := (List.getElem?_eq_some_iff.1 ha).1; omega
      exact ⟨ds[i], h5 i a _ ha (List.getElem?_eq_getElem hi)⟩
    refine ⟨⟨some (A, 0), ds.length, ds.length, P.cellsOf e⟩, ass, rfl, h4, h3, .inl rfl, ⟨?_, fun ha => by simp at ha, fun A' off ha => ?_⟩, hd⟩
    · have : ∀ (l : List (List AV)), (∀ a ∈ l, a.length = P.cellsOf e) → l.flatten.length = l.length * P.cellsOf e := by
        intro l
        induction l with
        | nil => intro _; simp
        | cons a r ih => intro hl; rw [List.flatten_cons, List.length_append, ih (fun x hx => hl x (by simp [hx])), hl a (by simp), List.length_cons, Nat.succ_mul, Nat.add_comm]
      rw [this ass ?_, h4]
      intro a ha
      obtain ⟨i, hi⟩ := List.mem_iff_getElem?.1 ha
      obtain ⟨d, hd⟩ := hd i a hi
      exact hl a d hd
    · simp only [Option.some.injEq, Prod.mk.injEq] at ha
      obtain ⟨rfl, rfl⟩ := ha
      refine ⟨h2, ass.flatten, ?_, by rw [List.drop_zero, List.take_length]⟩
      show rowB (h.t.get A) = _
      rw [h1]; rfl
theorem flat_of {α : Type} (f : α → AV) : ∀ (ass : List (List AV)), (∀ (i : Nat) (a : List AV), ass[i]? = some a → ∃ x, a = [f x]) → ∃ xs : List α, ass.flatten = xs.map f ∧ xs.length = ass.length
  | [], _ => ⟨[], rfl, rfl⟩
  | a :: r, h => by
    obtain ⟨x, rfl⟩ := h 0 a rfl
    obtain ⟨xs, h1, h2⟩ := flat_of f r fun i a ha => h (i + 1) a (by simpa using ha)
    exact ⟨x :: xs, by simp [h1], by simp [h2]⟩
theorem Rd.bools {t e : TypeId} {as : List AV} {d : DataW H} (hu : P.underlying t = some (.slice e)) (he : P.underlying e = some .bool) (hc : P.cellsOf e = 1) (hx : Rd P h t as d) :
    ∃ (s : SL) (bs : List Bool), as = [.slice s.a s.len s.cap s.sz] ∧ (s.sz = 1 ∨ s.len = 0) ∧ s.len ≤ 9223372036854775807 ∧ bs.length = s.len ∧ Sees h s (bs.map AV.bool) := by
  obtain ⟨s, ass, rfl, h1, h2, h3, h4, h5⟩ := Rd.sees hu (fun a d hd => by obtain ⟨b, rfl, _⟩ := Rd.bool_inv he hd; exact hc.symm) hx
  obtain ⟨bs, h6, h7⟩ := flat_of AV.bool ass fun i a ha => by
    obtain ⟨d, hd⟩ := h5 i a ha
    obtain ⟨b, rfl, _⟩ := Rd.bool_inv he hd
    exact ⟨b, rfl⟩
  exact ⟨s, bs, rfl, by rw [← hc]; exact h3, h2, by omega, h6 ▸ h4⟩
theorem Rd.ints {t e : TypeId} {k : IntKind} {as : List AV} {d : DataW H} (hu : P.underlying t = some (.slice e)) (he : P.underlying e = some (.int k)) (hc : P.cellsOf e = 1) (hx : Rd P h t as d) :
    ∃ (s : SL) (l : List Int), as = [.slice s.a s.len s.cap s.sz] ∧ (s.sz = 1 ∨ s.len = 0) ∧ s.len ≤ 9223372036854775807 ∧ l.length = s.len ∧ Sees h s (l.map (AV.int k)) ∧ ∀ x ∈ l, k.min ≤ x ∧ x ≤ k.max := by
  obtain ⟨s, ass, rfl, h1, h2, h3, h4, h5⟩ := Rd.sees hu (fun a d hd => by obtain ⟨b, rfl, _⟩ := Rd.int_inv he hd; exact hc.symm) hx
  obtain ⟨bs, h6, h7⟩ := flat_of (fun x : { n : Int // k.min ≤ n ∧ n ≤ k.max } => AV.int k x.1) ass fun i a ha => by
    obtain ⟨d, hd⟩ := h5 i a ha
    obtain ⟨b, rfl, _, hb⟩ := Rd.int_inv he hd
    exact ⟨⟨b, hb⟩, rfl⟩
  refine ⟨s, bs.map (·.1), rfl, by rw [← hc]; exact h3, h2, by simp; omega, ?_, ?_⟩
  · rw [List.map_map]; exact h6 ▸ h4
  · intro x hx
    obtain ⟨y, _, rfl⟩ := List.mem_map.1 hx
    exact y.2
theorem RdArgs.cons_inv {t : TypeId} {ts : List TypeId} {vs : List AV} {ds : List (DataW H)} (hx : RdArgs P h (t :: ts) vs ds) : ∃ cs d vs' ds', vs = argOf P t cs :: vs' ∧ ds = d :: ds' ∧ Rd P h t cs d ∧ RdArgs P h ts vs' ds' := by
  match vs, ds with
  | a :: vs', d :: ds' => obtain ⟨⟨cs, rfl, h1⟩, h2⟩ := hx; exact ⟨cs, d, vs', ds', rfl, rfl, h1, h2⟩
  | [], _ => simp [RdArgs] at hx
  | _ :: _, [] => simp [RdArgs] at hx
theorem RdArgs.nil_inv {vs : List AV} {ds : List (DataW H)} (hx : RdArgs P h [] vs ds) : vs = [] ∧ ds = [] := by
  match vs, ds with
  | [], [] => exact ⟨rfl, rfl⟩
  | _ :: _, _ => simp [RdArgs] at hx
  | [], _ :: _ => simp [RdArgs] at hx
end
end Go.Proofs.YtjeaammlambkeaaDoor.Ai

namespace Go.Proofs.YtjeaammlambkeaaDoor.Ai
/-! slices whose elements are one cell each -/
theorem getD_lt {α : Type} (l : List α) (d : α) {n : Nat} (h : n < l.length) : l.getD n d = l[n] := by rw [List.getD_eq_getElem?_getD, List.getElem?_eq_getElem h]; rfl
def SL.av (s : SL) : AV := .slice s.a s.len s.cap s.sz
def SL.blk (s : SL) : Option Nat := s.a.map (·.1)
def One (h : Heap) (s : SL) (vs : List AV) : Prop := s.len = vs.length ∧ (s.sz = 1 ∨ s.len = 0) ∧ Sees h s vs
section
variable {h h' : Heap} {s : SL} {vs : List AV} {B : Nat}
theorem One.ixz {β : Type} (hs : One h s vs) {x : Int} (h0 : 0 ≤ x) (h1 : x < vs.length) (K : Nat × Nat → Option β) : ixK s.a s.len x 1 K = K (s.at x.toNat 1) :=
  ixK_z (hs.2.2.isSome (by have := hs.1; omega)) h0 (by have := hs.1; omega) K
theorem One.cell (hs : One h s vs) {i : Nat} (hi : i < vs.length) : h.cell (s.at i 1) = some vs[i] := by
  have h1 := hs.1
  rw [hs.2.2.cell (by rcases hs.2.1 with h2 | h2 <;> omega) (by omega)]
  exact List.getElem?_eq_getElem hi
theorem One.int {β : Type} {k : IntKind} {l : List Int} (hs : One h s (l.map (AV.int k))) {x : Int} (h0 : 0 ≤ x) (h1 : x < l.length) (K : Int → Option β) :
    (ixK s.a s.len x 1 fun q => bindV (.val (.one (.int k))) (h.cell q) K) = K (l.getD x.toNat 0) := by
  rw [hs.ixz h0 (by simpa using h1), hs.cell (by simp; omega)]
  simp only [List.getElem_map, bindV_some, cast_int, List.getD]
  rw [List.getElem?_eq_getElem (by omega)]; rfl
theorem One.bool {β : Type} {l : List Bool} (hs : One h s (l.map AV.bool)) {x : Int} (h0 : 0 ≤ x) (h1 : x < l.length) (K : Bool → Option β) :
    (ixK s.a s.len x 1 fun q => bindV (.val (.one .bool)) (h.cell q) K) = K (l.getD x.toNat false) := by
  rw [hs.ixz h0 (by simpa using h1), hs.cell (by simp; omega)]
  simp only [List.getElem_map, bindV_some, cast_bool, List.getD]
  rw [List.getElem?_eq_getElem (by omega)]; rfl
theorem One.sl {β : Type} {l : List SL} (hs : One h s (l.map SL.av)) {x : Int} (h0 : 0 ≤ x) (h1 : x < l.length) (K : SL → Option β) :
    (ixK s.a s.len x 1 fun q => bindV (.val (.one .slice)) (h.cell q) K) = K (l.getD x.toNat ⟨none, 0, 0, 0⟩) := by
  rw [hs.ixz h0 (by simpa using h1), hs.cell (by simp; omega)]
  simp only [List.getElem_map, bindV_some, SL.av, cast_slice, List.getD]
  rw [List.getElem?_eq_getElem (by omega)]; rfl
theorem One.keep (hk : Keep B h h') (hu : s.under B) (hs : One h s vs) : One h' s vs := ⟨hs.1, hs.2.1, hs.2.2.keep hk hu⟩
theorem One.nil (h : Heap) : One h ⟨none, 0, 0, 0⟩ [] := ⟨rfl, .inr rfl, Sees.nil h⟩

/-- a slice of one's own, its elements one cell each -/
def Own1 (B : Nat) (h : Heap) (s : SL) (vs : List AV) : Prop :=
  (s.a = none ∧ s.len = 0 ∧ s.cap = 0 ∧ vs = []) ∨
  ∃ A cs st, s.a = some (A, 0) ∧ s.sz = 1 ∧ B ≤ A ∧ A < h.next ∧ h.g A = some (.row cs st) ∧ s.len = vs.length ∧ vs.length ≤ cs.length ∧ cs.take vs.length = vs ∧ s.len ≤ s.cap ∧ (st = .grown ∨ (st = .own ∧ s.cap = cs.length))
theorem Own1.nil (B : Nat) (h : Heap) (z : Nat) : Own1 B h ⟨none, 0, 0, z⟩ [] := .inl ⟨rfl, rfl, rfl, rfl⟩
theorem Own1.len (hs : Own1 B h s vs) : s.len = vs.length := by
  rcases hs with ⟨_, h1, _, rfl⟩ | ⟨A, cs, st, _, _, _, _, _, h1, _⟩
  · exact h1
  · exact h1
theorem Own1.one (hs : Own1 B h s vs) : One h s vs := by
  rcases hs with ⟨h1, h2, h3, rfl⟩ | ⟨A, cs, st, h1, h2, h3, h4, h5, h6, h7, h8, h9⟩
  · exact ⟨h2, .inr h2, by simp [h2], fun _ => h2, fun A off ha => by rw [h1] at ha; cases ha⟩
  · obtain ⟨h0, h9⟩ := h9
    refine ⟨h6, .inl h2, ⟨by rw [h2, h6]; simp, fun ha => (by rw [h1] at ha; cases ha), fun A' off ha => ?_⟩⟩
    rw [h1] at ha
    simp only [Option.some.injEq, Prod.mk.injEq] at ha
    obtain ⟨rfl, rfl⟩ := ha
    refine ⟨h4, cs, ?_, by simpa using h8⟩
    rw [h5]
    rcases h9 with rfl | ⟨rfl, _⟩ <;> rfl
/-- all but one block stay as they are -/
structure But (o : Option Nat) (h h' : Heap) : Prop where
  g : ∀ A, A < h.next → o ≠ some A → h'.g A = h.g A
  next : h.next ≤ h'.next
theorem But.keep {o : Option Nat} (hb : But o h h') (hl : B ≤ h.next) (ho : ∀ A, o = some A → B ≤ A) : Keep B h h' := ⟨fun A hA => hb.g A (by omega) (fun e => by have := ho A e; omega), hb.next⟩
theorem Own1.ge (hs : Own1 B h s vs) : ∀ A, s.blk = some A → B ≤ A ∧ A < h.next := by
  intro A hA
  rcases hs with ⟨h1, _⟩ | ⟨A', cs, st, h1, h2, h3, h4, _⟩
  · simp [SL.blk, h1] at hA
  · simp [SL.blk, h1] at hA; subst hA; exact ⟨h3, h4⟩
theorem Own1.but {o : Option Nat} (hb : But o h h') (hne : ∀ A, s.blk = some A → o ≠ some A) (hs : Own1 B h s vs) : Own1 B h' s vs := by
  rcases hs with h1 | ⟨A, cs, st, h1, h2, h3, h4, h5, h6⟩
  · exact .inl h1
  · exact .inr ⟨A, cs, st, h1, h2, h3, Nat.lt_of_lt_of_le h4 hb.next, by rw [hb.g A h4 (hne A (by simp [SL.blk, h1]))]; exact h5, h6⟩
theorem Own1.push (hs : Own1 B h s vs) (b : Blk) : Own1 B (h.push b) s vs := by
  rcases hs with h1 | ⟨A, cs, st, h1, h2, h3, h4, h5, h6⟩
  · exact .inl h1
  · exact .inr ⟨A, cs, st, h1, h2, h3, by simp; omega, by rw [g_push_ne _ (by omega)]; exact h5, h6⟩
theorem But.push (h : Heap) (o : Option Nat) (b : Blk) : But o h (h.push b) := ⟨fun A hA _ => g_push_ne b (by omega), by simp⟩
theorem But.trans {o : Option Nat} {a b c : Heap} (x : But o a b) (y : But o b c) : But o a c := ⟨fun A hA hne => (y.g A (Nat.lt_of_lt_of_le hA x.next) hne).trans (x.g A hA hne), Nat.le_trans x.next y.next⟩
theorem But.refl (o : Option Nat) (h : Heap) : But o h h := ⟨fun _ _ _ => rfl, Nat.le_refl _⟩

theorem But.step {o o' : Option Nat} {a b c : Heap} (x : But o a b) (ho : o' = o ∨ ∃ A, o' = some A ∧ a.next ≤ A) (y : But o' b c) : But o a c :=
  ⟨fun A hA hne => (y.g A (Nat.lt_of_lt_of_le hA x.next) (by
    rcases ho with rfl | ⟨A', rfl, h⟩
    · exact hne
    · intro e; cases e; omega)).trans (x.g A hA hne), Nat.le_trans x.next y.next⟩
/-- what is known of a slice type whose elements are one cell -/
structure App1 (E : Env) (st e : TypeId) : Prop where
  und : E.und st = some (.slice e)
  info : ∃ i, E.info e = some i ∧ i.size = 1 ∧ i.bytes ≤ 1000
  zero : ∃ z, E.zero e = some z ∧ z.cells.length = 1
theorem App1.of {E : Env} {st e : TypeId} (hu : E.und st = some (.slice e)) (hi : (match E.info e with | some i => Nat.beq i.size 1 && Nat.ble i.bytes 1000 | none => false) = true)
    (hz : (match E.zero e with | some z => Nat.beq z.cells.length 1 | none => false) = true) : App1 E st e := by
  refine ⟨hu, ?_, ?_⟩
  · cases h : E.info e with
    | none => simp [h] at hi
    | some i => simp [h] at hi; exact ⟨i, rfl, hi.1, hi.2⟩
  · cases h : E.zero e with
    | none => simp [h] at hz
    | some z => simp [h] at hz; exact ⟨z, rfl, hz⟩
theorem takeN_of : ∀ (n : Nat) (l : List AV), n ≤ l.length → takeN n l = some (l.take n)
  | 0, l, _ => by cases l <;> rfl
  | n + 1, [], h => by simp at h
  | n + 1, x :: r, h => by simp only [takeN, takeN_of n r (by simpa using h), List.take_succ_cons]
theorem over_one : ∀ (n : Nat) (cs : List AV) (v : AV), n < cs.length → over n cs [v] = some (cs.set n v)
  | 0, c :: cs, v, _ => by rw [over_zero, over_nil]; rfl
  | n + 1, c :: cs, v, h => by rw [over_succ, over_one n cs v (by simpa using h)]; rfl
  | _, [], _, h => by simp at h
theorem append_own1 {E : Env} {st e : TypeId} (ha : App1 E st e) {v : AV} (hv : AV.single v = true) (hs : Own1 B h s vs) (hb : B ≤ h.next) (hl : vs.length ≤ 100000) :
    ∃ s' h', appendA E st st (.slice s.a s.len s.cap s.sz) (.slice (some (h.next, 0)) 1 1 1) (h.push (.row [v] .own)) = some (.slice s'.a s'.len s'.cap s'.sz, h') ∧ Own1 B h' s' (vs ++ [v]) ∧ But s.blk h h' ∧ (s'.blk = s.blk ∨ ∃ A, s'.blk = some A ∧ h.next ≤ A) := by
  obtain ⟨hu, ⟨i, hi, hi1, hi2⟩, ⟨z, hz, hz1⟩⟩ := ha
  have hr : (h.push (.row [v] .own)).read h.next 0 1 = some [v] := by
    have : (h.push (.row [v] .own)).row h.next = some [v] := (Heap.is_push h [v]).row
    simp only [Heap.read, this, List.drop_zero]; rfl
  have hlen := hs.len
  have hroom : Nat.ble ((s.len + 1) * (i.bytes + i.size + 1)) roomA = true := by
    have h1 : (s.len + 1) * (i.bytes + i.size + 1) ≤ 100001 * 1002 := Nat.mul_le_mul (by omega) (by omega)
    simp only [roomA, Nat.ble_eq]; omega
  have hsz : (Nat.beq s.sz i.size || s.a.isNone) = true := by
    rcases hs with ⟨h1, _⟩ | ⟨A, cs, st', h1, h2, _⟩
    · simp [h1]
    · simp [hi1, h2]
  have key : appendA E st st (.slice s.a s.len s.cap s.sz) (.slice (some (h.next, 0)) 1 1 1) (h.push (.row [v] .own)) = growA (h.push (.row [v] .own)) s.a s.len s.cap 1 1 [v] := by
    have hall : List.all [v] AV.single = true := by simp [hv]
    have hz2 : Nat.beq z.cells.length i.size = true := by rw [hz1, hi1]; rfl
    have hnl : Nat.beq (List.length [v]) (1 * i.size) = true := by rw [hi1]; rfl
    simp only [appendA, hu, isIntD, isStrD, cond_false, hi, hz, lenOfA, firstCellsA, hi1, Nat.one_mul, hr]
    rw [hi1] at hroom hsz hz2
    simp only [show Nat.beq 1 0 = false from rfl, cond_false, hroom, hsz, hz2, hall, show Nat.beq (List.length [v]) 1 = true from rfl, Bool.and_self, cond_true]
  rw [key]
  rcases hs with ⟨h1, h2, h3, rfl⟩ | ⟨A, cs, st', h1, h2, h3, h4, h5, h6, h7, h8, h9⟩
  · refine ⟨⟨some (h.next + 1, 0), 1, 1, 1⟩, (h.push (.row [v] .own)).push (.row [v] .grown), by simp only [growA, h1, h2]; rfl, .inr ⟨h.next + 1, [v], .grown, rfl, rfl, by omega, by simp, g_push_eq _ rfl, rfl, by simp, by simp, by simp, .inl rfl⟩, (But.push h _ _).trans ⟨fun A hA _ => g_push_ne _ (by simp at hA ⊢; omega), by simp⟩, .inr ⟨h.next + 1, rfl, by omega⟩⟩
  · have hg : (h.push (.row [v] .own)).t.get A = some (.row cs st') := by
      have := g_push_ne (h := h) (A := A) (.row [v] .own) (by omega)
      unfold Heap.g at this h5
      rw [this, h5]
    obtain ⟨h0, h9⟩ := h9
    rcases h9 with rfl | ⟨rfl, h10⟩
    · refine ⟨⟨some (h.next + 1, 0), s.len + 1, s.len + 1, 1⟩, ((h.push (.row [v] .own)).put A (.row cs .dead)).push (.row (vs ++ [v]) .grown), ?_, .inr ⟨h.next + 1, vs ++ [v], .grown, rfl, rfl, by omega, by simp, g_push_eq _ rfl, by simp [h6], by simp, List.take_of_length_le (by simp), by simp, .inl rfl⟩, ?_, .inr ⟨h.next + 1, rfl, by omega⟩⟩
      · simp only [growA, h1, hg, Nat.mul_one, List.drop_zero]
        rw [takeN_of _ _ (by omega)]
        simp only [h6, h8]
        rfl
      · refine ⟨fun C hC hne => ?_, by simp; omega⟩
        have hCA : C ≠ A := fun e => hne (by simp [SL.blk, h1, e])
        rw [g_push_ne _ (by simp; omega), g_put_ne _ hCA, g_push_ne _ (by omega)]
    · by_cases hc : s.len + 1 ≤ s.cap
      · have hb1 : Nat.ble (s.len + 1) s.cap = true := by simpa using hc
        refine ⟨⟨some (A, 0), s.len + 1, s.cap, 1⟩, (h.push (.row [v] .own)).put A (.row (cs.set s.len v) .own), ?_, .inr ⟨A, cs.set s.len v, .own, rfl, rfl, h3, by simp; omega, g_put_eq _ rfl, by simp [h6], by simp; omega, ?_, hc, .inr ⟨rfl, by simp [h10]⟩⟩, ?_, .inl (by simp [SL.blk, h1])⟩
        · simp only [growA, h1, hg, Nat.mul_one, List.drop_zero, Nat.zero_add]
          rw [takeN_of _ _ (by omega)]
          simp only [hb1, cond_true, over_one _ _ _ (show s.len < cs.length by omega)]
        · rw [List.length_append, List.length_singleton, List.take_set, h6, List.take_succ_eq_append_getElem (by omega), h8]
          rw [List.set_append_right _ _ (by simp)]
          simp
        · refine ⟨fun C hC hne => ?_, by simp⟩
          have hCA : C ≠ A := fun e => hne (by simp [SL.blk, h1, e])
          rw [g_put_ne _ hCA, g_push_ne _ (by omega)]
      · have hb1 : Nat.ble (s.len + 1) s.cap = false := by
          cases hx : Nat.ble (s.len + 1) s.cap with
          | false => rfl
          | true => exact absurd (by simpa using hx) hc
        refine ⟨⟨some (h.next + 1, 0), s.len + 1, s.len + 1, 1⟩, (h.push (.row [v] .own)).push (.row (vs ++ [v]) .grown), ?_, .inr ⟨h.next + 1, vs ++ [v], .grown, rfl, rfl, by omega, by simp, g_push_eq _ rfl, by simp [h6], by simp, List.take_of_length_le (by simp), by simp, .inl rfl⟩, ?_, .inr ⟨h.next + 1, rfl, by omega⟩⟩
        · simp only [growA, h1, hg, Nat.mul_one, List.drop_zero, Nat.zero_add]
          rw [takeN_of _ _ (by omega)]
          have hb2 := hb1
          rw [h6] at hb2
          simp only [h6, hb2, cond_false, h8]
          rfl
        · refine ⟨fun C hC hne => ?_, by simp; omega⟩
          rw [g_push_ne _ (by simp; omega), g_push_ne _ (by omega)]
/-- a store into a slice of one's own -/
theorem store_own1 (hs : Own1 B h s vs) {i : Nat} (hi : i < vs.length) (v : AV) : ∃ h', h.store (s.at i 1) [v] = some h' ∧ Own1 B h' s (vs.set i v) ∧ But s.blk h h' ∧ h'.next = h.next := by
  rcases hs with ⟨h1, h2, h3, rfl⟩ | ⟨A, cs, st, h1, h2, h3, h4, h5, h6, h7, h8, h9⟩
  · simp at hi
  · have hov := over_one i cs v (by omega)
    have hrow : h.rowW A = some (cs, st) := by
      unfold Heap.g at h5
      simp only [Heap.rowW, h5]
      rcases h9 with ⟨_, rfl | ⟨rfl, _⟩⟩ <;> rfl
    refine ⟨h.put A (.row (cs.set i v) st), ?_, .inr ⟨A, cs.set i v, st, h1, h2, h3, h4, g_put_eq _ rfl, by simpa using h6, by simpa using h7, ?_, ?_⟩, ⟨fun C hC hne => g_put_ne _ (fun e => hne (by simp [SL.blk, h1, e])), Nat.le_refl _⟩, rfl⟩
    · simp only [Heap.store, SL.at, h1, Option.getD_some, Nat.zero_add, Nat.mul_one, hrow, hov]
    · rw [List.length_set, List.take_set, h8]
    · rw [List.length_set]; exact h9
/-- the front of a slice of one's own -/
theorem front_own1 {E : Env} {st e : TypeId} (ha : App1 E st e) (hs : Own1 B h s vs) {n : Nat} (hn : n ≤ vs.length) :
    ∃ s', sliceA E h st (.slice s.a s.len s.cap s.sz) none (some (.int .i64 (n : Int))) = some (.slice s'.a s'.len s'.cap s'.sz) ∧ Own1 B h s' (vs.take n) ∧ s'.blk = s.blk := by
  obtain ⟨hu, ⟨i, hi, hi1, hi2⟩, _⟩ := ha
  have hsz : E.size e = some 1 := by simp [Env.size, hi, hi1]
  rcases hs with ⟨h1, h2, h3, rfl⟩ | ⟨A, cs, st', h1, h2, h3, h4, h5, h6, h7, h8, h0, h9⟩
  · obtain rfl : n = 0 := by simpa using hn
    refine ⟨⟨none, 0, 0, s.sz⟩, ?_, .inl ⟨rfl, rfl, rfl, by simp⟩, by simp [SL.blk, h1]⟩
    simp only [sliceA, hu, h1, h2, h3, hsz, boundA, natOf]
    rfl
  · have hb : Nat.ble n s.cap = true := by simp; omega
    refine ⟨⟨some (A, 0), n, s.cap, 1⟩, ?_, .inr ⟨A, cs, st', rfl, rfl, h3, h4, h5, by simp; omega, by simp; omega, ?_, by simp; omega, h9⟩, by simp [SL.blk, h1]⟩
    · have hnat : natOf (.int .i64 (n : Int)) = some n := rfl
      simp only [sliceA, hu, h1, h2, hsz, show Nat.beq 1 1 = true from rfl, cond_true, boundA, hnat, hb, Nat.zero_mul, Nat.add_zero, Nat.sub_zero]
    · rw [List.length_take, Nat.min_eq_left hn, ← h8, List.take_take, Nat.min_eq_left hn]
/-- make -/
theorem make1 {E : Env} {st e : TypeId} (ha : App1 E st e) (z : AV) (hz : E.zero e = some z) (hz1 : AV.single z = true) (n : Nat) (hn : n ≤ 100000) (h : Heap) :
    makeSliceA E st (.int .i64 (n : Int)) (.int .i64 (n : Int)) h = some (.slice (some (h.next, 0)) n n 1, h.push (.row (List.replicate n z) .own)) ∧ Own1 h.next (h.push (.row (List.replicate n z) .own)) ⟨some (h.next, 0), n, n, 1⟩ (List.replicate n z) := by
  obtain ⟨hu, ⟨i, hi, hi1, hi2⟩, _⟩ := ha
  have hzc : z.cells = [z] := by cases z <;> simp [AV.single] at hz1 <;> rfl
  have hroom : Nat.ble (n * (i.bytes + i.size + 1)) roomA = true := by
    have h1 : n * (i.bytes + i.size + 1) ≤ 100000 * 1002 := Nat.mul_le_mul (by omega) (by omega)
    simp only [roomA, Nat.ble_eq]; omega
  have hrep : ∀ n, repL n [z] = List.replicate n z := by
    intro n
    induction n with
    | zero => rfl
    | succ n ih => simp only [repL, ih, List.singleton_append, List.replicate_succ]
  refine ⟨?_, .inr ⟨h.next, _, .own, rfl, rfl, Nat.le_refl _, by simp, g_push_eq _ rfl, by simp, by simp, by simp, Nat.le_refl _, .inr ⟨rfl, by simp⟩⟩⟩
  have hb : Nat.ble n n = true := by simp
  rw [hi1] at hroom
  simp only [makeSliceA, hu, natOf, hi, hz, hb, hi1, hroom, hzc, List.length_singleton, show Nat.beq 1 1 = true from rfl, Bool.and_self, cond_true, hrep]
end
end Go.Proofs.YtjeaammlambkeaaDoor.Ai

namespace Go.Proofs.YtjeaammlambkeaaDoor.Ai
section
variable {h h' : Heap} {s x : SL} {vs ws : List AV} {B : Nat}
theorem over_many : ∀ (n : Nat) (cs ws : List AV), n + ws.length ≤ cs.length → over n cs ws = some (cs.take n ++ ws ++ cs.drop (n + ws.length))
  | n, cs, [], h => by rw [over_nil]; simp
  | 0, [], w :: ws, h => by simp at h
  | n + 1, [], w :: ws, h => by simp at h
  | 0, c :: cs, w :: ws, h => by
    rw [over_zero, over_many 0 cs ws (by simpa using h)]
    simp
  | n + 1, c :: cs, w :: ws, h => by
    rw [over_succ, over_many n cs (w :: ws) (by simp at h ⊢; omega)]
    simp only [Option.map_some, List.take_succ_cons, List.cons_append, List.length_cons, Option.some.injEq, List.cons.injEq, true_and]
    rw [show n + 1 + (ws.length + 1) = (n + (ws.length + 1)) + 1 by omega, List.drop_succ_cons]
theorem row_of_rowB (A : Nat) {cs : List AV} (hr : rowB (h.g A) = some cs) : h.row A = some cs := by
  unfold Heap.g at hr
  unfold Heap.row
  revert hr
  cases h.t.get A with
  | none => intro hr; simp [rowB] at hr
  | some b =>
    cases b with
    | row cs' st => cases st <;> simp [rowB]
    | _ => intro hr; simp [rowB] at hr
theorem One.first (hx : One h x ws) : firstCellsA h 1 x.len (.slice x.a x.len x.cap x.sz) = some ws := by
  obtain ⟨h1, h2, h3, h4, h5⟩ := hx
  cases ha : x.a with
  | none =>
    have hl : ws.length = 0 := by have := h4 ha; omega
    have : ws = [] := List.length_eq_zero_iff.1 hl
    subst this; rfl
  | some q =>
    obtain ⟨A, off⟩ := q
    obtain ⟨h6, cs, h7, h8⟩ := h5 A off ha
    have hlen : ((cs.drop off).take ws.length).length = ws.length := by rw [h8]
    rw [List.length_take] at hlen
    simp only [firstCellsA, Heap.read, row_of_rowB A h7, Nat.mul_one]
    rw [takeN_of _ _ (by omega), h1, h8]
theorem append_ownN {E : Env} {st e : TypeId} (ha : App1 E st e) (hx : One h x ws) (hv : ∀ w ∈ ws, AV.single w = true) (hs : Own1 B h s vs) (hb : B ≤ h.next) (hl : vs.length + ws.length ≤ 100000) :
    ∃ s' h', appendA E st st (.slice s.a s.len s.cap s.sz) (.slice x.a x.len x.cap x.sz) h = some (.slice s'.a s'.len s'.cap s'.sz, h') ∧ Own1 B h' s' (vs ++ ws) ∧ But s.blk h h' ∧ (s'.blk = s.blk ∨ ∃ A, s'.blk = some A ∧ h.next ≤ A) := by
  obtain ⟨hu, ⟨i, hi, hi1, hi2⟩, ⟨z, hz, hz1⟩⟩ := ha
  have hlen := hs.len
  have hxl := hx.1
  have hfirst := hx.first
  by_cases hn : ws = []
  · subst hn
    have hx0 : x.len = 0 := by simpa using hxl
    refine ⟨s, h, ?_, by simpa using hs, But.refl _ _, .inl rfl⟩
    rw [hx0] at hfirst
    simp only [appendA, hu, isIntD, isStrD, cond_false, hi, hz, lenOfA, hi1, hx0, hfirst, show Nat.beq 0 0 = true from rfl, cond_true]
  have hn0 : Nat.beq x.len 0 = false := by
    cases hq : Nat.beq x.len 0 with
    | false => rfl
    | true =>
      have : x.len = 0 := Nat.eq_of_beq_eq_true hq
      exact absurd (List.length_eq_zero_iff.1 (by omega)) hn
  have hpos : 0 < ws.length := List.length_pos_iff.2 hn
  have hroom : Nat.ble ((s.len + x.len) * (i.bytes + i.size + 1)) roomA = true := by
    have h1 : (s.len + x.len) * (i.bytes + i.size + 1) ≤ 100000 * 1002 := Nat.mul_le_mul (by omega) (by omega)
    simp only [roomA, Nat.ble_eq]; omega
  have hsz : (Nat.beq s.sz i.size || s.a.isNone) = true := by
    rcases hs with ⟨h1, _⟩ | ⟨A, cs, st', h1, h2, _⟩
    · simp [h1]
    · simp [hi1, h2]
  have key : appendA E st st (.slice s.a s.len s.cap s.sz) (.slice x.a x.len x.cap x.sz) h = growA h s.a s.len s.cap 1 x.len ws := by
    have hall : List.all ws AV.single = true := by rw [List.all_eq_true]; exact hv
    have hz2 : Nat.beq z.cells.length 1 = true := by rw [hz1]; rfl
    have hnl : Nat.beq (List.length ws) (x.len * 1) = true := by rw [Nat.mul_one, hxl]; exact Nat.beq_refl _
    rw [hi1] at hroom hsz
    simp only [appendA, hu, isIntD, isStrD, cond_false, hi, hz, lenOfA, hi1, hfirst, hn0, hroom, hsz, hz2, hnl, hall, Bool.and_self, cond_true]
  rw [key]
  rcases hs with ⟨h1, h2, h3, rfl⟩ | ⟨A, cs, st', h1, h2, h3, h4, h5, h6, h7, h8, h0, h9⟩
  · refine ⟨⟨some (h.next, 0), x.len, x.len, 1⟩, h.push (.row ws .grown), by simp only [growA, h1, h2, Nat.zero_add], .inr ⟨h.next, ws, .grown, rfl, rfl, hb, by simp, g_push_eq _ rfl, by simpa using hxl, by simp, by simp, Nat.le_refl _, .inl rfl⟩, But.push h _ _, .inr ⟨h.next, rfl, Nat.le_refl _⟩⟩
  · have hg : h.t.get A = some (.row cs st') := h5
    have ht : takeN vs.length cs = some vs := by rw [takeN_of _ _ (by omega), h8]
    rcases h9 with rfl | ⟨rfl, h10⟩
    · refine ⟨⟨some (h.next, 0), s.len + x.len, s.len + x.len, 1⟩, (h.put A (.row cs .dead)).push (.row (vs ++ ws) .grown), ?_, .inr ⟨h.next, vs ++ ws, .grown, rfl, rfl, hb, by simp, g_push_eq _ rfl, by simp [h6, hxl], by simp, List.take_of_length_le (by simp), Nat.le_refl _, .inl rfl⟩, ?_, .inr ⟨h.next, rfl, Nat.le_refl _⟩⟩
      · simp only [growA, h1, hg, Nat.mul_one, List.drop_zero]
        rw [h6]
        simp only [ht]
      · refine ⟨fun C hC hne => ?_, by simp⟩
        have hCA : C ≠ A := fun e => hne (by simp [SL.blk, h1, e])
        rw [g_push_ne _ (by simp; omega), g_put_ne _ hCA]
    · by_cases hc : s.len + x.len ≤ s.cap
      · have hb1 : Nat.ble (s.len + x.len) s.cap = true := by simpa using hc
        have hov := over_many s.len cs ws (by omega)
        refine ⟨⟨some (A, 0), s.len + x.len, s.cap, 1⟩, h.put A (.row (cs.take s.len ++ ws ++ cs.drop (s.len + ws.length)) .own), ?_, .inr ⟨A, _, .own, rfl, rfl, h3, by simp; omega, g_put_eq _ rfl, by simp [h6, hxl], by simp; omega, ?_, hc, .inr ⟨rfl, ?_⟩⟩, ?_, .inl (by simp [SL.blk, h1])⟩
        · simp only [growA, h1, hg, Nat.mul_one, List.drop_zero, Nat.zero_add]
          rw [h6] at hov hb1 ⊢
          simp only [ht, hb1, cond_true, hov]
        · rw [List.length_append, h6, h8, List.take_append_of_le_length (by simp)]
          rw [List.take_of_length_le (by simp)]
        · simp only [List.length_append, List.length_take, List.length_drop]; omega
        · refine ⟨fun C hC hne => ?_, Nat.le_refl _⟩
          have hCA : C ≠ A := fun e => hne (by simp [SL.blk, h1, e])
          rw [g_put_ne _ hCA]
      · have hb1 : Nat.ble (s.len + x.len) s.cap = false := by
          cases hx : Nat.ble (s.len + x.len) s.cap with
          | false => rfl
          | true => exact absurd (by simpa using hx) hc
        refine ⟨⟨some (h.next, 0), s.len + x.len, s.len + x.len, 1⟩, h.push (.row (vs ++ ws) .grown), ?_, .inr ⟨h.next, vs ++ ws, .grown, rfl, rfl, hb, by simp, g_push_eq _ rfl, by simp [h6, hxl], by simp, List.take_of_length_le (by simp), Nat.le_refl _, .inl rfl⟩, ?_, .inr ⟨h.next, rfl, Nat.le_refl _⟩⟩
        · simp only [growA, h1, hg, Nat.mul_one, List.drop_zero, Nat.zero_add]
          rw [h6] at hb1 ⊢
          simp only [ht, hb1, cond_false]
        · refine ⟨fun C hC hne => ?_, by simp⟩
          rw [g_push_ne _ (by omega)]
end
end Go.Proofs.YtjeaammlambkeaaDoor.Ai

namespace Go.Proofs.YtjeaammlambkeaaDoor.Ai
section
variable {P : Program}
/-- a function without a text of its own, answered at once -/
def FnVal (P : Program) (f : FuncId) (l : List VTy) (t : Ty) (F : vdens l → Heap → Option (t.den × Heap)) : Prop :=
  ∀ xs h r h', F xs h = some (r, h') → ∀ μ w (args' : Array Value), HR μ h w → VRs μ (VTy.tos l xs) args'.toList → ∃ u w', (callFunc f args').run P w = .ok (.value u) w' ∧ Post μ h w (t.to r) h' u w'
theorem addCallV_ok {f : FuncId} {l : List VTy} {t : Ty} {F : vdens l → Heap → Option (t.den × Heap)} {C : CallK} (hF : FnVal P f l t F) (hC : CallKOK P C) : CallKOK P (addCall f l t F C) := by
  constructor
  · intro β g args h k b hx
    unfold addCall at hx
    cases hg : Nat.beq g f with
    | true =>
      simp only [hg, cond_true] at hx
      obtain ⟨xs, rfl, h1⟩ := VTy.casts_spec hx
      obtain ⟨r, h', h2, h3⟩ := bind2_spec h1
      refine ⟨t.to r, h', ?_, h3⟩
      simp only [callOf, addCall, hg, cond_true, VTy.casts_tos, h2, bind2]
    | false =>
      simp only [hg, cond_false] at hx
      obtain ⟨v, h', h1, h2⟩ := hC.nat hx
      exact ⟨v, h', by simp only [callOf, addCall, hg, cond_false]; exact h1, h2⟩
  · intro g args h v h' hx μ w args' hr hv
    simp only [callOf, addCall] at hx
    cases hg : Nat.beq g f with
    | true =>
      simp only [hg, cond_true] at hx
      obtain ⟨xs, rfl, h1⟩ := VTy.casts_spec hx
      obtain ⟨r, h2, h3, h4⟩ := bind2_spec h1
      simp only [Option.some.injEq, Prod.mk.injEq] at h4
      obtain ⟨rfl, rfl⟩ := h4
      have := Nat.eq_of_beq_eq_true hg
      subst this
      exact .inl (hF xs h r h2 h3 μ w args' hr hv)
    | false =>
      simp only [hg, cond_false] at hx
      exact hC.ok g args h v h' hx μ w args' hr hv
/-- functions in a second form, as natives of the first evaluator -/
def natsOf (L : List FuncId) (C : CallK) (nat : FuncId → Option (List AV → Heap → Option (AV × Heap))) : FuncId → Option (List AV → Heap → Option (AV × Heap)) :=
  fun f => bif memL f L then some (fun args h => callOf C f args h) else nat f
theorem natsOf_ok {L : List FuncId} {C : CallK} {nat : FuncId → Option (List AV → Heap → Option (AV × Heap))} {cmp cmp' : List TypeId} (hC : CallKOK P C) (hn : NativeOK (envOf P cmp nat) P) : NativeOK (envOf P cmp' (natsOf L C nat)) P := by
  intro f g hg args h v h' hx μ w args' hr hv
  have hg' : natsOf L C nat f = some g := hg
  unfold natsOf at hg'
  cases hm : memL f L with
  | true =>
    rw [hm, cond_true] at hg'
    simp only [Option.some.injEq] at hg'
    subst hg'
    exact hC.ok f args h v h' hx μ w args' hr hv
  | false =>
    rw [hm, cond_false] at hg'
    exact hn f g hg' args h v h' hx μ w args' hr hv
end
end Go.Proofs.YtjeaammlambkeaaDoor.Ai

namespace Go.Proofs.YtjeaammlambkeaaDoor.Ai
open Go.ChangeShapes Go.WideShapes
open Go.RowKit (Below)
section
variable {H : Type} {P : Program} {h : Heap}
/-! a struct's parts, one by one -/
def RdF (P : Program) (h : Heap) : List TypeId → List (List AV) → List (DataW H) → Prop
  | [], [], [] => True
  | t :: ts, a :: as, d :: ds => Rd P h t a d ∧ RdF P h ts as ds
  | _, _, _ => False
theorem RdF.cons_inv {t : TypeId} {ts : List TypeId} {as : List (List AV)} {ds : List (DataW H)} (hx : RdF P h (t :: ts) as ds) : ∃ a as' d ds', as = a :: as' ∧ ds = d :: ds' ∧ Rd P h t a d ∧ RdF P h ts as' ds' := by
  match as, ds with
  | a :: as', d :: ds' => exact ⟨a, as', d, ds', rfl, rfl, hx.1, hx.2⟩
  | [], _ => simp [RdF] at hx
  | _ :: _, [] => simp [RdF] at hx
theorem RdF.nil_inv {as : List (List AV)} {ds : List (DataW H)} (hx : RdF P h [] as ds) : as = [] ∧ ds = [] := by
  match as, ds with
  | [], [] => exact ⟨rfl, rfl⟩
  | _ :: _, _ => simp [RdF] at hx
  | [], _ :: _ => simp [RdF] at hx
theorem RdF.of : ∀ {ts : List TypeId} {as : List (List AV)} {ds : List (DataW H)}, as.length = ts.length → ds.length = ts.length → (∀ (i : Nat) t a d, ts[i]? = some t → as[i]? = some a → ds[i]? = some d → Rd P h t a d) → RdF P h ts as ds
  | [], [], [], _, _, _ => trivial
  | t :: ts, a :: as, d :: ds, h1, h2, h3 => ⟨h3 0 t a d rfl rfl rfl, RdF.of (by simpa using h1) (by simpa using h2) fun i t a d x y z => h3 (i + 1) t a d (by simpa using x) (by simpa using y) (by simpa using z)⟩
  | [], _ :: _, _, h1, _, _ => by simp at h1
  | [], [], _ :: _, _, h2, _ => by simp at h2
  | _ :: _, [], _, h1, _, _ => by simp at h1
  | _ :: _, _ :: _, [], _, h2, _ => by simp at h2
def isStruct (P : Program) (t : TypeId) (ts : List TypeId) : Bool := match P.underlying t with
  | some (.struct fs) => decide (fs.toList.map (·.type) = ts)
  | _ => false
theorem Rd.fields {t : TypeId} {ts : List TypeId} (hu : isStruct P t ts = true) {as : List AV} {d : DataW H} (hx : Rd P h t as d) : ∃ ass ds, as = ass.flatten ∧ d = .agg ds ∧ RdF P h ts ass ds := by
  unfold isStruct at hu
  split at hu
  · rename_i fs hf
    have hts := of_decide_eq_true hu
    obtain ⟨ass, ds, rfl, rfl, h1, h2, h3⟩ := Rd.struct_inv hf hx
    refine ⟨ass, ds, rfl, rfl, RdF.of ?_ ?_ ?_⟩
    · rw [← hts, List.length_map, h1]; simp
    · rw [← hts, List.length_map, h2]; simp
    · intro i t a d ht ha hd
      rw [← hts, List.getElem?_map] at ht
      cases hq : fs.toList[i]? with
      | none => rw [hq] at ht; cases ht
      | some f =>
        rw [hq] at ht
        simp only [Option.map_some, Option.some.injEq] at ht
        subst ht
        exact h3 i f a d (by rw [← hq]; simp) ha hd
  · cases hu
/-- a list's elements, one by one -/
theorem Rd.each {α : Type} {e : TypeId} {Q : α → List AV → DataW H → Prop} : ∀ (ass : List (List AV)) (ds : List (DataW H)), ass.length = ds.length → (∀ (i : Nat) a d, ass[i]? = some a → ds[i]? = some d → Rd P h e a d) →
    (∀ a d, d ∈ ds → Rd P h e a d → ∃ x, Q x a d) → ∃ xs : List α, xs.length = ds.length ∧ ∀ (i : Nat) x a d, xs[i]? = some x → ass[i]? = some a → ds[i]? = some d → Q x a d
  | [], [], _, _, _ => ⟨[], rfl, fun i x a d h => by simp at h⟩
  | a :: r, d :: q, hl, hx, hq => by
    obtain ⟨x, h1⟩ := hq a d List.mem_cons_self (hx 0 a d rfl rfl)
    obtain ⟨xs, h2, h3⟩ := Rd.each r q (by simpa using hl) (fun i a d x y => hx (i + 1) a d (by simpa using x) (by simpa using y)) (fun a d hd hr => hq a d (List.mem_cons_of_mem _ hd) hr)
    refine ⟨x :: xs, by simp [h2], fun i y a' d' e1 e2 e3 => ?_⟩
    cases i with
    | zero => simp at e1 e2 e3; subst e1 e2 e3; exact h1
    | succ i => exact h3 i y a' d' (by simpa using e1) (by simpa using e2) (by simpa using e3)
  | [], _ :: _, hl, _, _ => by simp at hl
  | _ :: _, [], hl, _, _ => by simp at hl
/-- a law that is true of these data -/
theorem law_at {enc : TypeId × Value → H} {w : World} {bs : Nat} {S : List TypeId} (hS : plainB P S = true) {f : FuncId} {ts : List TypeId} (hts : ∀ t ∈ ts, t ∈ S) {l : List VTy} {F : vdens l → Heap → Option (Bool × Heap)} (hF : FnOK P f l (.val (.one .bool)) F)
    {args : Array Value} {ds : List (DataW H)} {ps : List MemPlace}
    (hlaw : ∀ (h : Heap) (vs : List AV), Rof h → RdArgs P h ts vs ds → ∃ xs h', VTy.tos l xs = vs ∧ F xs h = some (true, h'))
    (hA : DataW.TrodAll enc P w 0 (fun _ => true) true ts args.toList ds ps)
    (hok : ∀ (j : Nat) t v, ts[j]? = some t → args[j]? = some v → Value.okWide P w .any bs t v) :
    Calls P f args w fun e w' => e = .returned (.bool true) ∧ Below w.heap.size w w' := by
  obtain ⟨μ, h, vs, _, hle, hr, hro, hv, hrd⟩ := open_args hS hts hA (fun j t v h1 h2 => hok j t v h1 (by simpa using h2)) (fun _ => none) emptyH (emptyHR w) ⟨fun A b h => (by cases h), fun A _ => by simp [emptyH, Tr.get_nil]⟩
  obtain ⟨xs, h', rfl, hx⟩ := hlaw h vs hro hrd
  refine (hF xs h true h' hx μ w args hr hv).2.mono ?_
  rintro e w' ⟨u, rfl, μ', h1, _, h3⟩
  simp only [Ty.to, VTy.to, CTy.to, VR] at h1
  exact ⟨by rw [h1], hro.ext_below h3⟩
end
end Go.Proofs.YtjeaammlambkeaaDoor.Ai
