/- A region that draws its order, where two operations that make memory come up side by side: a plan up to there, and a plan for each. -/
import Derived.Test.YtmfligfcejhjaaaDoorR
namespace Go.Proofs.YtmfligfcejhjaaaDoor
open Go Go.RowKit
section
variable {P : Program} {ops : Array Oper} {md : Region.Mode}
variable {Q : Act → World → Prop} {st : Nat → (Act → World → Prop) → Act → World → Prop} {N : Nat}

/-- What is asked where the ways part. -/
def forkP (P : Program) (ops : Array Oper) (Q : Act → World → Prop) (st : Nat → (Act → World → Prop) → Act → World → Prop) (N : Nat) (forks : List (Nat × List (Nat × Nat))) (a : Act) (w : World) : Prop :=
  ∀ f ∈ forks, st f.1 (fun a' w' => Ext w w' ∧ wpPlan P ops Q st N f.2 a' w') a w
def planF (md : Region.Mode) (ops : Array Oper) (N m : Nat) (forks : List (Nat × List (Nat × Nat))) : List (Nat × Nat) → Array Bool → Bool
  | [], listed => (Region.ready md ops listed == forks.map (·.1)) && (!forks.isEmpty) && forks.all fun f => decide (f.2.length = m) && planB md ops N f.2 (listed.setIfInBounds f.1 true)
  | (i, k) :: rest, listed =>
    (if k = 0 then (Region.ready md ops listed).contains i && Region.free md ops listed i && decide (i < N)
     else if k = 1 then (Region.ready md ops listed).contains i && Region.free md ops listed i && decide (i < N) && ((List.range ops.size).all fun j => decide (j < N) || anc md ops ops.size j i)
     else (Region.ready md ops listed == [i]) && decide (i < N)) && planF md ops N m forks rest (listed.setIfInBounds i true)

theorem planF_sound (L : StepLaws P ops Q st) (hsel : Region.noSelect ops = true) (m : Nat) (forks : List (Nat × List (Nat × Nat))) : ∀ (plan : List (Nat × Nat)) (listed : Array Bool) (a : Act) (w w0 : World),
    planF md ops N m forks plan listed = true → Closed md ops listed → listed.size = ops.size → Ext w0 w → wpPlan P ops (forkP P ops Q st N forks) st N plan a w → wpAnyS md ops Q st N (Ext w0) (plan.length + (m + 1)) listed a w
  | [], listed, a, w, w0, hB, hcl, hsz, hE, h => by
    simp only [planF, Bool.and_eq_true, Bool.not_eq_true'] at hB
    obtain ⟨⟨hr, hne⟩, hall⟩ := hB
    have hr : Region.ready md ops listed = forks.map (·.1) := by simpa using hr
    rw [List.length_nil, Nat.zero_add]
    refine ⟨fun h0 => (by rw [h0] at hr; cases forks with | nil => simp at hne | cons x xs => simp at hr), fun j hj => ?_⟩
    have hj' := hj
    rw [hr] at hj'
    obtain ⟨f, hf, rfl⟩ := List.mem_map.1 hj'
    have hfb := List.all_eq_true.1 hall f hf
    simp only [Bool.and_eq_true, decide_eq_true_eq] at hfb
    have hst : st f.1 (fun a' w' => Ext w w' ∧ wpPlan P ops Q st N f.2 a' w') a w := h f hf
    refine L.mono (fun a' w' h' => ?_) hst
    have hE' := hE.trans h'.1
    have := plan_sound L hsel f.2 _ a' w' w0 0 hfb.2 (hcl.set hj) (by simpa using hsz) hE' h'.2
    rw [Nat.add_zero, hfb.1] at this
    exact ⟨.inr hE', this⟩
  | (i, k) :: rest, listed, a, w, w0, hB, hcl, hsz, hE, h => by
    have hB0 := hB
    by_cases hk0 : k = 0
    · simp only [planF, hk0, if_true, Bool.and_eq_true, decide_eq_true_eq] at hB
      obtain ⟨⟨⟨hr, hf⟩, hiN⟩, hrest⟩ := hB
      have hr' : i ∈ Region.ready md ops listed := by simpa using hr
      simp only [wpPlan, hk0, if_true] at h
      split at h
      · exact h.elim
      · rename_i o ho
        obtain ⟨v, hy, hK⟩ := h
        have hrec := planF_sound L hsel m forks rest (listed.setIfInBounds i true) (a.put o.dst v) w w0 hrest (hcl.set hr') (by simpa using hsz) hE hK
        have h1 := wpAnyS_first L (S := Ext w0) (S1 := fun _ => True) ho (Region.noSelect_spec hsel) hiN (fun _ _ _ _ _ => trivial) (rest.length + (m + 1)) listed a w hcl (Region.free_spec ho hf) hr' hy (.inr hE) hrec
        rw [List.length_cons, show rest.length + 1 + (m + 1) = rest.length + (m + 1) + 1 by omega]
        exact h1
    by_cases hk1 : k = 1
    · subst hk1
      simp only [planF, if_true, Bool.and_eq_true, decide_eq_true_eq, Nat.one_ne_zero, if_false] at hB
      obtain ⟨⟨⟨⟨hr, hf⟩, hiN⟩, hanc⟩, hrest⟩ := hB
      have hr' : i ∈ Region.ready md ops listed := by simpa using hr
      simp only [wpPlan, if_true, Nat.one_ne_zero, if_false] at h
      split at h
      · exact h.elim
      · rename_i o ho
        obtain ⟨v, hy, hK⟩ := h
        have hrec := planF_sound L hsel m forks rest (listed.setIfInBounds i true) (a.put o.dst v) w w hrest (hcl.set hr') (by simpa using hsz) (Ext.refl w) hK
        have h1 := wpAnyS_first L (S := Ext w) (S1 := Ext w) ho (Region.noSelect_spec hsel) hiN (fun l w' hc hu ht => by
          rcases ht with ⟨t, ht, hl⟩ | h
          · exfalso
            have hts : t < ops.size ∨ ¬ t < ops.size := Decidable.em _
            rcases hts with hts | hts
            · have := List.all_eq_true.1 hanc t (List.mem_range.2 hts)
              simp only [Bool.or_eq_true, decide_eq_true_eq] at this
              have := anc_listed hc _ _ _ hl (this.resolve_left (by omega))
              rw [unlisted_false hu] at this
              cases this
            · rw [show l.getD t false = false by simp [Array.getElem?_eq_none (show l.size ≤ t by rw [hc.1]; omega)]] at hl
              cases hl
          · exact h) (rest.length + (m + 1)) listed a w hcl (Region.free_spec ho hf) hr' hy (.inr (Ext.refl w)) hrec
        rw [List.length_cons, show rest.length + 1 + (m + 1) = rest.length + (m + 1) + 1 by omega]
        exact wpAnyS_weak L (fun w' hw' => hE.trans hw') _ _ _ _ h1
    · simp only [planF, hk0, hk1, if_false, Bool.and_eq_true, decide_eq_true_eq] at hB
      obtain ⟨⟨hr, hiN⟩, hrest⟩ := hB
      have hr : Region.ready md ops listed = [i] := by simpa using hr
      have hr' : i ∈ Region.ready md ops listed := by rw [hr]; simp
      rw [List.length_cons, show rest.length + 1 + (m + 1) = rest.length + (m + 1) + 1 by omega]
      refine ⟨fun h0 => (by rw [h0] at hr; cases hr), fun j hj => ?_⟩
      rw [hr] at hj
      obtain rfl : j = i := by simpa using hj
      simp only [wpPlan, hk0, hk1, if_false] at h
      refine L.mono (fun a' w' h' => ?_) h
      have hE' := hE.trans (h'.1.resolve_left (by omega))
      exact ⟨.inr hE', planF_sound L hsel m forks rest _ a' w' w0 hrest (hcl.set hr') (by simpa using hsz) hE' h'.2⟩
end
section
variable {P : Program} {ops : Array Oper} {N : Nat}
/-- **A region that draws, along a plan that parts.** -/
theorem wp_region_fork {id : Nat} {Q : Exit → Act → World → Prop} {a : Act} {w : World} {l : List Oper} (plan : List (Nat × Nat)) (m : Nat) (forks : List (Nat × List (Nat × Nat))) (N : Nat) (hm : P.follows .mixedOrders = true)
    (hB : (Region.noSelect l.toArray && decide (plan.length + (m + 1) = l.length) && planF .any l.toArray N m forks plan (Array.replicate l.length false)) = true) (hQ : ∀ c a d v w, Q (.panic c) (Act.put a d v) w → Q (.panic c) a w)
    (h : wpPlan P l.toArray (forkP P l.toArray (Q .normal) (fun i K a w => wpOp P l.toArray Q i K a w) N forks) (fun i K a w => wpOp P l.toArray Q i K a w) N plan a w.drew) : (Code.region id l.toArray true).wp P Q a w := by
  simp only [Bool.and_eq_true, decide_eq_true_eq] at hB
  refine wp_region_any hm ?_
  have := planF_sound (plainLaws Q hQ) hB.1.1 m forks plan (Array.replicate l.length false) a w.drew w.drew hB.2 ⟨by simp, fun j oj hj hl => by
    rcases Nat.lt_or_ge j l.length with h | h
    · simp [h] at hl
    · simp [h] at hl⟩ (by simp) (Ext.refl _) h
  rw [hB.1.2] at this
  have := wpAny_of_S _ _ _ _ this
  simpa using this
/-- The two ways, one after the other. -/
theorem wpPlan_fork {Q : Exit → Act → World → Prop} {i j : Nat} {pi pj : List (Nat × Nat)} {oi oj : Oper} {a : Act} {w : World} (hoi : ops[i]? = some oi) (hoj : ops[j]? = some oj) (hgi : oi.guard = none) (hgj : oj.guard = none)
    (h1 : ∀ K : Act → World → Prop, (∀ a' w', (Ext w w' ∧ wpPlan P ops (Q .normal) (fun i K a w => wpOp P ops Q i K a w) N pi a' w') → K a' w') → oi.wp P a w K Q)
    (h2 : ∀ K : Act → World → Prop, (∀ a' w', (Ext w w' ∧ wpPlan P ops (Q .normal) (fun i K a w => wpOp P ops Q i K a w) N pj a' w') → K a' w') → oj.wp P a w K Q) :
    wpPlan P ops (forkP P ops (Q .normal) (fun i K a w => wpOp P ops Q i K a w) N [(i, pi), (j, pj)]) (fun i K a w => wpOp P ops Q i K a w) N [] a w := by
  intro f hf
  simp only [List.mem_cons, List.not_mem_nil, or_false] at hf
  rcases hf with rfl | rfl
  · simp only [wpOp, hoi, Region.wanted, hgi, if_true]
    exact .inl (h1 _ (fun _ _ h => h))
  · simp only [wpOp, hoj, Region.wanted, hgj, if_true]
    exact .inl (h2 _ (fun _ _ h => h))
end
end Go.Proofs.YtmfligfcejhjaaaDoor
