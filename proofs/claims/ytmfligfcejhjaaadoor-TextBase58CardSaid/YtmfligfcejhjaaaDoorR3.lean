/- A region that draws its order, as a tree: where two operations that make memory come up side by side the ways part, as often as they do. -/
import Derived.Test.YtmfligfcejhjaaaDoorR2
namespace Go.Proofs.YtmfligfcejhjaaaDoor
open Go Go.RowKit
section
variable {P : Program} {ops : Array Oper} {md : Region.Mode}
variable {Q : Act → World → Prop} {st : Nat → (Act → World → Prop) → Act → World → Prop} {N : Nat}

def closedB (md : Region.Mode) (ops : Array Oper) (listed : Array Bool) : Bool :=
  decide (listed.size = ops.size) && (List.range ops.size).all fun j => !(listed.getD j false) || (match ops[j]? with | some oj => oj.after.all fun e => !(Region.binds md e) || listed.getD e.on false | none => true)
theorem closedB_spec {listed : Array Bool} (h : closedB md ops listed = true) : Closed md ops listed := by
  simp only [closedB, Bool.and_eq_true, decide_eq_true_eq, List.all_eq_true, List.mem_range, Bool.or_eq_true, Bool.not_eq_true'] at h
  refine ⟨h.1, fun j oj hj hl e he hb => ?_⟩
  have hjs : j < ops.size := (Array.getElem?_eq_some_iff.1 hj).1
  rcases h.2 j hjs with h1 | h1
  · rw [hl] at h1; cases h1
  · rw [hj] at h1
    have h2 := Array.all_eq_true_iff_forall_mem.1 h1 e he
    simp only [Bool.or_eq_true, Bool.not_eq_true'] at h2
    rcases h2 with h2 | h2
    · rw [hb] at h2; cases h2
    · exact h2

/-- From this state on, what C asks is enough for every order. -/
def Snd (md : Region.Mode) (ops : Array Oper) (Q : Act → World → Prop) (st : Nat → (Act → World → Prop) → Act → World → Prop) (N : Nat) (listed : Array Bool) (n : Nat) (C : Act → World → Prop) : Prop :=
  ∀ a w w0, Ext w0 w → C a w → wpAnyS md ops Q st N (Ext w0) n listed a w
def forkC (st : Nat → (Act → World → Prop) → Act → World → Prop) (i : Nat) (Ci : Act → World → Prop) (j : Nat) (Cj : Act → World → Prop) (a : Act) (w : World) : Prop :=
  st i (fun a' w' => Ext w w' ∧ Ci a' w') a w ∧ st j (fun a' w' => Ext w w' ∧ Cj a' w') a w

theorem snd_plan (L : StepLaws P ops Q st) (hsel : Region.noSelect ops = true) (plan : List (Nat × Nat)) (listed : Array Bool) (hB : (planB md ops N plan listed && closedB md ops listed) = true) : Snd md ops Q st N listed plan.length (wpPlan P ops Q st N plan) := by
  intro a w w0 hE h
  simp only [Bool.and_eq_true] at hB
  have hc := closedB_spec hB.2
  have := plan_sound L hsel plan listed a w w0 0 hB.1 hc hc.1 hE h
  simpa using this
theorem snd_fork (L : StepLaws P ops Q st) (i j n : Nat) (listed : Array Bool) (hr : (Region.ready md ops listed == [i, j]) = true) {Ci Cj : Act → World → Prop}
    (hi : Snd md ops Q st N (listed.setIfInBounds i true) n Ci) (hj : Snd md ops Q st N (listed.setIfInBounds j true) n Cj) : Snd md ops Q st N listed (n + 1) (forkC st i Ci j Cj) := by
  intro a w w0 hE h
  have hr : Region.ready md ops listed = [i, j] := by simpa using hr
  refine ⟨fun h0 => (by rw [hr] at h0; cases h0), fun k hk => ?_⟩
  rw [hr] at hk
  simp only [List.mem_cons, List.not_mem_nil, or_false] at hk
  rcases hk with rfl | rfl
  · exact L.mono (fun a' w' h' => have hE' := hE.trans h'.1; ⟨.inr hE', hi a' w' w0 hE' h'.2⟩) h.1
  · exact L.mono (fun a' w' h' => have hE' := hE.trans h'.1; ⟨.inr hE', hj a' w' w0 hE' h'.2⟩) h.2
/-- Quiet steps ahead. -/
def preB (md : Region.Mode) (ops : Array Oper) (N : Nat) : List (Nat × Nat) → Array Bool → Bool
  | [], _ => true
  | (i, k) :: rest, listed =>
    (if k = 0 then (Region.ready md ops listed).contains i && Region.free md ops listed i && decide (i < N)
     else if k = 1 then (Region.ready md ops listed).contains i && Region.free md ops listed i && decide (i < N) && ((List.range ops.size).all fun j => decide (j < N) || anc md ops ops.size j i)
     else (Region.ready md ops listed == [i]) && decide (i < N)) && preB md ops N rest (listed.setIfInBounds i true)
def listAll : List (Nat × Nat) → Array Bool → Array Bool
  | [], l => l
  | (i, _) :: rest, l => listAll rest (l.setIfInBounds i true)
theorem snd_pre (L : StepLaws P ops Q st) (hsel : Region.noSelect ops = true) (n : Nat) {C : Act → World → Prop} : ∀ (pre : List (Nat × Nat)) (listed : Array Bool),
    preB md ops N pre listed = true → Closed md ops listed → Snd md ops Q st N (listAll pre listed) n C → Snd md ops Q st N listed (pre.length + n) (wpPlan P ops C st N pre)
  | [], listed, _, _, hS => by
    intro a w w0 hE h
    rw [List.length_nil, Nat.zero_add]
    exact hS a w w0 hE h
  | (i, k) :: rest, listed, hB, hcl, hS => by
    intro a w w0 hE h
    have hlen : ((i, k) :: rest).length + n = (rest.length + n) + 1 := by simp; omega
    rw [hlen]
    by_cases hk0 : k = 0
    · simp only [preB, hk0, if_true, Bool.and_eq_true, decide_eq_true_eq] at hB
      obtain ⟨⟨⟨hr, hf⟩, hiN⟩, hrest⟩ := hB
      have hr' : i ∈ Region.ready md ops listed := by simpa using hr
      simp only [wpPlan, hk0, if_true] at h
      split at h
      · exact h.elim
      · rename_i o ho
        obtain ⟨v, hy, hK⟩ := h
        have hrec := snd_pre L hsel n rest (listed.setIfInBounds i true) hrest (hcl.set hr') hS (a.put o.dst v) w w0 hE hK
        exact wpAnyS_first L (S := Ext w0) (S1 := fun _ => True) ho (Region.noSelect_spec hsel) hiN (fun _ _ _ _ _ => trivial) (rest.length + n) listed a w hcl (Region.free_spec ho hf) hr' hy (.inr hE) hrec
    by_cases hk1 : k = 1
    · subst hk1
      simp only [preB, if_true, Bool.and_eq_true, decide_eq_true_eq, Nat.one_ne_zero, if_false] at hB
      obtain ⟨⟨⟨⟨hr, hf⟩, hiN⟩, hanc⟩, hrest⟩ := hB
      have hr' : i ∈ Region.ready md ops listed := by simpa using hr
      simp only [wpPlan, if_true, Nat.one_ne_zero, if_false] at h
      split at h
      · exact h.elim
      · rename_i o ho
        obtain ⟨v, hy, hK⟩ := h
        have hrec := snd_pre L hsel n rest (listed.setIfInBounds i true) hrest (hcl.set hr') hS (a.put o.dst v) w w (Ext.refl w) hK
        have h1 := wpAnyS_first L (S := Ext w) (S1 := Ext w) ho (Region.noSelect_spec hsel) hiN (fun l w' hc hu ht => by
          rcases ht with ⟨t, ht, hl⟩ | h
          · exfalso
            have hts : t < ops.size ∨ ¬ t < ops.size := Decidable.em _
            rcases hts with hts | hts
            · have := List.all_eq_true.1 hanc t (List.mem_range.2 hts)
              simp only [Bool.or_eq_true, decide_eq_true_eq] at this
              have := anc_listed hc _ _ _ hl (this.resolve_left (by omega))
              rw [unlisted_false hu] at this
              cases this
            · rw [show l.getD t false = false by simp [Array.getElem?_eq_none (show l.size ≤ t by rw [hc.1]; omega)]] at hl
              cases hl
          · exact h) (rest.length + n) listed a w hcl (Region.free_spec ho hf) hr' hy (.inr (Ext.refl w)) hrec
        exact wpAnyS_weak L (fun w' hw' => hE.trans hw') _ _ _ _ h1
    · simp only [preB, hk0, hk1, if_false, Bool.and_eq_true, decide_eq_true_eq] at hB
      obtain ⟨⟨hr, hiN⟩, hrest⟩ := hB
      have hr : Region.ready md ops listed = [i] := by simpa using hr
      have hr' : i ∈ Region.ready md ops listed := by rw [hr]; simp
      refine ⟨fun h0 => (by rw [h0] at hr; cases hr), fun j hj => ?_⟩
      rw [hr] at hj
      obtain rfl : j = i := by simpa using hj
      simp only [wpPlan, hk0, hk1, if_false] at h
      refine L.mono (fun a' w' h' => ?_) h
      have hE' := hE.trans (h'.1.resolve_left (by omega))
      exact ⟨.inr hE', snd_pre L hsel n rest _ hrest (hcl.set hr') hS a' w' w0 hE' h'.2⟩
theorem snd_pre' (L : StepLaws P ops Q st) (hsel : Region.noSelect ops = true) (n : Nat) {C : Act → World → Prop} (pre : List (Nat × Nat)) (listed : Array Bool) (hB : (preB md ops N pre listed && closedB md ops listed) = true)
    (h : Snd md ops Q st N (listAll pre listed) n C) : Snd md ops Q st N listed (pre.length + n) (wpPlan P ops C st N pre) := by
  simp only [Bool.and_eq_true] at hB
  exact snd_pre L hsel n pre listed hB.1 (closedB_spec hB.2) h
end
section
variable {P : Program} {ops : Array Oper} {N : Nat}
/-- **A region that draws, along a tree.** -/
theorem wp_region_tree {id : Nat} {Q : Exit → Act → World → Prop} {a : Act} {w : World} {l : List Oper} (C : Act → World → Prop) (N n : Nat) (hm : P.follows .mixedOrders = true) (hn : (n == l.length) = true) (hQ : ∀ c a d v w, Q (.panic c) (Act.put a d v) w → Q (.panic c) a w)
    (hS : Snd .any l.toArray (Q .normal) (fun i K a w => wpOp P l.toArray Q i K a w) N (Array.replicate l.length false) n C) (h : C a w.drew) : (Code.region id l.toArray true).wp P Q a w := by
  refine wp_region_any hm ?_
  have hn : n = l.length := by simpa using hn
  subst hn
  have := hS a w.drew w.drew (Ext.refl _) h
  have := wpAny_of_S _ _ _ _ this
  simpa using this
theorem forkC_mk {Q : Exit → Act → World → Prop} {i j : Nat} {Ci Cj : Act → World → Prop} {oi oj : Oper} {a : Act} {w : World} (hoi : ops[i]? = some oi) (hoj : ops[j]? = some oj) (hgi : oi.guard = none) (hgj : oj.guard = none)
    (h1 : ∀ K : Act → World → Prop, (∀ a' w', (Ext w w' ∧ Ci a' w') → K a' w') → oi.wp P a w K Q)
    (h2 : ∀ K : Act → World → Prop, (∀ a' w', (Ext w w' ∧ Cj a' w') → K a' w') → oj.wp P a w K Q) :
    forkC (fun i K a w => wpOp P ops Q i K a w) i Ci j Cj a w := by
  constructor
  · simp only [wpOp, hoi, Region.wanted, hgi, if_true]
    exact .inl (h1 _ (fun _ _ h => h))
  · simp only [wpOp, hoj, Region.wanted, hgj, if_true]
    exact .inl (h2 _ (fun _ _ h => h))
end
end Go.Proofs.YtmfligfcejhjaaaDoor
