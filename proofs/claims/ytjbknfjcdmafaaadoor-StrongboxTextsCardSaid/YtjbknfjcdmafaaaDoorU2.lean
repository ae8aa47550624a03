/- Regions that draw their order: one walk along a plan serves every order. The plan takes first what yields its value in every later world (its cells as they are now); what is left comes up alone. | Small functions of the references and the laws, walked. | text.base, walked. | slices.Clone, Reverse, text.turned. -/
import Derived.OrdersHeld
import Derived.OrdersIn
import Derived.Below
import Derived.Deep.Draws
import Derived.Test.YtjbknfjcdmafaaaDoorRows
import Derived.WalkKit
import Derived.WalkSpells
import Derived.WalkLawsBesides
import Derived.Lib.Hide
import Derived.BigQuiet
import Derived.Deep.QuietTactic
import Derived.Test.YtjbknfjcdmafaaaDoorU1
import Derived.Shelf.RegionOpen
import Derived.Sort.QuietIn
import Derived.Stop.RegionWithIn
import Derived.StillTailTactics
import Derived.Deep.RegionHeld3
import Derived.Deep.RegionWith
import Derived.Lib.LazyBuf

/-! Regions that draw their order: one walk along a plan serves every order. The plan takes first what yields its value in every later world (its cells as they are now); what is left comes up alone. -/
namespace Go.Proofs.YtjbknfjcdmafaaaDoor
open Go Go.RowKit

/-- w with blocks behind its own, and some other count of draws. -/
def _root_.Go.World.ext (w : World) (objs : Array Obj) (d : Nat) : World := { w with heap := w.heap ++ objs, drawn := d }
/-- Whatever world in which the blocks of w are as they were. -/
def Ext (w w' : World) : Prop := ∃ objs d, w' = w.ext objs d
theorem ext_of_below {w w' : World} (h : Below w.heap.size w w') : Ext w w' := by
  refine ⟨w'.heap.extract w.heap.size w'.heap.size, w'.drawn, ?_⟩
  have hh : w'.heap = w.heap ++ w'.heap.extract w.heap.size w'.heap.size := by
    apply Array.ext_getElem?
    intro i
    by_cases hi : i < w.heap.size
    · rw [h.block i hi, Array.getElem?_append_left hi]
    · rw [Array.getElem?_append_right (by omega)]
      rw [Array.getElem?_extract]
      by_cases h2 : i < w'.heap.size
      · rw [if_pos (by omega)]; congr 1; omega
      · rw [if_neg (by omega), Array.getElem?_eq_none (by omega)]
  cases w' with | mk hp tp dr os ou =>
  cases w with | mk hp2 tp2 dr2 os2 ou2 =>
  obtain ⟨rfl, rfl, rfl⟩ : os = os2 ∧ tp = tp2 ∧ ou = ou2 := ⟨h.os, h.tape, h.output⟩
  simp only [World.ext] at hh ⊢
  rw [← hh]
theorem Ext.below {w w' : World} (h : Ext w w') : Below w.heap.size w w' := by
  obtain ⟨objs, d, rfl⟩ := h
  exact ⟨rfl, rfl, rfl, by simp [World.ext], fun k hk => by simp [World.ext, Array.getElem?_append_left hk]⟩
theorem Ext.refl (w : World) : Ext w w := ext_of_below (Below.refl _ _)
theorem Ext.trans {a b c : World} (h : Ext a b) (k : Ext b c) : Ext a c := ext_of_below (h.below.trans (k.below.mono h.below.size))
theorem ext_alloc (w : World) (o : Obj) : Ext w (w.alloc o) := ext_of_below ((Below.refl _ w).alloc (Nat.le_refl _) o)
theorem ext_alloc_drew (w : World) (o : Obj) : Ext w.drew (w.alloc o).drew := ext_of_below ⟨rfl, rfl, rfl, by simp, fun k hk => Below.heap_alloc w o k hk⟩
theorem Ext.drew {a b : World} (h : Ext a b) : Ext a b.drew := ext_of_below h.below.drew
theorem ext_of_below_drew {w w' : World} (h : Below w.heap.size w w') : Ext w.drew w' := ext_of_below ⟨h.os, h.tape, h.output, h.size, h.block⟩
@[go_sem] theorem cell?_ext (w : World) (objs : Array Obj) (d : Nat) (a : Addr) (h : (w.cell? a).isSome = true) : (w.ext objs d).cell? a = w.cell? a := by
  obtain ⟨v, hv⟩ := Option.isSome_iff_exists.1 h
  exact (Ext.below ⟨objs, d, rfl⟩).cell (World.block_lt_of_cell? w a hv)
@[go_sem] theorem frozen?_ext (w : World) (objs : Array Obj) (d : Nat) (a : Addr) (h : (w.cell? a).isSome = true) : (w.ext objs d).frozen? a = w.frozen? a := by
  obtain ⟨v, hv⟩ := Option.isSome_iff_exists.1 h
  exact (Ext.below ⟨objs, d, rfl⟩).frozen (World.block_lt_of_cell? w a hv)

section
variable {P : Program} {ops : Array Oper} {md : Region.Mode}

/-- What is asked of one operation's coming up: three laws that the plain walk and the fenced one both have. -/
structure StepLaws (P : Program) (ops : Array Oper) (Q : Act → World → Prop) (st : Nat → (Act → World → Prop) → Act → World → Prop) : Prop where
  mono : ∀ {i : Nat} {K K' : Act → World → Prop} {a : Act} {w : World}, (∀ a w, K a w → K' a w) → st i K a w → st i K' a w
  yield : ∀ {i : Nat} {o : Oper} {v : Value} {a : Act} {w : World} {K : Act → World → Prop} {S : World → Prop}, ops[i]? = some o → YieldsIf P ops S o v a → S w → K (a.put o.dst v) w → st i K a w
  put : ∀ {j : Nat} {oi oj : Oper} {v : Value} {a : Act} {w : World} {K : Act → World → Prop} {S : World → Prop}, ops[j]? = some oj → oi.apart ops oj = true → (∀ cs b, oi.op ≠ .select cs b) → (∀ cs b, oj.op ≠ .select cs b) →
    YieldsIf P ops S oi v a → st j K (a.put oi.dst v) w → st j (fun a' w' => YieldsIf P ops S oi v a' ∧ K (a'.put oi.dst v) w') a w

variable {Q : Act → World → Prop} {st : Nat → (Act → World → Prop) → Act → World → Prop} {N : Nat}

/-- Has the tail begun? -/
def tb (N : Nat) (listed : Array Bool) : Prop := ∃ t, N ≤ t ∧ listed.getD t false = true
theorem tb_set {N i : Nat} {listed : Array Bool} (hi : i < N) : tb N (listed.setIfInBounds i true) ↔ tb N listed := by
  unfold tb
  constructor
  · rintro ⟨t, ht, h⟩; exact ⟨t, ht, by rwa [getD_set_ne false (by omega)] at h⟩
  · rintro ⟨t, ht, h⟩; exact ⟨t, ht, getD_set_true h⟩
theorem tb_mono {N i : Nat} {listed : Array Bool} (h : tb N listed) : tb N (listed.setIfInBounds i true) := by
  obtain ⟨t, ht, h⟩ := h; exact ⟨t, ht, getD_set_true h⟩
def wpAnyS (md : Region.Mode) (ops : Array Oper) (Q : Act → World → Prop) (st : Nat → (Act → World → Prop) → Act → World → Prop) (N : Nat) (S : World → Prop) : Nat → Array Bool → Act → World → Prop
  | 0, listed, a, w => Region.ready md ops listed = [] ∧ Q a w
  | fuel + 1, listed, a, w => (Region.ready md ops listed = [] → Q a w) ∧
    ∀ i ∈ Region.ready md ops listed, st i (fun a' w' => (tb N (listed.setIfInBounds i true) ∨ S w') ∧ wpAnyS md ops Q st N S fuel (listed.setIfInBounds i true) a' w') a w

/-- Whatever has come up, all that it waits for has. -/
def Closed (md : Region.Mode) (ops : Array Oper) (listed : Array Bool) : Prop :=
  listed.size = ops.size ∧ ∀ j oj, ops[j]? = some oj → listed.getD j false = true → ∀ e ∈ oj.after, Region.binds md e = true → listed.getD e.on false = true
def anc (md : Region.Mode) (ops : Array Oper) : Nat → Nat → Nat → Bool
  | 0, _, _ => false
  | f + 1, j, i => match ops[j]? with
    | some oj => oj.after.any fun e => Region.binds md e && (e.on == i || anc md ops f e.on i)
    | none => false
theorem anc_listed {listed : Array Bool} (hc : Closed md ops listed) : ∀ (f j i : Nat), listed.getD j false = true → anc md ops f j i = true → listed.getD i false = true := by
  intro f
  induction f with
  | zero => intro j i _ h; cases h
  | succ f ih =>
    intro j i hj h
    unfold anc at h
    split at h
    · rename_i oj ho
      obtain ⟨e, he, hb⟩ := Array.any_eq_true'.1 h
      simp only [Bool.and_eq_true, Bool.or_eq_true, beq_iff_eq] at hb
      have hl := hc.2 j oj ho hj e he hb.1
      rcases hb.2 with rfl | h2
      · exact hl
      · exact ih e.on i hl h2
    · cases h
theorem anc_ready {listed : Array Bool} (hc : Closed md ops listed) {f j i : Nat} (hj : j ∈ Region.ready md ops listed) (h : anc md ops f j i = true) : listed.getD i false = true := by
  obtain ⟨_, o, ho, hall⟩ := mem_ready.1 hj
  cases f with
  | zero => cases h
  | succ f =>
    unfold anc at h
    simp only [ho] at h
    obtain ⟨e, he, hb⟩ := Array.any_eq_true'.1 h
    simp only [Bool.and_eq_true, Bool.or_eq_true, beq_iff_eq] at hb
    have hl := hall e he hb.1
    rcases hb.2 with rfl | h2
    · exact hl
    · exact anc_listed hc f e.on i hl h2
theorem Closed.set {listed : Array Bool} (hc : Closed md ops listed) {i : Nat} (hi : i ∈ Region.ready md ops listed) : Closed md ops (listed.setIfInBounds i true) := by
  obtain ⟨_, o, ho, hall⟩ := mem_ready.1 hi
  refine ⟨by simpa using hc.1, ?_⟩
  intro j oj hj hl e he hb
  by_cases hij : i = j
  · subst hij
    have : oj = o := Option.some.inj (hj.symm.trans ho)
    subst this
    exact getD_set_true (hall e he hb)
  · rw [getD_set_ne false hij] at hl
    exact getD_set_true (hc.2 j oj hj hl e he hb)
theorem unlisted_false {listed : Array Bool} {i : Nat} (h : listed.getD i true = false) : listed.getD i false = false := by
  rcases Nat.lt_or_ge i listed.size with h' | h'
  · simp [h'] at h ⊢; exact h
  · simp [Array.getElem?_eq_none h'] at h

theorem wpAnyS_weak (L : StepLaws P ops Q st) {S S' : World → Prop} (hS : ∀ w, S' w → S w) : ∀ (fuel : Nat) (listed : Array Bool) (a : Act) (w : World), wpAnyS md ops Q st N S' fuel listed a w → wpAnyS md ops Q st N S fuel listed a w
  | 0, _, _, _, h => h
  | fuel + 1, _, _, _, h => ⟨h.1, fun i hi => L.mono (fun a' w' h' => ⟨h'.1.imp id (hS _), wpAnyS_weak L hS fuel _ a' w' h'.2⟩) (h.2 i hi)⟩

/-- What keeps S at hand while i has not come up: the tail waits for i, or i asks nothing of the world. -/
theorem wpAnyS_first (L : StepLaws P ops Q st) {S S1 : World → Prop} {i : Nat} {oi : Oper} {v : Value} (hi : ops[i]? = some oi) (hsel : ∀ (j : Nat) (o : Oper) cs b, ops[j]? = some o → o.op ≠ .select cs b) (hiN : i < N)
    (hS1 : ∀ listed w, Closed md ops listed → listed.getD i true = false → tb N listed ∨ S w → S1 w) :
    ∀ (fuel : Nat) (listed : Array Bool) (a : Act) (w : World), Closed md ops listed →
      (∀ j oj, ops[j]? = some oj → j ≠ i → listed.getD j true = false → (∀ e ∈ oj.after, Region.binds md e = true → e.on ≠ i) → oi.apart ops oj = true) →
      i ∈ Region.ready md ops listed → YieldsIf P ops S1 oi v a → (tb N listed ∨ S w) →
      wpAnyS md ops Q st N S fuel (listed.setIfInBounds i true) (a.put oi.dst v) w → wpAnyS md ops Q st N S (fuel + 1) listed a w := by
  intro fuel
  induction fuel with
  | zero =>
    intro listed a w hcl hfree hr hy hS H
    refine ⟨fun h => (by rw [h] at hr; cases hr), fun j hj => ?_⟩
    by_cases hji : j = i
    · subst hji; exact L.yield hi hy (hS1 listed w hcl (mem_ready.1 hr).1 hS) ⟨hS.imp tb_mono id, H⟩
    · have := ready_mono hj hji
      rw [H.1] at this
      cases this
  | succ fuel ih =>
    intro listed a w hcl hfree hr hy hS H
    refine ⟨fun h => (by rw [h] at hr; cases hr), fun j hj => ?_⟩
    by_cases hji : j = i
    · subst hji; exact L.yield hi hy (hS1 listed w hcl (mem_ready.1 hr).1 hS) ⟨hS.imp tb_mono id, H⟩
    · have h1 := H.2 j (ready_mono hj hji)
      obtain ⟨hjun, oj, hoj, hall⟩ := mem_ready.1 hj
      have hnot : ∀ e ∈ oj.after, Region.binds md e = true → e.on ≠ i := fun e he hb heq => by
        have h1 := hall e he hb
        have h0 := (mem_ready.1 hr).1
        rw [heq] at h1
        rcases Nat.lt_or_ge i listed.size with h' | h'
        · simp [h'] at h0 h1; rw [h0] at h1; cases h1
        · simp [Array.getElem?_eq_none h'] at h1
      have h2 := L.put hoj (hfree j oj hoj hji hjun hnot) (fun cs b => hsel i oi cs b hi) (fun cs b => hsel j oj cs b hoj) hy h1
      have hfree' : ∀ k ok, ops[k]? = some ok → k ≠ i → (listed.setIfInBounds j true).getD k true = false →
          (∀ e ∈ ok.after, Region.binds md e = true → e.on ≠ i) → oi.apart ops ok = true := fun k ok hk hki hun hno => by
        refine hfree k ok hk hki ?_ hno
        by_cases hjk : j = k
        · subst hjk; exact hjun
        · rw [getD_set_ne true hjk] at hun; exact hun
      refine L.mono (fun a' w' h3 => ?_) h2
      have hS' : tb N (listed.setIfInBounds j true) ∨ S w' := by
        have := h3.2.1
        rw [Array.setIfInBounds_comm _ _ (Ne.symm hji), tb_set hiN] at this
        exact this
      refine ⟨hS', ih (listed.setIfInBounds j true) a' w' (hcl.set hj) hfree' (ready_mono hr (Ne.symm hji)) h3.1 hS' ?_⟩
      rw [Array.setIfInBounds_comm _ _ hji]
      exact h3.2.2

/-- The plan is one. 0: it asks nothing of the world; 1: it reads cells that lie ahead of the region, and the tail waits for it; 2: it comes up alone. -/
def planB (md : Region.Mode) (ops : Array Oper) (N : Nat) : List (Nat × Nat) → Array Bool → Bool
  | [], listed => Region.ready md ops listed == []
  | (i, k) :: rest, listed =>
    (if k = 0 then (Region.ready md ops listed).contains i && Region.free md ops listed i && decide (i < N)
     else if k = 1 then (Region.ready md ops listed).contains i && Region.free md ops listed i && decide (i < N) && ((List.range ops.size).all fun j => decide (j < N) || anc md ops ops.size j i)
     else (Region.ready md ops listed == [i]) && (decide (i < N) || rest.all fun p => decide (2 ≤ p.2) && decide (N ≤ p.1))) && planB md ops N rest (listed.setIfInBounds i true)

def wpPlan (P : Program) (ops : Array Oper) (Q : Act → World → Prop) (st : Nat → (Act → World → Prop) → Act → World → Prop) (N : Nat) : List (Nat × Nat) → Act → World → Prop
  | [], a, w => Q a w
  | (i, k) :: rest, a, w =>
    if k = 0 then (match ops[i]? with
      | none => False
      | some o => ∃ v, YieldsIf P ops (fun _ => True) o v a ∧ wpPlan P ops Q st N rest (a.put o.dst v) w)
    else if k = 1 then (match ops[i]? with
      | none => False
      | some o => ∃ v, YieldsIf P ops (Ext w) o v a ∧ wpPlan P ops Q st N rest (a.put o.dst v) w)
    else st i (fun a' w' => (N ≤ i ∨ Ext w w') ∧ wpPlan P ops Q st N rest a' w') a w

theorem tail_sound (L : StepLaws P ops Q st) {S : World → Prop} : ∀ (plan : List (Nat × Nat)) (listed : Array Bool) (a : Act) (w : World) (extra : Nat),
    planB md ops N plan listed = true → (plan.all fun p => decide (2 ≤ p.2) && decide (N ≤ p.1)) = true → listed.size = ops.size → wpPlan P ops Q st N plan a w → wpAnyS md ops Q st N S (plan.length + extra) listed a w
  | [], listed, a, w, extra, hB, _, _, h => by
    have hr : Region.ready md ops listed = [] := by simpa [planB] using hB
    cases extra with
    | zero => exact ⟨hr, h⟩
    | succ e => exact ⟨fun _ => h, by rw [hr]; simp⟩
  | (i, k) :: rest, listed, a, w, extra, hB, hA, hsz, h => by
    simp only [List.all_cons, Bool.and_eq_true, decide_eq_true_eq] at hA
    have hk0 : ¬ k = 0 := by omega
    have hk1 : ¬ k = 1 := by omega
    simp only [planB, hk0, hk1, if_false, Bool.and_eq_true] at hB
    obtain ⟨⟨hr, _⟩, hrest⟩ := hB
    have hr : Region.ready md ops listed = [i] := by simpa using hr
    rw [List.length_cons, show rest.length + 1 + extra = rest.length + extra + 1 by omega]
    refine ⟨fun h0 => (by rw [h0] at hr; cases hr), fun j hj => ?_⟩
    rw [hr] at hj
    obtain rfl : j = i := by simpa using hj
    have hlt : j < listed.size := by
      have hj' : j ∈ Region.ready md ops listed := by rw [hr]; simp
      obtain ⟨_, o, ho, _⟩ := mem_ready.1 hj'
      rw [hsz]; exact (Array.getElem?_eq_some_iff.1 ho).1
    simp only [wpPlan, hk0, hk1, if_false] at h
    exact L.mono (fun a' w' h' => ⟨.inl ⟨j, hA.1.2, by simp [hlt]⟩, tail_sound L rest _ a' w' extra hrest (by simpa using hA.2) (by simpa using hsz) h'.2⟩) h

theorem plan_sound (L : StepLaws P ops Q st) (hsel : Region.noSelect ops = true) : ∀ (plan : List (Nat × Nat)) (listed : Array Bool) (a : Act) (w w0 : World) (extra : Nat),
    planB md ops N plan listed = true → Closed md ops listed → listed.size = ops.size → Ext w0 w → wpPlan P ops Q st N plan a w → wpAnyS md ops Q st N (Ext w0) (plan.length + extra) listed a w
  | [], listed, a, w, w0, extra, hB, _, _, _, h => by
    have hr : Region.ready md ops listed = [] := by simpa [planB] using hB
    cases extra with
    | zero => exact ⟨hr, h⟩
    | succ e => exact ⟨fun _ => h, by rw [hr]; simp⟩
  | (i, k) :: rest, listed, a, w, w0, extra, hB, hcl, hsz, hE, h => by
    have hB0 := hB
    by_cases hk0 : k = 0
    · simp only [planB, hk0, if_true, Bool.and_eq_true, decide_eq_true_eq] at hB
      obtain ⟨⟨⟨hr, hf⟩, hiN⟩, hrest⟩ := hB
      have hr' : i ∈ Region.ready md ops listed := by simpa using hr
      simp only [wpPlan, hk0, if_true] at h
      split at h
      · exact h.elim
      · rename_i o ho
        obtain ⟨v, hy, hK⟩ := h
        have hrec := plan_sound L hsel rest (listed.setIfInBounds i true) (a.put o.dst v) w w0 extra hrest (hcl.set hr') (by simpa using hsz) hE hK
        have h1 := wpAnyS_first L (S := Ext w0) (S1 := fun _ => True) ho (Region.noSelect_spec hsel) hiN (fun _ _ _ _ _ => trivial) (rest.length + extra) listed a w hcl (Region.free_spec ho hf) hr' hy (.inr hE) hrec
        rw [List.length_cons, show rest.length + 1 + extra = rest.length + extra + 1 by omega]
        exact h1
    by_cases hk1 : k = 1
    · subst hk1
      simp only [planB, if_true, Bool.and_eq_true, decide_eq_true_eq, Nat.one_ne_zero, if_false] at hB
      obtain ⟨⟨⟨⟨hr, hf⟩, hiN⟩, hanc⟩, hrest⟩ := hB
      have hr' : i ∈ Region.ready md ops listed := by simpa using hr
      simp only [wpPlan, if_true, Nat.one_ne_zero, if_false] at h
      split at h
      · exact h.elim
      · rename_i o ho
        obtain ⟨v, hy, hK⟩ := h
        have hrec := plan_sound L hsel rest (listed.setIfInBounds i true) (a.put o.dst v) w w extra hrest (hcl.set hr') (by simpa using hsz) (Ext.refl w) hK
        have h1 := wpAnyS_first L (S := Ext w) (S1 := Ext w) ho (Region.noSelect_spec hsel) hiN (fun l w' hc hu ht => by
          rcases ht with ⟨t, ht, hl⟩ | h
          · exfalso
            have hts : t < ops.size ∨ ¬ t < ops.size := Decidable.em _
            rcases hts with hts | hts
            · have := List.all_eq_true.1 hanc t (List.mem_range.2 hts)
              simp only [Bool.or_eq_true, decide_eq_true_eq] at this
              have := anc_listed hc _ _ _ hl (this.resolve_left (by omega))
              rw [unlisted_false hu] at this
              cases this
            · -- a listed place beyond the operations: closed lists bear none that matter
              rw [show l.getD t false = false by simp [Array.getElem?_eq_none (show l.size ≤ t by rw [hc.1]; omega)]] at hl
              cases hl
          · exact h) (rest.length + extra) listed a w hcl (Region.free_spec ho hf) hr' hy (.inr (Ext.refl w)) hrec
        rw [List.length_cons, show rest.length + 1 + extra = rest.length + extra + 1 by omega]
        exact wpAnyS_weak L (fun w' hw' => hE.trans hw') _ _ _ _ h1
    · simp only [planB, hk0, hk1, if_false, Bool.and_eq_true] at hB
      obtain ⟨⟨hr, ht⟩, hrest⟩ := hB
      by_cases hiN : N ≤ i
      · refine tail_sound L ((i, k) :: rest) listed a w extra hB0 ?_ hsz h
        simp only [Bool.or_eq_true, decide_eq_true_eq] at ht
        have := ht.resolve_left (by omega)
        simp only [List.all_cons, this, hiN, decide_true, Bool.and_true, decide_eq_true_eq]
        omega
      have hr : Region.ready md ops listed = [i] := by simpa using hr
      have hr' : i ∈ Region.ready md ops listed := by rw [hr]; simp
      rw [List.length_cons, show rest.length + 1 + extra = rest.length + extra + 1 by omega]
      refine ⟨fun h0 => (by rw [h0] at hr; cases hr), fun j hj => ?_⟩
      rw [hr] at hj
      obtain rfl : j = i := by simpa using hj
      simp only [wpPlan, hk0, hk1, if_false] at h
      refine L.mono (fun a' w' h' => ?_) h
      have hE' := hE.trans (h'.1.resolve_left hiN)
      exact ⟨.inr hE', plan_sound L hsel rest _ a' w' w0 extra hrest (hcl.set hr') (by simpa using hsz) hE' h'.2⟩

/-! ### The steps of a walk -/
/-- One value, in every world that has the cells of w. -/
def stillUpon (w : World) (v : Value) : Result Next → Prop
  | .ok (.value u) w' => w' = w ∧ u = v
  | _ => False
def stillOp (P : Program) (o : Oper) (a : Act) (w : World) (K : Act → Prop) : Prop := ∃ v, (∀ objs d, stillUpon (w.ext objs d) v ((execOp a.eval o).run P (w.ext objs d))) ∧ K (a.put o.dst v)
def pureOp (P : Program) (o : Oper) (a : Act) (K : Act → Prop) : Prop := ∃ v, (∀ W, stillUpon W v ((execOp a.eval o).run P W)) ∧ K (a.put o.dst v)
theorem wpPlan_pure {i : Nat} {rest : List (Nat × Nat)} {o : Oper} {a : Act} {w : World} (ho : ops[i]? = some o)
    (h : ∀ K : Act → Prop, (∀ a, wpPlan P ops Q st N rest a w → K a) → if Region.wanted o (yielded ops a.tmps) then pureOp P o a K else K (a.put o.dst undef)) :
    wpPlan P ops Q st N ((i, 0) :: rest) a w := by
  have h := h _ (fun _ h => h)
  simp only [wpPlan, if_true, ho]
  split at h
  · rename_i hw
    obtain ⟨v, hv, hK⟩ := h
    refine ⟨v, .inl ⟨hw, fun w' _ => ?_⟩, hK⟩
    have := hv w'
    generalize (execOp a.eval o).run P w' = r at *
    cases r with
    | ok n w' => cases n <;> simp only [stillUpon] at this
                 obtain ⟨rfl, rfl⟩ := this; rfl
    | halt x w' => simp only [stillUpon] at this
  · rename_i hw
    exact ⟨undef, .inr ⟨by simpa using hw, rfl⟩, h⟩
theorem wpPlan_quiet {i : Nat} {rest : List (Nat × Nat)} {o : Oper} {a : Act} {w : World} (ho : ops[i]? = some o)
    (h : ∀ K : Act → Prop, (∀ a, wpPlan P ops Q st N rest a w → K a) → if Region.wanted o (yielded ops a.tmps) then stillOp P o a w K else K (a.put o.dst undef)) :
    wpPlan P ops Q st N ((i, 1) :: rest) a w := by
  have h := h _ (fun _ h => h)
  simp only [wpPlan, if_true, ho, Nat.one_ne_zero, if_false]
  split at h
  · rename_i hw
    obtain ⟨v, hv, hK⟩ := h
    refine ⟨v, .inl ⟨hw, fun w' hw' => ?_⟩, hK⟩
    obtain ⟨objs, d, rfl⟩ := hw'
    have := hv objs d
    generalize (execOp a.eval o).run P (w.ext objs d) = r at *
    cases r with
    | ok n w' => cases n <;> simp only [stillUpon] at this
                 obtain ⟨rfl, rfl⟩ := this; rfl
    | halt x w' => simp only [stillUpon] at this
  · rename_i hw
    exact ⟨undef, .inr ⟨by simpa using hw, rfl⟩, h⟩
theorem wpPlan_nil {a : Act} {w : World} (h : Q a w) : wpPlan P ops Q st N [] a w := h
end
attribute [go_sem] stillOp stillUpon pureOp

section
variable {P : Program} {ops : Array Oper} {N : Nat}
/-! ### The plain walk -/
theorem plainLaws (Q : Exit → Act → World → Prop) (hQ : ∀ c a d v w, Q (.panic c) (Act.put a d v) w → Q (.panic c) a w) : StepLaws P ops (Q .normal) (fun i K a w => wpOp P ops Q i K a w) :=
  ⟨fun h hh => wpOp_mono h hh, fun ho hy hS hK => hy.wpOp ho hS hK, fun hj hap hsi hsj hy h => wpOp_putIf hj hap hsi hsj (fun c a w h => hQ c _ _ _ w h) hy h⟩
theorem wpAny_of_S {Q : Exit → Act → World → Prop} {S : World → Prop} : ∀ (fuel : Nat) (listed : Array Bool) (a : Act) (w : World), wpAnyS .any ops (Q .normal) (fun i K a w => wpOp P ops Q i K a w) N S fuel listed a w → wpAny P .any ops Q fuel listed a w
  | 0, _, _, _, h => h
  | fuel + 1, _, _, _, h => ⟨h.1, fun i hi => wpOp_mono (fun a' w' h' => wpAny_of_S fuel _ a' w' h'.2) (h.2 i hi)⟩
/-- **A region that draws, along a plan.** -/
theorem wp_region_plan {id : Nat} {Q : Exit → Act → World → Prop} {a : Act} {w : World} {l : List Oper} (plan : List (Nat × Nat)) (N : Nat) (hm : P.follows .mixedOrders = true)
    (hB : (Region.noSelect l.toArray && decide (plan.length = l.length) && planB .any l.toArray N plan (Array.replicate l.length false)) = true) (hQ : ∀ c a d v w, Q (.panic c) (Act.put a d v) w → Q (.panic c) a w)
    (h : wpPlan P l.toArray (Q .normal) (fun i K a w => wpOp P l.toArray Q i K a w) N plan a w.drew) : (Code.region id l.toArray true).wp P Q a w := by
  simp only [Bool.and_eq_true, decide_eq_true_eq] at hB
  refine wp_region_any hm ?_
  have := plan_sound (plainLaws Q hQ) hB.1.1 plan (Array.replicate l.length false) a w.drew w.drew 0 hB.2 ⟨by simp, fun j oj hj hl => by
    rcases Nat.lt_or_ge j l.length with h | h
    · simp [h] at hl
    · simp [h] at hl⟩ (by simp) (Ext.refl _) h
  rw [Nat.add_zero, hB.1.2] at this
  have := wpAny_of_S _ _ _ _ this
  simpa using this
theorem wpPlan_loud {i : Nat} {rest : List (Nat × Nat)} {o : Oper} {a : Act} {w : World} {Q : Exit → Act → World → Prop} (ho : ops[i]? = some o) (hg : o.guard = none)
    (h : ∀ K : Act → World → Prop, (∀ a' w', ((N ≤ i ∨ Ext w w') ∧ wpPlan P ops (Q .normal) (fun i K a w => wpOp P ops Q i K a w) N rest a' w') → K a' w') → o.wp P a w K Q) :
    wpPlan P ops (Q .normal) (fun i K a w => wpOp P ops Q i K a w) N ((i, 2) :: rest) a w := by
  simp only [wpPlan, show ¬ (2 = 0) by decide, show ¬ (2 = 1) by decide, if_false, wpOp, ho, Region.wanted, hg, if_true]
  exact .inl (h _ (fun _ _ h => h))

/-! ### The fenced walk, in a round or not, where the fence lets every function by -/
def Region.noDefer (ops : Array Oper) : Bool := ops.all fun o => match o.op with | .defer _ => false | _ => true
theorem noDefer_spec (h : Region.noDefer ops = true) (j : Nat) (o : Oper) (ho : ops[j]? = some o) : ∀ c, o.op ≠ .defer c := by
  intro c heq
  have := Array.all_eq_true_iff_forall_mem.1 h o (Array.mem_of_getElem? ho)
  simp [heq] at this
variable {F : Fence} {n : Nat}
theorem YieldsIf.wpOpIn {S : World → Prop} {Q : Exit → Act → World → Prop} (hF : ∀ k, F.fn k) (hnd : Region.noDefer ops = true) {i : Nat} {o : Oper} {v : Value} {a : Act} (hi : ops[i]? = some o) (hy : YieldsIf P ops S o v a)
    {K : Act → World → Prop} {w : World} (hS : S w) (h : K (a.put o.dst v) w) : wpOpIn F n P ops Q i K a w := by
  unfold Go.wpOpIn
  simp only [hi]
  rcases hy with ⟨hw, hv⟩ | ⟨hw, rfl⟩
  · simp only [hw, if_true, Oper.wpIn, Oper.semAt_eq _ _ _ (noDefer_spec hnd i o hi), hv w hS, Oper.uponIn]; exact ⟨fun f _ => hF f, h⟩
  · simp only [hw, Bool.false_eq_true, if_false]; exact ⟨fun f _ => hF f, h⟩
theorem wpOpIn_putIf {S : World → Prop} {Q : Exit → Act → World → Prop} (hF : ∀ k, F.fn k) (hnd : Region.noDefer ops = true) {j : Nat} {oi oj : Oper} {v : Value} (hj : ops[j]? = some oj) (hap : oi.apart ops oj = true)
    (hsi : ∀ cs b, oi.op ≠ .select cs b) (hsj : ∀ cs b, oj.op ≠ .select cs b)
    (hQ : ∀ c a d v w, Q (.panic c) (Act.put a d v) w → Q (.panic c) a w) {K : Act → World → Prop} {a : Act} {w : World}
    (hy : YieldsIf P ops S oi v a) (h : wpOpIn F n P ops Q j K (a.put oi.dst v) w) :
    wpOpIn F n P ops Q j (fun a' w' => YieldsIf P ops S oi v a' ∧ K (a'.put oi.dst v) w') a w := by
  obtain ⟨h1, h2, h3⟩ := Oper.apart_spec hap
  have keep : ∀ (a : Act), YieldsIf P ops S oi v a → ∀ u, YieldsIf P ops S oi v (a.put oj.dst u) := fun a hy u =>
    hy.of_same (execOp_put oi hsi a oj.dst u h3) (wanted_put oi a oj.dst u h3)
  have keepD : ∀ d, YieldsIf P ops S oi v { a with defers := d :: a.defers } := fun d => hy.of_same rfl rfl
  have hnj := noDefer_spec hnd j oj hj
  unfold wpOpIn at *
  simp only [hj] at *
  rw [wanted_put oj a oi.dst v h1] at h
  split
  · rename_i hw
    simp only [hw, if_true] at h
    unfold Oper.wpIn at *
    refine ⟨fun f _ => hF f, ?_⟩
    have h := h.2
    rw [Oper.semAt_eq _ _ _ hnj] at h ⊢
    rw [execOp_put oj hsj a oi.dst v h1] at h
    generalize (execOp a.eval oj).run P w = r at *
    cases r with
    | ok m w' =>
      cases m <;> simp only [Oper.uponIn] at h ⊢
      case value u => exact ⟨keep a hy u, by rw [← Act.put_comm a v u h2]; exact h⟩
      case skip => exact ⟨keep a hy _, by rw [← Act.put_comm a v undef h2]; exact h⟩
      case defer d =>
        refine ⟨keep _ (keepD d) _, ?_⟩
        rw [← Act.put_comm _ v undef h2, ← Act.put_defers]
        exact h
      case enter f args =>
        refine ⟨h.1, CallsIn.mono h.2 fun e w'' he => ?_⟩
        cases e with
        | returned u => exact ⟨keep a hy u, by rw [← Act.put_comm a v u h2]; exact he⟩
        | panicked c => exact hQ _ _ _ _ _ he
        | outgrown => exact he
      case row row args => exact ⟨h.1, RowsIn.mono h.2 fun u w'' he => ⟨keep a hy u, by rw [← Act.put_comm a v u h2]; exact he⟩⟩
      case round =>
        refine ⟨h.1, RoundIn.mono h.2 fun e w'' he => ?_⟩
        cases e with
        | returned u => exact ⟨keep a hy u, by rw [← Act.put_comm a v u h2]; exact he⟩
        | panicked c => exact hQ _ _ _ _ _ he
        | outgrown => exact he
    | halt x w' =>
      cases x <;> simp only [Oper.uponIn] at h ⊢
      case panic u => exact hQ _ _ _ _ _ h
  · rename_i hw
    simp only [hw] at h
    exact ⟨fun f _ => hF f, keep a hy _, by rw [← Act.put_comm a v undef h2]; exact h.2⟩
theorem fencedLaws (Q : Exit → Act → World → Prop) (hF : ∀ k, F.fn k) (hnd : Region.noDefer ops = true) (hQ : ∀ c a d v w, Q (.panic c) (Act.put a d v) w → Q (.panic c) a w) : StepLaws P ops (Q .normal) (fun i K a w => wpOpIn F n P ops Q i K a w) :=
  ⟨fun h hh => wpOpIn_mono h hh, fun ho hy hS hK => YieldsIf.wpOpIn hF hnd ho hy hS hK, fun hj hap hsi hsj hy h => wpOpIn_putIf hF hnd hj hap hsi hsj hQ hy h⟩
theorem wpAnyIn_of_S {Q : Exit → Act → World → Prop} {S : World → Prop} : ∀ (fuel : Nat) (listed : Array Bool) (a : Act) (w : World), wpAnyS .any ops (Q .normal) (fun i K a w => wpOpIn F n P ops Q i K a w) N S fuel listed a w → wpAnyIn F n P .any ops Q fuel listed a w
  | 0, _, _, _, h => h
  | fuel + 1, _, _, _, h => ⟨h.1, fun i hi => wpOpIn_mono (fun a' w' h' => wpAnyIn_of_S fuel _ a' w' h'.2) (h.2 i hi)⟩
theorem wpIn_region_plan {id : Nat} {Q : Exit → Act → World → Prop} {a : Act} {w : World} {l : List Oper} (plan : List (Nat × Nat)) (N : Nat) (hF : ∀ k, F.fn k) (hm : P.follows .mixedOrders = true)
    (hB : (Region.noSelect l.toArray && Region.noDefer l.toArray && decide (plan.length = l.length) && planB .any l.toArray N plan (Array.replicate l.length false)) = true) (hQ : ∀ c a d v w, Q (.panic c) (Act.put a d v) w → Q (.panic c) a w)
    (h : wpPlan P l.toArray (Q .normal) (fun i K a w => wpOpIn F n P l.toArray Q i K a w) N plan a w.drew) : (Code.region id l.toArray true).wpIn F n P Q a w := by
  simp only [Bool.and_eq_true, decide_eq_true_eq] at hB
  refine wpIn_region_any hm ?_
  have := plan_sound (fencedLaws (F := F) (n := n) Q hF hB.1.1.2 hQ) hB.1.1.1 plan (Array.replicate l.length false) a w.drew w.drew 0 hB.2 ⟨by simp, fun j oj hj hl => by
    rcases Nat.lt_or_ge j l.length with h | h
    · simp [h] at hl
    · simp [h] at hl⟩ (by simp) (Ext.refl _) h
  rw [Nat.add_zero, hB.1.2] at this
  have := wpAnyIn_of_S _ _ _ _ this
  simpa using this
theorem wpPlanIn_loud {i : Nat} {rest : List (Nat × Nat)} {o : Oper} {a : Act} {w : World} {Q : Exit → Act → World → Prop} (ho : ops[i]? = some o) (hg : o.guard = none)
    (h : ∀ K : Act → World → Prop, (∀ a' w', ((N ≤ i ∨ Ext w w') ∧ wpPlan P ops (Q .normal) (fun i K a w => wpOpIn F n P ops Q i K a w) N rest a' w') → K a' w') → o.wpIn F n P a w K Q) :
    wpPlan P ops (Q .normal) (fun i K a w => wpOpIn F n P ops Q i K a w) N ((i, 2) :: rest) a w := by
  simp only [wpPlan, show ¬ (2 = 0) by decide, show ¬ (2 = 1) by decide, if_false, wpOpIn, ho, Region.wanted, hg, if_true]
  exact h _ (fun _ _ h => h)
end
end Go.Proofs.YtjbknfjcdmafaaaDoor

/-! Small functions of the references and the laws, walked. -/
namespace Go.Proofs.YtjbknfjcdmafaaaDoor
open Go.RowKit

def placeZ (l : List UInt8) (c : UInt8) : Int := if c ∈ l then (l.idxOf c : Int) else -1

set_option maxHeartbeats 400000 in
theorem equal_any (A C : Option Addr) (n m : Nat) (a b : List UInt8) (w : World) (ha : Sl w w.heap.size A (B8 a)) (hb : Sl w w.heap.size C (B8 b)) :
    Calls Tryd.prog 9 #[.slice A a.length n, .slice C b.length m] w fun e w' => e = .returned (.bool (a == b)) ∧ w = w' := by
  have e1 := run_str_Sl (P := Tryd.prog) w 22 9 5 Tryd.underlying22 Tryd.underlying5 Tryd.underlying9 _ A n a ha
  have e2 := run_str_Sl (P := Tryd.prog) w 22 9 5 Tryd.underlying22 Tryd.underlying5 Tryd.underlying9 _ C m b hb
  clear ha hb
  go_enter Tryd.func9, Tryd.ntmps9
  go_wp2
  go_ret
  exact ⟨rfl, rfl⟩

theorem placeZ_found (l : List UInt8) (c : UInt8) (k : Nat) (h : k < l.length) (hn : c ∉ l.take k) (he : l[k] = c) : placeZ l c = (k : Int) := by
  have hm : c ∈ l := he ▸ List.getElem_mem h
  unfold placeZ
  rw [if_pos hm]
  have : l = l.take k ++ c :: l.drop (k + 1) := by rw [← he, List.getElem_cons_drop, List.take_append_drop]
  rw [this, List.idxOf_append, if_neg hn]
  simp; omega
theorem placeZ_none (l : List UInt8) (c : UInt8) (hn : c ∉ l) : placeZ l c = -1 := by unfold placeZ; rw [if_neg hn]
theorem not_mem_take_succ (l : List UInt8) (c : UInt8) (k : Nat) (h : k < l.length) (hn : c ∉ l.take k) (he : l[k] ≠ c) : c ∉ l.take (k + 1) := by
  rw [List.take_succ_eq_append_getElem h]; simp only [List.mem_append, List.mem_singleton, not_or]; exact ⟨hn, fun e => he e.symm⟩

def spareB (b : List UInt8) : List UInt8 := b ++ (List.range 9).map fun i => UInt8.ofNat (201 + b.length + i)
theorem spareB_len (b : List UInt8) : (spareB b).length = b.length + 9 := by simp [spareB]
theorem spareB_lo (b : List UInt8) (k : Nat) (h : k < b.length) (h' : k < (spareB b).length) : (spareB b)[k] = b[k] := by simp [spareB, List.getElem_append, h]
theorem spareB_hi (b : List UInt8) (k : Nat) (h : b.length ≤ k) (h' : k < (spareB b).length) : (spareB b)[k] = UInt8.ofNat (201 + k) := by
  have h2 := h'
  rw [spareB_len] at h2
  simp only [spareB, List.getElem_append]
  rw [dif_neg (by omega)]; simp only [List.getElem_map, List.getElem_range]; congr 1; omega

theorem u8_info : (Tryd.prog.info? 5).map (fun i => (i.zero, i.size, i.bytes)) = some (some (.int .u8 0), 1, 1) := by kernel_rfl

theorem elB : El Tryd.prog 22 5 (.int .u8 0) 1 := ⟨Tryd.underlying22, by kernel_rfl, rfl⟩

end Go.Proofs.YtjbknfjcdmafaaaDoor

/-! text.base, walked. -/
namespace Go.Proofs.YtjbknfjcdmafaaaDoor
open Go.RowKit Go.Shelf
attribute [local go_sem] Oper.semAt_some


set_option maxRecDepth 100000 in
set_option maxHeartbeats 4000000 in
theorem base_in (F : Fence) (hF : ∀ k, F.fn k) (hro : F.round = none) (n : Nat) (hn : 3 ≤ n) (f t : Nat) (hf : 1 ≤ f) (hf2 : f ≤ 256) (ht : 2 ≤ t) (ht2 : t ≤ 256) (A : Option Addr) (cap : Nat) (bs : List UInt8) (hl : bs.length ≤ 4096) (w : World) (hs : Sl w w.heap.size A (B8 bs)) :
    CallsIn F n Tryd.prog 36 #[.slice A bs.length cap, .int .i64 f, .int .i64 t] w fun e W' => ∃ v, e = .returned v ∧ Ow W' w.heap.size 5 v (B8 (baseL f t bs.reverse)) ∧ Below w.heap.size w W' := by
  have h1 : 1 ≤ n := by omega
  obtain ⟨i0, hi, hz0, hz1, hz2⟩ := info_parts u8_info
  refine callsIn_of_wp_marks Tryd.func36 rfl (hF _) ?_ hro
  simp only [Tryd.ntmps36, List.size_toArray, List.length_cons, List.length_nil, Nat.reduceAdd, Nat.reduceSub, Array.replicate_succ, Array.replicate_zero, List.push_toArray, List.append_toArray, List.nil_append, List.cons_append]
  gi_wp2_with (gi_at_call 40; refine (bwdB_in F hF hro _ _ _ _ _).mono ?_; rintro e w' ⟨rfl, rfl⟩)
  obtain ⟨B, hB⟩ : ∃ B, B = w.heap.size := ⟨_, rfl⟩
  rw [← hB] at hs ⊢
  obtain ⟨W0, hW0⟩ : ∃ W0, W0 = (((w.alloc (Obj.cells #[Value.int IntKind.i64 f] 3)).alloc (Obj.cells #[Value.int IntKind.i64 t] 3)).alloc (Obj.cells #[Value.slice none 0 0] 22)).alloc (Obj.cells #[Value.slice A bs.length cap] 22) := ⟨_, rfl⟩
  rw [← hW0]
  have b0 : Boxed W0 B 3 (.int .i64 f) := by rw [hW0, hB]; exact (((Boxed.new w _ _).alloc _).alloc _).alloc _
  have b1 : Boxed W0 (B + 1) 3 (.int .i64 t) := by rw [hW0, hB]; have := (((Boxed.new (w.alloc (Obj.cells #[Value.int IntKind.i64 f] 3)) 3 (.int .i64 t)).alloc (Obj.cells #[Value.slice none 0 0] 22)).alloc (Obj.cells #[Value.slice A bs.length cap] 22)); simpa using this
  have b2 : Boxed W0 (B + 2) 22 (.slice none 0 0) := by rw [hW0, hB]; have := (Boxed.new ((w.alloc (Obj.cells #[Value.int IntKind.i64 f] 3)).alloc (Obj.cells #[Value.int IntKind.i64 t] 3)) 22 (.slice none 0 0)).alloc (Obj.cells #[Value.slice A bs.length cap] 22); simpa using this
  have b3 : Boxed W0 (B + 3) 22 (.slice A bs.length cap) := by rw [hW0, hB]; have := (Boxed.new (((w.alloc (Obj.cells #[Value.int IntKind.i64 f] 3)).alloc (Obj.cells #[Value.int IntKind.i64 t] 3)).alloc (Obj.cells #[Value.slice none 0 0] 22)) 22 (.slice A bs.length cap)); simpa using this
  have hsz : W0.heap.size = B + 4 := by rw [hW0, hB]; simp
  have hB0 : Below B w W0 := by rw [hW0, hB]; exact ((((Below.refl _ w).alloc (Nat.le_refl _) _).alloc (by simp) _).alloc (by simp; omega) _).alloc (by simp; omega) _
  have HB := Lib.hid hB
  have hBle : B ≤ w.heap.size := by omega
  have hBge : w.heap.size ≤ B := by omega
  clear hW0 hB
  refine wpIn_rangeFunc_ownG hro h1 (gf := 56) (lb := #[.pointer (some ⟨B + 3, 0, none⟩)]) rfl (hF _) (enters_of Tryd.func56 (by kernel_rfl) rfl)
    (bwdB_stops F hF hro (n - 1) (by omega) (B + 3) B A cap bs (by omega) W0 (by omega) (by omega) b3.cell (hs.below hB0)) keepK_t (keepK_b (by omega) (by omega)) (Below.refl _ _) (fun _ => rfl)
    (fun pre W => (Boxed W B 3 (.int .i64 f) ∧ Boxed W (B + 1) 3 (.int .i64 t) ∧ ∃ v, Boxed W (B + 2) 22 v ∧ Ow W (B + 4) 5 v (B8 (baseL f t (pre.map (·.2))))) ∧ Below B W0 W)
    (fun _ _ _ => False)
    (OwnFrom.and (Go.Own.from (fun s A B row hs hg hr => ⟨boxed_others hs.1 hg hr, boxed_others hs.2.1 hg hr, let ⟨v, hv, ho⟩ := hs.2.2; ⟨v, boxed_others hv hg hr, ho.others hg hr⟩⟩) _) (ownFrom_below (by omega) (by omega)))
    (fun _ _ _ _ _ hs _ _ => hs)
    ⟨⟨b0, b1, _, b2, Ow.nil_ _ _ _ _⟩, Below.refl _ _⟩
    (fun x => { tmps := #[.slice A bs.length cap, .int .i64 f, .int .i64 t, undef, .pointer (some ⟨B, 0, none⟩), .pointer (some ⟨B + 1, 0, none⟩), .slice none 0 0, .pointer (some ⟨B + 2, 0, none⟩), undef, .int .u8 (x.2.toNat : Int), undef, undef, undef, .slice A bs.length cap, .func (.func 56) #[] #[.pointer (some ⟨B + 3, 0, none⟩)], .int .i64 (x.1 : Int), .int .u8 (x.2.toNat : Int), undef, undef, undef, undef, undef, undef, undef, undef, undef, undef, undef, undef, undef, undef, undef, undef, undef, undef, undef, undef, undef, undef, undef, undef, undef, undef, undef, undef, undef, undef, undef, undef, undef, undef, undef, undef, undef, undef, undef], defers := [] }) ?assign ?body ?done ?stop
  case assign =>
    intro l x W K hK
    gi_wp2
    exact hK
  case body =>
    have hsz0 : B + 4 ≤ W0.heap.size := by omega
    clear hs b0 b1 b2 b3 hB0 hsz
    rintro l pre x W ⟨⟨h0, h1, v, h2, ho⟩, hBW⟩ hpre
    have hd : 1 ≤ n - 1 - 1 := by omega
    have c0 := h0.cell
    have c1 := h1.cell
    have c2 := h2.cell
    have f2 := h2.frozen
    obtain ⟨xs, hxs⟩ : ∃ xs, xs = baseL f t (pre.map (·.2)) := ⟨_, rfl⟩
    rw [← hxs] at ho
    have hxl : xs.length ≤ 69632 := by rw [hxs]; have := baseL_len f t hf2 ht (pre.map (·.2)); simp at this; omega
    have Hxs := Lib.hid hxs
    clear hxs
    obtain ⟨Av, cv, rfl⟩ : ∃ Av cv, v = .slice Av xs.length cv := by obtain ⟨Av, cv, e, _⟩ := ho; exact ⟨Av, cv, by simpa using e⟩
    have hx2 := x.2.toNat_lt
    have hd2 : x.2.toNat ≤ 65536 := by omega
    obtain ⟨d, hdd⟩ : ∃ d, d = x.2.toNat := ⟨_, rfl⟩
    rw [← hdd] at hd2
    have Hd := Lib.hid hdd
    gi_wp2
    rw [← hdd]
    clear hdd hx2
    gi_loopw [10, 21] (fun cr i wr => ∃ k c : Nat, k ≤ xs.length ∧ i = .int .i64 k ∧ cr = .int .i64 c ∧ c ≤ 65536 ∧ Hid (c = (mid f t (xs.take k) d).2) ∧ Boxed wr B 3 (.int .i64 f) ∧ Boxed wr (B + 1) 3 (.int .i64 t) ∧
        Boxed wr (B + 2) 22 (.slice Av xs.length cv) ∧ Ow wr (B + 4) 5 (.slice Av xs.length cv) (B8 ((mid f t (xs.take k) d).1 ++ xs.drop k)) ∧ Below B W0 wr ∧ Keep B (B + 3) W wr ∧ KeepsOthers W wr) (fun _ i _ => xs.length - (intOf i).toNat)
    case atStart => exact ⟨0, d, Nat.zero_le _, rfl, rfl, hd2, rfl, h0, h1, h2, by simpa [mid] using ho, hBW, Keep.refl _ _ _, KeepsOthers.refl _⟩
    case round =>
      clear h0 h1 h2 c0 c1 c2 f2 ho hBW
      obtain ⟨k, c, hk, rfl, rfl, hc, Hc, h0, h1, h2, ho, hBW, hWW, hKO⟩ := hrel
      have c0 := h0.cell
      have c1 := h1.cell
      have c2 := h2.cell
      have f2 := h2.frozen
      by_cases hlt : k < xs.length
      · obtain ⟨m, hm⟩ : ∃ m, m = (mid f t (xs.take k) d).1 := ⟨_, rfl⟩
        have hml : m.length = k := by rw [hm, mid_len, List.length_take]; omega
        rw [← hm] at ho
        have Hm := Lib.hid hm
        clear hm
        obtain ⟨g, rfl, hg, hrow, hcell, hfr⟩ := ho.at_ (j := k) (by simp; omega)
        have hv : (B8 (m ++ xs.drop k))[k]'(by simp; omega) = .int .u8 (xs[k].toNat : Int) := by
          rw [B8_get, List.getElem_append_right (by omega)]
          simp [hml]
        rw [hv] at hcell
        have hxk := xs[k].toNat_lt
        have Hml := Lib.hid hml
        clear hv hml
        have Hrow := Lib.hid hrow
        clear hrow
        have b1 : 0 ≤ (xs[k].toNat : Int) * (f : Int) := by exact Int.mul_nonneg (by omega) (by omega)
        have b2 : (xs[k].toNat : Int) * (f : Int) ≤ 65280 := by
          have : xs[k].toNat * f ≤ 255 * 256 := Nat.mul_le_mul (by omega) hf2
          have h : ((xs[k].toNat * f : Nat) : Int) ≤ 65280 := by omega
          rwa [Int.natCast_mul] at h
        gi_wp2
        have hmx : Tryd.prog.follows .mixedOrders = true := by kernel_rfl
        refine wpIn_region_plan [(0, 1), (1, 0), (2, 0), (3, 1), (4, 0), (5, 0), (6, 0), (7, 2)] 7 (fun _ => hF _) hmx (by kernel_rfl) (by intro c a d v w h; cases d <;> exact h) ?_
        repeat ((first | (refine wpPlan_pure rfl (fun K hK => ?_)) | (refine wpPlan_quiet rfl (fun K hK => ?_))); go_simp; (first | (refine hK _ ?_) | (simp only [IntWalk.iteOmega]; go_simp; refine hK _ ?_) | (go_bits; go_simp; refine hK _ ?_)); clear hK K; (try go_bits))
        refine wpPlanIn_loud rfl rfl (fun K hK => ?_)
        gi_wp2
        refine ⟨.inl (by decide), wpPlan_nil ?_⟩
        gi_wp2
        have Bw : B ≤ (⟨g, k, none⟩ : Addr).block := by show B ≤ g; omega
        refine ⟨⟨k + 1, (c + xs[k].toNat * f) / t, by omega, by go_num, by simp, ?_, ?_, boxed_far h0 (p := ⟨g, k, none⟩) (by show B ≠ g; omega) _, boxed_far h1 (p := ⟨g, k, none⟩) (by show B + 1 ≠ g; omega) _, boxed_far h2 (p := ⟨g, k, none⟩) (by show B + 2 ≠ g; omega) _, ?_, hBW.setCell Bw _ |>.drew, keepK_t hWW ⟨((Below.refl B wr).setCell Bw _).drew, Below.heap_setCell wr ⟨g, k, none⟩ _ (B + 3) (by show B + 3 ≠ g; omega)⟩, hKO.trans ((KeepsOthers.setCell _ _ _).trans (KeepsOthers.drew _))⟩, by simp [intOf]; omega⟩
        · have := Nat.div_le_div_left (a := c + xs[k].toNat * f) ht (by omega)
          have hb : xs[k].toNat * f ≤ 255 * 256 := Nat.mul_le_mul (by omega) hf2
          omega
        · show _ = _
          rw [List.take_succ_eq_append_getElem hlt, mid_snoc, ← Hc.out]
        · have hs := ho.store k (by have := ho.len; simp at this; omega) (.int .u8 ((((c : Int) + (xs[k].toNat : Int) * (f : Int)) % (t : Int)) % 256))
          have e : (B8 (m ++ xs.drop k)).set k (.int .u8 ((((c : Int) + (xs[k].toNat : Int) * (f : Int)) % (t : Int)) % 256)) = B8 ((mid f t (xs.take (k + 1)) d).1 ++ xs.drop (k + 1)) := by
            rw [List.take_succ_eq_append_getElem hlt, mid_snoc, ← Hc.out, ← Hm.out]
            have hd : xs.drop k = xs[k] :: xs.drop (k + 1) := by rw [List.getElem_cons_drop]
            rw [hd]
            simp only [B8, List.map_append, List.map_cons]
            rw [List.set_append_right _ _ (by simp [Hml.out])]
            simp [Hml.out]
          rw [e] at hs
          exact hs
      · obtain rfl : k = xs.length := by omega
        rw [List.take_length, List.drop_length, List.append_nil] at ho
        rw [List.take_length] at Hc
        gi_wp2
        obtain ⟨fin, hfin⟩ : ∃ fin, fin = baseStep f t xs d := ⟨_, rfl⟩
        have hfl : fin.length ≤ 69649 := by rw [hfin]; have := baseStep_len f t hf2 ht xs d hd2; omega
        have Hfin := Lib.hid hfin
        clear hfin
        gi_loopw [10] (fun cr wq => ∃ (c : Nat) (v : Value) (ys : List UInt8), cr = .int .i64 c ∧ c ≤ 65536 ∧ Hid (ys ++ pushes t c c = fin) ∧ Boxed wq B 3 (.int .i64 f) ∧ Boxed wq (B + 1) 3 (.int .i64 t) ∧
          Boxed wq (B + 2) 22 v ∧ Ow wq (B + 4) 5 v (B8 ys) ∧ Below B W0 wq ∧ Keep B (B + 3) W wq ∧ KeepsOthers W wq) (fun cr _ => (intOf cr).toNat)
        case atStart => exact ⟨c, _, _, rfl, hc, by rw [Hfin.out]; unfold baseStep; rw [← Hc.out]; rfl, h0, h1, h2, ho, hBW, hWW, hKO⟩
        case round =>
          clear h0 h1 h2 c0 c1 c2 f2 ho hBW hWW hKO Hc hc hk hlt
          obtain ⟨c, v, ys, rfl, hc, hfe, h0, h1, h2, ho, hBW, hWW, hKO⟩ := hrel
          have hyl : ys.length ≤ 69649 := by have := congrArg List.length hfe.out; simp at this; omega
          have c0 := h0.cell
          have c1 := h1.cell
          have c2 := h2.cell
          have f2 := h2.frozen
          obtain ⟨Ay, cy, rfl⟩ : ∃ Ay cy, v = .slice Ay ys.length cy := by obtain ⟨Ay, cy, e, _⟩ := ho; exact ⟨Ay, cy, by simpa using e⟩
          by_cases hc0 : 0 < c
          · have hmx : Tryd.prog.follows .mixedOrders = true := by kernel_rfl
            have hne := ho.row_ne_box h2 (by decide)
            have hne0 := ho.row_ne_box h0 (by decide)
            have hne1 := ho.row_ne_box h1 (by decide)
            have hrow := ho.row
            have hq0 : (0 : Int) ≤ (c : Int) / (t : Int) := Int.ediv_nonneg (by omega) (by omega)
            have hq1 : (c : Int) / (t : Int) ≤ 65536 := by have := Int.ediv_le_self (a := (c : Int)) (t : Int) (by omega); omega
            gi_wp2
            refine wpIn_region_plan [(0, 1), (1, 0), (2, 1), (3, 0), (4, 0), (5, 2), (6, 2), (7, 2)] 6 (fun _ => hF _) hmx (by kernel_rfl) (by intro c a d v w h; cases d <;> exact h) ?_
            repeat ((first | (refine wpPlan_pure rfl (fun K hK => ?_)) | (refine wpPlan_quiet rfl (fun K hK => ?_))); go_simp; (first | (refine hK _ ?_) | (simp only [IntWalk.iteOmega]; go_simp; refine hK _ ?_) | (go_bits; go_simp; refine hK _ ?_)); clear hK K; (try go_bits))
            refine wpPlanIn_loud rfl rfl (fun K hK => ?_)
            gi_wp2
            refine ⟨.inr (ext_alloc_drew _ _), ?_⟩
            refine wpPlanIn_loud rfl rfl (fun K hK => ?_)
            refine wpIn_append_Ow (F := F.inRound l) (v := .slice Ay ys.length cy) (m := 1) (c := 1) (fun _ => hF _) elB (.tmp 48) (.tmp 53) rfl rfl (ho.alloc _).drew rfl (Sl.one wr _ _).drew rfl ?_ ?_ ?_ ?_ ?_
            · intro u hu; simp at hu; subst hu; rfl
            · simp [maxLen]; omega
            · simp; omega
            · have := hBW.size; simp; omega
            intro v' w1 ho1 hg1 hr1
            have hgB : ∀ g, rowOf (.slice Ay ys.length cy) = some g → B + 4 ≤ g := fun g hg => by have := hrow g hg; omega
            have hn1 : ∀ b, b < wr.heap.size → (∀ g, rowOf (.slice Ay ys.length cy) = some g → g ≠ b) → some b ≠ rowOf (.slice Ay ys.length cy) := fun b _ h e => h b e.symm rfl
            have h0' : Boxed w1 B 3 (.int .i64 f) := (boxed_drew (h0.alloc _)).kept hg1 (hn1 _ h0.lt hne0)
            have h1' : Boxed w1 (B + 1) 3 (.int .i64 t) := (boxed_drew (h1.alloc _)).kept hg1 (hn1 _ h1.lt hne1)
            have h2' := Boxed.kept (boxed_drew (h2.alloc _)) hg1 (hn1 _ h2.lt hne)
            have c1' := h1'.cell
            have c2' := h2'.cell
            have f2' := h2'.frozen
            have k1 : KeepsOthers wr w1 := (KeepsOthers.alloc wr _).trans ((KeepsOthers.drew _).trans ((ho.alloc _).drew.keepsOthers hg1 rfl))
            have hws := hBW.size
            have bl : Below B wr w1 := ((Below.refl B wr).alloc (by omega) _).drew.grown hg1 (by simp; omega) (fun g hg => by have := hgB g hg; omega)
            have ho2 : ∀ u, Ow (w1.setCell ⟨B + 2, 0, none⟩ u) (B + 4) 5 v' (B8 (ys ++ [UInt8.ofNat (c % t)])) := fun u => by
              rw [B8_append, B8_one]
              have e : ((c : Int) % (t : Int) % 256) = ((UInt8.ofNat (c % t)).toNat : Int) := by simp
              rw [← e]
              exact ho1.setCell (fun g hg => by have := ho1.row g hg; show B + 2 ≠ g; omega) u
            obtain ⟨Av', cv', rfl⟩ : ∃ Av' cv', v' = .slice Av' (ys.length + 1) cv' := by obtain ⟨A', c', e, _⟩ := ho1; exact ⟨A', c', by simpa using e⟩
            refine hK _ _ ⟨.inl (by decide), ?_⟩
            clear hK K
            refine wpPlanIn_loud rfl rfl (fun K hK => ?_)
            gi_wp2
            refine ⟨.inl (by decide), wpPlan_nil ?_⟩
            gi_wp2
            refine ⟨⟨c / t, .slice Av' (ys.length + 1) cv', ys ++ [UInt8.ofNat (c % t)], by simp, ?_, ?_, h0'.other (by omega) _, h1'.other (by omega) _, ?_, ?_, ?_, ?_, ?_⟩, ?_⟩
            · exact Nat.le_trans (Nat.div_le_self c t) hc
            · show _ = _
              rw [← hfe.out, pushes_pos t c ht hc0]; simp
            · simpa using h2'.set _
            · simpa using ho2 _
            · exact (hBW.trans bl).setCell (p := ⟨B + 2, 0, none⟩) (by show B ≤ B + 2; omega) _
            · exact keepK_t hWW ⟨bl.setCell (p := ⟨B + 2, 0, none⟩) (by show B ≤ B + 2; omega) _, (Below.heap_setCell w1 ⟨B + 2, 0, none⟩ _ (B + 3) (by show B + 3 ≠ B + 2; omega)).trans ((hg1.block (B + 3) (by simp; omega) (fun e => by have := hgB _ e.symm; omega)).trans (Below.heap_alloc wr _ (B + 3) (by omega)))⟩
            · exact hKO.trans (k1.trans (KeepsOthers.setCell _ _ _))
            · have : c / t < c := Nat.div_lt_self hc0 (by omega)
              simp [intOf]; omega
          · obtain rfl : c = 0 := by omega
            gi_wp2
            refine ⟨hKO.from _, hWW, ⟨h0, h1, _, h2, ?_⟩, hBW⟩
            have e : ys = baseL f t ((pre ++ [x]).map (·.2)) := by
              have := hfe.out
              rw [pushes_zero, List.append_nil, Hfin.out, Hxs.out, Hd.out] at this
              rw [this]; simp [baseL_snoc]
            rw [← e]; exact ho
  case done =>
    rintro D ys W hD rfl ⟨⟨_, _, v, h2, ho⟩, hB⟩ hK
    have c2 := h2.cell
    gi_wp2
    refine ⟨by simp, .inl ⟨_, _, rfl, run_takeDeferred hK, ?_⟩⟩
    refine ⟨_, results_tmp rfl _ _ _, v, rfl, ?_, ?_⟩
    · rw [bwd_bytes] at ho
      rw [← HB.out]
      exact (ho.others (grownBy_putObj' _ D (.deferred none)) (fun r e => by cases e; exact ⟨_, hK, rfl⟩)).mono (by omega)
    · rw [← HB.out]
      exact hB0.trans (hB.trans (belowK_b (w := W0) (by omega) W D _ _ hD hK rfl rfl))
  case stop =>
    rintro D c pre W _ _ h _
    exact h.elim

theorem base_any (f t : Nat) (hf : 1 ≤ f) (hf2 : f ≤ 256) (ht : 2 ≤ t) (ht2 : t ≤ 256) (A : Option Addr) (cap : Nat) (bs : List UInt8) (hl : bs.length ≤ 4096) (w : World) (hs : Sl w w.heap.size A (B8 bs)) :
    Calls Tryd.prog 36 #[.slice A bs.length cap, .int .i64 f, .int .i64 t] w fun e W' => ∃ v, e = .returned v ∧ Ow W' w.heap.size 5 v (B8 (baseL f t bs.reverse)) ∧ Below w.heap.size w W' :=
  (callsIn_wide (n := 3)).1 (base_in Fence.wide (fun _ => trivial) rfl 3 (Nat.le_refl _) f t hf hf2 ht ht2 A cap bs hl w hs)
end Go.Proofs.YtjbknfjcdmafaaaDoor

/-! slices.Clone, Reverse, text.turned. -/
namespace Go.Proofs.YtjbknfjcdmafaaaDoor
open Go.RowKit

/-- Turned round from both ends, k places. -/
def rv (xs : List UInt8) (k : Nat) : List UInt8 := (List.range xs.length).map fun m => if m < k ∨ xs.length - k ≤ m then xs.getD (xs.length - 1 - m) 0 else xs.getD m 0
theorem rv_len (xs : List UInt8) (k : Nat) : (rv xs k).length = xs.length := by simp [rv]
theorem rv_get (xs : List UInt8) (k m : Nat) (h : m < (rv xs k).length) : (rv xs k)[m] = if m < k ∨ xs.length - k ≤ m then xs.getD (xs.length - 1 - m) 0 else xs.getD m 0 := by simp [rv]
theorem rv_zero (xs : List UInt8) : rv xs 0 = xs := by
  apply List.ext_getElem (by simp [rv])
  intro i h1 h2
  rw [rv_get, if_neg (by omega)]
  simp [h2]
theorem rv_end (xs : List UInt8) (k : Nat) (h : xs.length ≤ 2 * k + 1) : rv xs k = xs.reverse := by
  apply List.ext_getElem (by simp [rv])
  intro i h1 h2
  have hi : i < xs.length := by simpa using h2
  rw [rv_get, List.getElem_reverse]
  by_cases hc : i < k ∨ xs.length - k ≤ i
  · rw [if_pos hc, List.getD_eq_getElem?_getD, List.getElem?_eq_getElem (by omega)]; rfl
  · rw [if_neg hc, List.getD_eq_getElem?_getD, List.getElem?_eq_getElem hi]
    have e : xs.length - 1 - i = i := by omega
    simp only [e]; rfl
theorem rv_step (xs : List UInt8) (k : Nat) (h : k + 1 < xs.length - k) : ((rv xs k).set k (xs.getD (xs.length - 1 - k) 0)).set (xs.length - 1 - k) (xs.getD k 0) = rv xs (k + 1) := by
  apply List.ext_getElem (by simp [rv])
  intro i h1 h2
  have hi : i < xs.length := by simpa [rv] using h2
  rw [rv_get, List.getElem_set, List.getElem_set]
  by_cases e1 : xs.length - 1 - k = i
  · subst e1; rw [if_pos rfl, if_pos (by omega)]; congr 1; omega
  · rw [if_neg e1]
    by_cases e2 : k = i
    · subst e2; rw [if_pos rfl, if_pos (by omega)]
    · rw [if_neg e2, rv_get]
      by_cases hc : i < k ∨ xs.length - k ≤ i
      · rw [if_pos hc, if_pos (by omega)]
      · rw [if_neg hc, if_neg (by omega)]

set_option maxHeartbeats 2000000 in
theorem clone_any (A : Option Addr) (c : Nat) (bs : List UInt8) (w : World) (hs : Sl w w.heap.size A (B8 bs)) (hl : bs.length ≤ 1048576) :
    Calls Tryd.prog 22 #[.slice A bs.length c] w fun e W' => ∃ v, e = .returned v ∧ Ow W' w.heap.size 5 v (B8 bs) ∧ Below w.heap.size w W' := by
  have hnil := fun w => Lib.run_eql_slice_nil (P := Tryd.prog) w 22 5 A bs.length c 0 0 Tryd.underlying22
  by_cases hb : bs = []
  · subst hb
    simp only [List.length_nil] at hnil ⊢
    clear hl hs
    cases A with
    | none =>
      go_enter Tryd.func22, Tryd.ntmps22
      go_wp2
      go_ret
      exact ⟨_, rfl, Ow.nil_ _ _ _ _, Below.refl _ _⟩
    | some ad =>
      go_enter Tryd.func22, Tryd.ntmps22
      go_wp2_with (at_builtin; refine wpList_append_Ow (m := 0) (c := c) (base := w.heap.size) (xs := []) (v := .slice (some ⟨w.heap.size, 0, none⟩) 0 0) (A := some ad) (B := w.heap.size) (news := []) elB rfl (.tmp 5) (.tmp 6) rfl rfl (Ow.nil_ _ _ _ _) rfl Sl.nil rfl (by simp) (by simp) (by simp) (by simp) ?_; intro v1 w1 ho1 hg1 hr1)
      go_ret
      exact ⟨v1, rfl, ho1, ((Below.refl _ w).alloc (Nat.le_refl _) _).grown hg1 (by simp) (by simp [rowOf])⟩
  · have Hl := Lib.hid hl
    obtain ⟨b, o, rfl, _⟩ := hs (by simpa using List.length_pos_iff.2 hb)
    have Hb := Lib.hid hb
    clear hl hb
    go_enter Tryd.func22, Tryd.ntmps22
    go_wp2_with (at_builtin; refine wpList_append_Ow (m := bs.length) (c := c) (base := w.heap.size) (xs := []) (v := .slice (some ⟨w.heap.size, 0, none⟩) 0 0) (A := some ⟨b, o, none⟩) (B := w.heap.size) (news := B8 bs) elB rfl (.tmp 5) (.tmp 6) rfl rfl (Ow.nil_ _ _ _ _) rfl (hs.alloc (Nat.le_refl _) _) (B8_length _) (B8_oneCell _) (by have := Hl.out; simp [maxLen]; omega) (by have := Hl.out; simp; omega) (by simp) ?_; intro v1 w1 ho1 hg1 hr1)
    go_ret
    exact ⟨v1, rfl, by simpa using ho1, ((Below.refl _ w).alloc (Nat.le_refl _) _).grown hg1 (by simp) (by simp [rowOf])⟩

set_option maxHeartbeats 2000000 in
theorem reverse_row (g o c : Nat) (l1 l3 : List Value) (E : Nat) (bs : List UInt8) (w : World) (hh : w.heap[g]? = some (.cells (l1 ++ B8 bs ++ l3).toArray E (0, 0))) (ho : l1.length = o) (hl : bs.length ≤ 4096) :
    Calls Tryd.prog 48 #[.slice (some ⟨g, o, none⟩) bs.length c] w fun e W' => e = .returned (.tuple #[]) ∧ W'.heap[g]? = some (.cells (l1 ++ B8 bs.reverse ++ l3).toArray E (0, 0)) ∧ w.grownBy W' (some g) := by
  have Ho := Lib.hid ho
  have Hh := Lib.hid hh
  clear ho hh
  go_enter Tryd.func48, Tryd.ntmps48
  go_wp2
  go_loopw [2, 3] (fun i j wr => ∃ k : Nat, (2 * k ≤ bs.length + 1 ∧ (0 < k → 2 * k ≤ bs.length)) ∧ i = .int .i64 k ∧ j = .int .i64 ((bs.length : Int) - 1 - (k : Int)) ∧ wr.heap[g]? = some (.cells (l1 ++ B8 (rv bs k) ++ l3).toArray E (0, 0)) ∧ w.grownBy wr (some g)) (fun i _ _ => bs.length + 1 - (intOf i).toNat)
  case atStart => exact ⟨0, by omega, rfl, by go_num, by rw [rv_zero]; exact Hh.out, World.grownBy.refl _ _⟩
  case round =>
    obtain ⟨k, hk, rfl, rfl, hh, hg⟩ := hrel
    by_cases hlt : k + 1 < bs.length - k
    · obtain ⟨m, hm⟩ : ∃ m, m = bs.length - 1 - k := ⟨_, rfl⟩
      have hm1 : m < bs.length := by omega
      have hkm : k < m := by omega
      have e1 : (bs.length : Int) - 1 - (k : Int) = (m : Int) := by omega
      have hk1 : k < bs.length := by omega
      have cell : ∀ j (hj : j < bs.length), wr.cell? ⟨g, o + j, none⟩ = some (.int .u8 (((rv bs k)[j]'(by rw [rv_len]; exact hj)).toNat : Int)) := fun j hj => by
        rw [cell_of_row wr g (o + j) _ _ _ hh]
        have h1 := Ho.out
        subst h1
        simp [B8, List.getElem?_append_right, List.getElem?_append_left, rv_len, hj]
      have ck := cell k hk1
      have cm := cell m hm1
      have fr : ∀ j, wr.frozen? ⟨g, o + j, none⟩ = false := fun j => frozen_of_row wr g (o + j) _ _ hh
      have fk := fr k
      have fm := fr m
      rw [e1]
      have Hm := Lib.hid hm
      have Hh := Lib.hid hh
      clear cell fr hm e1 hh
      have hmx : Tryd.prog.follows .mixedOrders = true := by kernel_rfl
      go_wp2_with fail
      refine wp_region_plan [(0, 0), (1, 0), (2, 0), (3, 0), (4, 0), (5, 0), (6, 0), (7, 1), (8, 0), (9, 0), (10, 0), (11, 1), (12, 0), (13, 2), (14, 2), (15, 2)] 13 hmx (by kernel_rfl) (by intro c a d v w h; cases d <;> exact h) ?_
      repeat ((first | (refine wpPlan_pure rfl (fun K hK => ?_)) | (refine wpPlan_quiet rfl (fun K hK => ?_))); go_simp; (first | (refine hK _ ?_) | (simp only [IntWalk.iteOmega]; go_simp; refine hK _ ?_) | (go_bits; go_simp; refine hK _ ?_)); clear hK K; (try go_bits))
      refine wpPlan_loud rfl rfl (fun K hK => ?_)
      go_wp2
      refine ⟨.inl (by decide), ?_⟩
      refine wpPlan_loud rfl rfl (fun K hK => ?_)
      go_wp2
      refine ⟨.inl (by decide), ?_⟩
      refine wpPlan_loud rfl rfl (fun K hK => ?_)
      go_wp2
      refine ⟨.inl (by decide), wpPlan_nil ?_⟩
      go_wp2
      have hm := Hm.out
      have v1 : (rv bs k)[m]'(by rw [rv_len]; exact hm1) = bs.getD (bs.length - 1 - k) 0 := by rw [rv_get, if_neg (by omega), hm]
      have v2 : (rv bs k)[k]'(by rw [rv_len]; exact hk1) = bs.getD k 0 := by rw [rv_get, if_neg (by omega)]
      have st : l1 ++ B8 (rv bs (k + 1)) ++ l3 = ((l1 ++ B8 (rv bs k) ++ l3).set (o + k) (.int .u8 (((rv bs k)[m]'(by rw [rv_len]; exact hm1)).toNat : Int))).set (o + m) (.int .u8 (((rv bs k)[k]'(by rw [rv_len]; exact hk1)).toNat : Int)) := by
        have h1 := Ho.out
        subst h1
        rw [v1, v2, ← rv_step bs k hlt, ← hm]
        rw [List.append_assoc, List.append_assoc, List.set_append_right _ _ (by omega), List.set_append_right _ _ (by omega)]
        simp only [Nat.add_sub_cancel_left]
        rw [List.set_append_left _ _ (by simp [rv_len]; omega), List.set_append_left _ _ (by simp [rv_len]; omega)]
        simp [B8, List.map_set]
      refine ⟨⟨k + 1, by omega, by go_num, by go_num, ?_, ?_⟩, by simp [intOf]; omega⟩
      · rw [st]
        exact (heap_setCell_same _ g (o + m) _ _ _ (heap_setCell_same wr g (o + k) _ _ _ Hh.out)).trans (by simp)
      · refine World.grownBy.trans hg ⟨rfl, rfl, rfl, by simp [World.setCell, World.drew], fun j hj hne => ?_⟩
        have hne' : j ≠ g := fun e => hne (by rw [e])
        exact (Below.heap_setCell _ ⟨g, o + m, none⟩ _ j hne').trans (Below.heap_setCell wr ⟨g, o + k, none⟩ _ j hne')
    · have e1 : ¬ ((k : Int) < (bs.length : Int) - 1 - (k : Int)) := by omega
      go_wp2
      go_end0
      exact ⟨rfl, by rw [rv_end bs k (by omega)] at hh; simpa using hh, hg⟩

set_option maxHeartbeats 400000 in
theorem reverse_empty (A : Option Addr) (c : Nat) (w : World) :
    Calls Tryd.prog 48 #[.slice A 0 c] w fun e W' => e = .returned (.tuple #[]) ∧ w = W' := by
  go_enter Tryd.func48, Tryd.ntmps48
  go_wp2
  go_loop [2, 3] (fun i j => i = .int .i64 0 ∧ j = .int .i64 (-1)) (fun _ _ => 0)
  case atStart => exact ⟨rfl, rfl⟩
  case round =>
    obtain ⟨rfl, rfl⟩ := hrel
    go_wp2
    go_end0
    exact ⟨rfl, rfl⟩

/-- Reversed in place, an owned slice. -/
theorem reverse_ow (base E : Nat) (A : Option Addr) (n c : Nat) (bs : List UInt8) (w : World) (h : Ow w base E (.slice A n c) (B8 bs)) (hl : bs.length ≤ 4096) :
    Calls Tryd.prog 48 #[.slice A n c] w fun e W' => e = .returned (.tuple #[]) ∧ Ow W' base E (.slice A n c) (B8 bs.reverse) ∧ w.grownBy W' (rowOf (.slice A n c)) := by
  have h0 := h
  obtain ⟨A', c', e, h1, h2, h3⟩ := h
  injection e with e1 e2 e3; subst e1 e2 e3
  simp only [B8_length] at h0 h1 h3 ⊢
  by_cases hc : c = 0
  · have hb : bs = [] := List.eq_nil_of_length_eq_zero (by omega)
    subst hb
    refine (reverse_empty A c w).mono fun e W' ⟨he, hw⟩ => ?_
    subst hw
    exact ⟨he, h0, World.grownBy.refl _ _⟩
  · obtain ⟨g, cur, rfl, hb, hh, hs, ht⟩ := h3 (by omega)
    have hcur : cur = ([] ++ B8 bs ++ cur.toList.drop bs.length).toArray := by
      apply Array.ext'
      simp only [List.nil_append]
      rw [← ht, List.take_append_drop]
    rw [hcur] at hh
    have hr : rowOf (.slice (some ⟨g, 0, none⟩) bs.length c) = some g := by simp [rowOf, hc]
    refine (reverse_row g 0 c [] (cur.toList.drop bs.length) E bs w hh rfl hl).mono fun e W' ⟨he, hh', hg⟩ => ⟨he, ?_, by rw [hr]; exact hg⟩
    refine ⟨_, c, by simp, by simpa using h1, h2, fun _ => ⟨g, _, rfl, hb, hh', by simp; omega, by simp [List.take_append, List.take_of_length_le]⟩⟩

set_option maxHeartbeats 400000 in
theorem turned_any (A : Option Addr) (c : Nat) (bs : List UInt8) (w : World) (hs : Sl w w.heap.size A (B8 bs)) (hl : bs.length ≤ 4096) :
    Calls Tryd.prog 35 #[.slice A bs.length c] w fun e W' => ∃ v, e = .returned v ∧ Ow W' w.heap.size 5 v (B8 bs.reverse) ∧ Below w.heap.size w W' := by
  go_enter Tryd.func35, Tryd.ntmps35
  go_wp2_with fail
  refine (clone_any A c bs w hs (by omega)).mono ?_
  rintro e w1 ⟨v, rfl, ho, hb⟩
  obtain ⟨A1, c1, rfl⟩ : ∃ A1 c1, v = .slice A1 bs.length c1 := by obtain ⟨A1, c1, e, _⟩ := ho; exact ⟨A1, c1, by simpa using e⟩
  go_wp2_with fail
  refine (reverse_ow _ _ _ _ _ bs w1 ho hl).mono ?_
  rintro e w2 ⟨rfl, ho2, hg2⟩
  have hrow := ho.row
  have hsz := hb.size
  go_wp2
  go_ret
  exact ⟨_, rfl, ho2, hb.grown hg2 hsz (fun g hg => (hrow g hg).1)⟩
end Go.Proofs.YtjbknfjcdmafaaaDoor
