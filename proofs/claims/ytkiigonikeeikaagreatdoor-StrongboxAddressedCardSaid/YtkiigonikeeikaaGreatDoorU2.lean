/- Regions that draw their order: one walk along a plan serves every order. The plan takes first what yields its value in every later world (its cells as they are now); what is left comes up alone. | Small laws of slices that are appended to. | script.code, script.PayMulti. -/
import Derived.OrdersHeld
import Derived.OrdersIn
import Derived.Below
import Derived.Deep.Draws
import Derived.Test.YtkiigonikeeikaaGreatDoorU1

/-! Regions that draw their order: one walk along a plan serves every order. The plan takes first what yields its value in every later world (its cells as they are now); what is left comes up alone. -/
namespace Go.Proofs.YtkiigonikeeikaaGreatDoor
open Go Go.RowKit

/-- w with blocks behind its own, and some other count of draws. -/
def _root_.Go.World.ext (w : World) (objs : Array Obj) (d : Nat) : World := { w with heap := w.heap ++ objs, drawn := d }
/-- Whatever world in which the blocks of w are as they were. -/
def Ext (w w' : World) : Prop := ∃ objs d, w' = w.ext objs d
theorem ext_of_below {w w' : World} (h : Below w.heap.size w w') : Ext w w' := by
  refine ⟨w'.heap.extract w.heap.size w'.heap.size, w'.drawn, ?_⟩
  have hh : w'.heap = w.heap ++ w'.heap.extract w.heap.size w'.heap.size := by
    apply Array.ext_getElem?
    intro i
    by_cases hi : i < w.heap.size
    · rw [h.block i hi, Array.getElem?_append_left hi]
    · rw [Array.getElem?_append_right (by omega)]
      rw [Array.getElem?_extract]
      by_cases h2 : i < w'.heap.size
      · rw [if_pos (by omega)]; congr 1; omega
      · rw [if_neg (by omega), Array.getElem?_eq_none (by omega)]
  cases w' with | mk hp tp dr os ou =>
  cases w with | mk hp2 tp2 dr2 os2 ou2 =>
  obtain ⟨rfl, rfl, rfl⟩ : os = os2 ∧ tp = tp2 ∧ ou = ou2 := ⟨h.os, h.tape, h.output⟩
  simp only [World.ext] at hh ⊢
  rw [← hh]
theorem Ext.below {w w' : World} (h : Ext w w') : Below w.heap.size w w' := by
  obtain ⟨objs, d, rfl⟩ := h
  exact ⟨rfl, rfl, rfl, by simp [World.ext], fun k hk => by simp [World.ext, Array.getElem?_append_left hk]⟩
theorem Ext.refl (w : World) : Ext w w := ext_of_below (Below.refl _ _)
theorem Ext.trans {a b c : World} (h : Ext a b) (k : Ext b c) : Ext a c := ext_of_below (h.below.trans (k.below.mono h.below.size))
theorem ext_alloc (w : World) (o : Obj) : Ext w (w.alloc o) := ext_of_below ((Below.refl _ w).alloc (Nat.le_refl _) o)
theorem ext_alloc_drew (w : World) (o : Obj) : Ext w.drew (w.alloc o).drew := ext_of_below ⟨rfl, rfl, rfl, by simp, fun k hk => Below.heap_alloc w o k hk⟩
theorem Ext.drew {a b : World} (h : Ext a b) : Ext a b.drew := ext_of_below h.below.drew
theorem ext_of_below_drew {w w' : World} (h : Below w.heap.size w w') : Ext w.drew w' := ext_of_below ⟨h.os, h.tape, h.output, h.size, h.block⟩
@[go_sem] theorem cell?_ext (w : World) (objs : Array Obj) (d : Nat) (a : Addr) (h : (w.cell? a).isSome = true) : (w.ext objs d).cell? a = w.cell? a := by
  obtain ⟨v, hv⟩ := Option.isSome_iff_exists.1 h
  exact (Ext.below ⟨objs, d, rfl⟩).cell (World.block_lt_of_cell? w a hv)
@[go_sem] theorem frozen?_ext (w : World) (objs : Array Obj) (d : Nat) (a : Addr) (h : (w.cell? a).isSome = true) : (w.ext objs d).frozen? a = w.frozen? a := by
  obtain ⟨v, hv⟩ := Option.isSome_iff_exists.1 h
  exact (Ext.below ⟨objs, d, rfl⟩).frozen (World.block_lt_of_cell? w a hv)

section
variable {P : Program} {ops : Array Oper} {md : Region.Mode}

/-- What is asked of one operation's coming up: three laws that the plain walk and the fenced one both have. -/
structure StepLaws (P : Program) (ops : Array Oper) (Q : Act → World → Prop) (st : Nat → (Act → World → Prop) → Act → World → Prop) : Prop where
  mono : ∀ {i : Nat} {K K' : Act → World → Prop} {a : Act} {w : World}, (∀ a w, K a w → K' a w) → st i K a w → st i K' a w
  yield : ∀ {i : Nat} {o : Oper} {v : Value} {a : Act} {w : World} {K : Act → World → Prop} {S : World → Prop}, ops[i]? = some o → YieldsIf P ops S o v a → S w → K (a.put o.dst v) w → st i K a w
  put : ∀ {j : Nat} {oi oj : Oper} {v : Value} {a : Act} {w : World} {K : Act → World → Prop} {S : World → Prop}, ops[j]? = some oj → oi.apart ops oj = true → (∀ cs b, oi.op ≠ .select cs b) → (∀ cs b, oj.op ≠ .select cs b) →
    YieldsIf P ops S oi v a → st j K (a.put oi.dst v) w → st j (fun a' w' => YieldsIf P ops S oi v a' ∧ K (a'.put oi.dst v) w') a w

variable {Q : Act → World → Prop} {st : Nat → (Act → World → Prop) → Act → World → Prop} {N : Nat}

/-- Has the tail begun? -/
def tb (N : Nat) (listed : Array Bool) : Prop := ∃ t, N ≤ t ∧ listed.getD t false = true
theorem tb_set {N i : Nat} {listed : Array Bool} (hi : i < N) : tb N (listed.setIfInBounds i true) ↔ tb N listed := by
  unfold tb
  constructor
  · rintro ⟨t, ht, h⟩; exact ⟨t, ht, by rwa [getD_set_ne false (by omega)] at h⟩
  · rintro ⟨t, ht, h⟩; exact ⟨t, ht, getD_set_true h⟩
theorem tb_mono {N i : Nat} {listed : Array Bool} (h : tb N listed) : tb N (listed.setIfInBounds i true) := by
  obtain ⟨t, ht, h⟩ := h; exact ⟨t, ht, getD_set_true h⟩
def wpAnyS (md : Region.Mode) (ops : Array Oper) (Q : Act → World → Prop) (st : Nat → (Act → World → Prop) → Act → World → Prop) (N : Nat) (S : World → Prop) : Nat → Array Bool → Act → World → Prop
  | 0, listed, a, w => Region.ready md ops listed = [] ∧ Q a w
  | fuel + 1, listed, a, w => (Region.ready md ops listed = [] → Q a w) ∧
    ∀ i ∈ Region.ready md ops listed, st i (fun a' w' => (tb N (listed.setIfInBounds i true) ∨ S w') ∧ wpAnyS md ops Q st N S fuel (listed.setIfInBounds i true) a' w') a w

/-- Whatever has come up, all that it waits for has. -/
def Closed (md : Region.Mode) (ops : Array Oper) (listed : Array Bool) : Prop :=
  listed.size = ops.size ∧ ∀ j oj, ops[j]? = some oj → listed.getD j false = true → ∀ e ∈ oj.after, Region.binds md e = true → listed.getD e.on false = true
def anc (md : Region.Mode) (ops : Array Oper) : Nat → Nat → Nat → Bool
  | 0, _, _ => false
  | f + 1, j, i => match ops[j]? with
    | some oj => oj.after.any fun e => Region.binds md e && (e.on == i || anc md ops f e.on i)
    | none => false
theorem anc_listed {listed : Array Bool} (hc : Closed md ops listed) : ∀ (f j i : Nat), listed.getD j false = true → anc md ops f j i = true → listed.getD i false = true := by
  intro f
  induction f with
  | zero => intro j i _ h; cases h
  | succ f ih =>
    intro j i hj h
    unfold anc at h
    split at h
    · rename_i oj ho
      obtain ⟨e, he, hb⟩ := Array.any_eq_true'.1 h
      simp only [Bool.and_eq_true, Bool.or_eq_true, beq_iff_eq] at hb
      have hl := hc.2 j oj ho hj e he hb.1
      rcases hb.2 with rfl | h2
      · exact hl
      · exact ih e.on i hl h2
    · cases h
theorem anc_ready {listed : Array Bool} (hc : Closed md ops listed) {f j i : Nat} (hj : j ∈ Region.ready md ops listed) (h : anc md ops f j i = true) : listed.getD i false = true := by
  obtain ⟨_, o, ho, hall⟩ := mem_ready.1 hj
  cases f with
  | zero => cases h
  | succ f =>
    unfold anc at h
    simp only [ho] at h
    obtain ⟨e, he, hb⟩ := Array.any_eq_true'.1 h
    simp only [Bool.and_eq_true, Bool.or_eq_true, beq_iff_eq] at hb
    have hl := hall e he hb.1
    rcases hb.2 with rfl | h2
    · exact hl
    · exact anc_listed hc f e.on i hl h2
theorem Closed.set {listed : Array Bool} (hc : Closed md ops listed) {i : Nat} (hi : i ∈ Region.ready md ops listed) : Closed md ops (listed.setIfInBounds i true) := by
  obtain ⟨_, o, ho, hall⟩ := mem_ready.1 hi
  refine ⟨by simpa using hc.1, ?_⟩
  intro j oj hj hl e he hb
  by_cases hij : i = j
  · subst hij
    have : oj = o := Option.some.inj (hj.symm.trans ho)
    subst this
    exact getD_set_true (hall e he hb)
  · rw [getD_set_ne false hij] at hl
    exact getD_set_true (hc.2 j oj hj hl e he hb)
theorem unlisted_false {listed : Array Bool} {i : Nat} (h : listed.getD i true = false) : listed.getD i false = false := by
  rcases Nat.lt_or_ge i listed.size with h' | h'
  · simp [h'] at h ⊢; exact h
  · simp [Array.getElem?_eq_none h'] at h

theorem wpAnyS_weak (L : StepLaws P ops Q st) {S S' : World → Prop} (hS : ∀ w, S' w → S w) : ∀ (fuel : Nat) (listed : Array Bool) (a : Act) (w : World), wpAnyS md ops Q st N S' fuel listed a w → wpAnyS md ops Q st N S fuel listed a w
  | 0, _, _, _, h => h
  | fuel + 1, _, _, _, h => ⟨h.1, fun i hi => L.mono (fun a' w' h' => ⟨h'.1.imp id (hS _), wpAnyS_weak L hS fuel _ a' w' h'.2⟩) (h.2 i hi)⟩

/-- What keeps S at hand while i has not come up: the tail waits for i, or i asks nothing of the world. -/
theorem wpAnyS_first (L : StepLaws P ops Q st) {S S1 : World → Prop} {i : Nat} {oi : Oper} {v : Value} (hi : ops[i]? = some oi) (hsel : ∀ (j : Nat) (o : Oper) cs b, ops[j]? = some o → o.op ≠ .select cs b) (hiN : i < N)
    (hS1 : ∀ listed w, Closed md ops listed → listed.getD i true = false → tb N listed ∨ S w → S1 w) :
    ∀ (fuel : Nat) (listed : Array Bool) (a : Act) (w : World), Closed md ops listed →
      (∀ j oj, ops[j]? = some oj → j ≠ i → listed.getD j true = false → (∀ e ∈ oj.after, Region.binds md e = true → e.on ≠ i) → oi.apart ops oj = true) →
      i ∈ Region.ready md ops listed → YieldsIf P ops S1 oi v a → (tb N listed ∨ S w) →
      wpAnyS md ops Q st N S fuel (listed.setIfInBounds i true) (a.put oi.dst v) w → wpAnyS md ops Q st N S (fuel + 1) listed a w := by
  intro fuel
  induction fuel with
  | zero =>
    intro listed a w hcl hfree hr hy hS H
    refine ⟨fun h => (by rw [h] at hr; cases hr), fun j hj => ?_⟩
    by_cases hji : j = i
    · subst hji; exact L.yield hi hy (hS1 listed w hcl (mem_ready.1 hr).1 hS) ⟨hS.imp tb_mono id, H⟩
    · have := ready_mono hj hji
      rw [H.1] at this
      cases this
  | succ fuel ih =>
    intro listed a w hcl hfree hr hy hS H
    refine ⟨fun h => (by rw [h] at hr; cases hr), fun j hj => ?_⟩
    by_cases hji : j = i
    · subst hji; exact L.yield hi hy (hS1 listed w hcl (mem_ready.1 hr).1 hS) ⟨hS.imp tb_mono id, H⟩
    · have h1 := H.2 j (ready_mono hj hji)
      obtain ⟨hjun, oj, hoj, hall⟩ := mem_ready.1 hj
      have hnot : ∀ e ∈ oj.after, Region.binds md e = true → e.on ≠ i := fun e he hb heq => by
        have h1 := hall e he hb
        have h0 := (mem_ready.1 hr).1
        rw [heq] at h1
        rcases Nat.lt_or_ge i listed.size with h' | h'
        · simp [h'] at h0 h1; rw [h0] at h1; cases h1
        · simp [Array.getElem?_eq_none h'] at h1
      have h2 := L.put hoj (hfree j oj hoj hji hjun hnot) (fun cs b => hsel i oi cs b hi) (fun cs b => hsel j oj cs b hoj) hy h1
      have hfree' : ∀ k ok, ops[k]? = some ok → k ≠ i → (listed.setIfInBounds j true).getD k true = false →
          (∀ e ∈ ok.after, Region.binds md e = true → e.on ≠ i) → oi.apart ops ok = true := fun k ok hk hki hun hno => by
        refine hfree k ok hk hki ?_ hno
        by_cases hjk : j = k
        · subst hjk; exact hjun
        · rw [getD_set_ne true hjk] at hun; exact hun
      refine L.mono (fun a' w' h3 => ?_) h2
      have hS' : tb N (listed.setIfInBounds j true) ∨ S w' := by
        have := h3.2.1
        rw [Array.setIfInBounds_comm _ _ (Ne.symm hji), tb_set hiN] at this
        exact this
      refine ⟨hS', ih (listed.setIfInBounds j true) a' w' (hcl.set hj) hfree' (ready_mono hr (Ne.symm hji)) h3.1 hS' ?_⟩
      rw [Array.setIfInBounds_comm _ _ hji]
      exact h3.2.2

/-- The plan is one. 0: it asks nothing of the world; 1: it reads cells that lie ahead of the region, and the tail waits for it; 2: it comes up alone. -/
def planB (md : Region.Mode) (ops : Array Oper) (N : Nat) : List (Nat × Nat) → Array Bool → Bool
  | [], listed => Region.ready md ops listed == []
  | (i, k) :: rest, listed =>
    (if k = 0 then (Region.ready md ops listed).contains i && Region.free md ops listed i && decide (i < N)
     else if k = 1 then (Region.ready md ops listed).contains i && Region.free md ops listed i && decide (i < N) && ((List.range ops.size).all fun j => decide (j < N) || anc md ops ops.size j i)
     else (Region.ready md ops listed == [i]) && (decide (i < N) || rest.all fun p => decide (2 ≤ p.2) && decide (N ≤ p.1))) && planB md ops N rest (listed.setIfInBounds i true)

def wpPlan (P : Program) (ops : Array Oper) (Q : Act → World → Prop) (st : Nat → (Act → World → Prop) → Act → World → Prop) (N : Nat) : List (Nat × Nat) → Act → World → Prop
  | [], a, w => Q a w
  | (i, k) :: rest, a, w =>
    if k = 0 then (match ops[i]? with
      | none => False
      | some o => ∃ v, YieldsIf P ops (fun _ => True) o v a ∧ wpPlan P ops Q st N rest (a.put o.dst v) w)
    else if k = 1 then (match ops[i]? with
      | none => False
      | some o => ∃ v, YieldsIf P ops (Ext w) o v a ∧ wpPlan P ops Q st N rest (a.put o.dst v) w)
    else st i (fun a' w' => (N ≤ i ∨ Ext w w') ∧ wpPlan P ops Q st N rest a' w') a w

theorem tail_sound (L : StepLaws P ops Q st) {S : World → Prop} : ∀ (plan : List (Nat × Nat)) (listed : Array Bool) (a : Act) (w : World) (extra : Nat),
    planB md ops N plan listed = true → (plan.all fun p => decide (2 ≤ p.2) && decide (N ≤ p.1)) = true → listed.size = ops.size → wpPlan P ops Q st N plan a w → wpAnyS md ops Q st N S (plan.length + extra) listed a w
  | [], listed, a, w, extra, hB, _, _, h => by
    have hr : Region.ready md ops listed = [] := by simpa [planB] using hB
    cases extra with
    | zero => exact ⟨hr, h⟩
    | succ e => exact ⟨fun _ => h, by rw [hr]; simp⟩
  | (i, k) :: rest, listed, a, w, extra, hB, hA, hsz, h => by
    simp only [List.all_cons, Bool.and_eq_true, decide_eq_true_eq] at hA
    have hk0 : ¬ k = 0 := by omega
    have hk1 : ¬ k = 1 := by omega
    simp only [planB, hk0, hk1, if_false, Bool.and_eq_true] at hB
    obtain ⟨⟨hr, _⟩, hrest⟩ := hB
    have hr : Region.ready md ops listed = [i] := by simpa using hr
    rw [List.length_cons, show rest.length + 1 + extra = rest.length + extra + 1 by omega]
    refine ⟨fun h0 => (by rw [h0] at hr; cases hr), fun j hj => ?_⟩
    rw [hr] at hj
    obtain rfl : j = i := by simpa using hj
    have hlt : j < listed.size := by
      have hj' : j ∈ Region.ready md ops listed := by rw [hr]; simp
      obtain ⟨_, o, ho, _⟩ := mem_ready.1 hj'
      rw [hsz]; exact (Array.getElem?_eq_some_iff.1 ho).1
    simp only [wpPlan, hk0, hk1, if_false] at h
    exact L.mono (fun a' w' h' => ⟨.inl ⟨j, hA.1.2, by simp [hlt]⟩, tail_sound L rest _ a' w' extra hrest (by simpa using hA.2) (by simpa using hsz) h'.2⟩) h

theorem plan_sound (L : StepLaws P ops Q st) (hsel : Region.noSelect ops = true) : ∀ (plan : List (Nat × Nat)) (listed : Array Bool) (a : Act) (w w0 : World) (extra : Nat),
    planB md ops N plan listed = true → Closed md ops listed → listed.size = ops.size → Ext w0 w → wpPlan P ops Q st N plan a w → wpAnyS md ops Q st N (Ext w0) (plan.length + extra) listed a w
  | [], listed, a, w, w0, extra, hB, _, _, _, h => by
    have hr : Region.ready md ops listed = [] := by simpa [planB] using hB
    cases extra with
    | zero => exact ⟨hr, h⟩
    | succ e => exact ⟨fun _ => h, by rw [hr]; simp⟩
  | (i, k) :: rest, listed, a, w, w0, extra, hB, hcl, hsz, hE, h => by
    have hB0 := hB
    by_cases hk0 : k = 0
    · simp only [planB, hk0, if_true, Bool.and_eq_true, decide_eq_true_eq] at hB
      obtain ⟨⟨⟨hr, hf⟩, hiN⟩, hrest⟩ := hB
      have hr' : i ∈ Region.ready md ops listed := by simpa using hr
      simp only [wpPlan, hk0, if_true] at h
      split at h
      · exact h.elim
      · rename_i o ho
        obtain ⟨v, hy, hK⟩ := h
        have hrec := plan_sound L hsel rest (listed.setIfInBounds i true) (a.put o.dst v) w w0 extra hrest (hcl.set hr') (by simpa using hsz) hE hK
        have h1 := wpAnyS_first L (S := Ext w0) (S1 := fun _ => True) ho (Region.noSelect_spec hsel) hiN (fun _ _ _ _ _ => trivial) (rest.length + extra) listed a w hcl (Region.free_spec ho hf) hr' hy (.inr hE) hrec
        rw [List.length_cons, show rest.length + 1 + extra = rest.length + extra + 1 by omega]
        exact h1
    by_cases hk1 : k = 1
    · subst hk1
      simp only [planB, if_true, Bool.and_eq_true, decide_eq_true_eq, Nat.one_ne_zero, if_false] at hB
      obtain ⟨⟨⟨⟨hr, hf⟩, hiN⟩, hanc⟩, hrest⟩ := hB
      have hr' : i ∈ Region.ready md ops listed := by simpa using hr
      simp only [wpPlan, if_true, Nat.one_ne_zero, if_false] at h
      split at h
      · exact h.elim
      · rename_i o ho
        obtain ⟨v, hy, hK⟩ := h
        have hrec := plan_sound L hsel rest (listed.setIfInBounds i true) (a.put o.dst v) w w extra hrest (hcl.set hr') (by simpa using hsz) (Ext.refl w) hK
        have h1 := wpAnyS_first L (S := Ext w) (S1 := Ext w) ho (Region.noSelect_spec hsel) hiN (fun l w' hc hu ht => by
          rcases ht with ⟨t, ht, hl⟩ | h
          · exfalso
            have hts : t < ops.size ∨ ¬ t < ops.size := Decidable.em _
            rcases hts with hts | hts
            · have := List.all_eq_true.1 hanc t (List.mem_range.2 hts)
              simp only [Bool.or_eq_true, decide_eq_true_eq] at this
              have := anc_listed hc _ _ _ hl (this.resolve_left (by omega))
              rw [unlisted_false hu] at this
              cases this
            · -- a listed place beyond the operations: closed lists bear none that matter
              rw [show l.getD t false = false by simp [Array.getElem?_eq_none (show l.size ≤ t by rw [hc.1]; omega)]] at hl
              cases hl
          · exact h) (rest.length + extra) listed a w hcl (Region.free_spec ho hf) hr' hy (.inr (Ext.refl w)) hrec
        rw [List.length_cons, show rest.length + 1 + extra = rest.length + extra + 1 by omega]
        exact wpAnyS_weak L (fun w' hw' => hE.trans hw') _ _ _ _ h1
    · simp only [planB, hk0, hk1, if_false, Bool.and_eq_true] at hB
      obtain ⟨⟨hr, ht⟩, hrest⟩ := hB
      by_cases hiN : N ≤ i
      · refine tail_sound L ((i, k) :: rest) listed a w extra hB0 ?_ hsz h
        simp only [Bool.or_eq_true, decide_eq_true_eq] at ht
        have := ht.resolve_left (by omega)
        simp only [List.all_cons, this, hiN, decide_true, Bool.and_true, decide_eq_true_eq]
        omega
      have hr : Region.ready md ops listed = [i] := by simpa using hr
      have hr' : i ∈ Region.ready md ops listed := by rw [hr]; simp
      rw [List.length_cons, show rest.length + 1 + extra = rest.length + extra + 1 by omega]
      refine ⟨fun h0 => (by rw [h0] at hr; cases hr), fun j hj => ?_⟩
      rw [hr] at hj
      obtain rfl : j = i := by simpa using hj
      simp only [wpPlan, hk0, hk1, if_false] at h
      refine L.mono (fun a' w' h' => ?_) h
      have hE' := hE.trans (h'.1.resolve_left hiN)
      exact ⟨.inr hE', plan_sound L hsel rest _ a' w' w0 extra hrest (hcl.set hr') (by simpa using hsz) hE' h'.2⟩

/-! ### The steps of a walk -/
/-- One value, in every world that has the cells of w. -/
def stillUpon (w : World) (v : Value) : Result Next → Prop
  | .ok (.value u) w' => w' = w ∧ u = v
  | _ => False
def stillOp (P : Program) (o : Oper) (a : Act) (w : World) (K : Act → Prop) : Prop := ∃ v, (∀ objs d, stillUpon (w.ext objs d) v ((execOp a.eval o).run P (w.ext objs d))) ∧ K (a.put o.dst v)
def pureOp (P : Program) (o : Oper) (a : Act) (K : Act → Prop) : Prop := ∃ v, (∀ W, stillUpon W v ((execOp a.eval o).run P W)) ∧ K (a.put o.dst v)
theorem wpPlan_pure {i : Nat} {rest : List (Nat × Nat)} {o : Oper} {a : Act} {w : World} (ho : ops[i]? = some o)
    (h : ∀ K : Act → Prop, (∀ a, wpPlan P ops Q st N rest a w → K a) → if Region.wanted o (yielded ops a.tmps) then pureOp P o a K else K (a.put o.dst undef)) :
    wpPlan P ops Q st N ((i, 0) :: rest) a w := by
  have h := h _ (fun _ h => h)
  simp only [wpPlan, if_true, ho]
  split at h
  · rename_i hw
    obtain ⟨v, hv, hK⟩ := h
    refine ⟨v, .inl ⟨hw, fun w' _ => ?_⟩, hK⟩
    have := hv w'
    generalize (execOp a.eval o).run P w' = r at *
    cases r with
    | ok n w' => cases n <;> simp only [stillUpon] at this
                 obtain ⟨rfl, rfl⟩ := this; rfl
    | halt x w' => simp only [stillUpon] at this
  · rename_i hw
    exact ⟨undef, .inr ⟨by simpa using hw, rfl⟩, h⟩
theorem wpPlan_quiet {i : Nat} {rest : List (Nat × Nat)} {o : Oper} {a : Act} {w : World} (ho : ops[i]? = some o)
    (h : ∀ K : Act → Prop, (∀ a, wpPlan P ops Q st N rest a w → K a) → if Region.wanted o (yielded ops a.tmps) then stillOp P o a w K else K (a.put o.dst undef)) :
    wpPlan P ops Q st N ((i, 1) :: rest) a w := by
  have h := h _ (fun _ h => h)
  simp only [wpPlan, if_true, ho, Nat.one_ne_zero, if_false]
  split at h
  · rename_i hw
    obtain ⟨v, hv, hK⟩ := h
    refine ⟨v, .inl ⟨hw, fun w' hw' => ?_⟩, hK⟩
    obtain ⟨objs, d, rfl⟩ := hw'
    have := hv objs d
    generalize (execOp a.eval o).run P (w.ext objs d) = r at *
    cases r with
    | ok n w' => cases n <;> simp only [stillUpon] at this
                 obtain ⟨rfl, rfl⟩ := this; rfl
    | halt x w' => simp only [stillUpon] at this
  · rename_i hw
    exact ⟨undef, .inr ⟨by simpa using hw, rfl⟩, h⟩
theorem wpPlan_nil {a : Act} {w : World} (h : Q a w) : wpPlan P ops Q st N [] a w := h
end
attribute [go_sem] stillOp stillUpon pureOp

section
variable {P : Program} {ops : Array Oper} {N : Nat}
/-! ### The plain walk -/
theorem plainLaws (Q : Exit → Act → World → Prop) (hQ : ∀ c a d v w, Q (.panic c) (Act.put a d v) w → Q (.panic c) a w) : StepLaws P ops (Q .normal) (fun i K a w => wpOp P ops Q i K a w) :=
  ⟨fun h hh => wpOp_mono h hh, fun ho hy hS hK => hy.wpOp ho hS hK, fun hj hap hsi hsj hy h => wpOp_putIf hj hap hsi hsj (fun c a w h => hQ c _ _ _ w h) hy h⟩
theorem wpAny_of_S {Q : Exit → Act → World → Prop} {S : World → Prop} : ∀ (fuel : Nat) (listed : Array Bool) (a : Act) (w : World), wpAnyS .any ops (Q .normal) (fun i K a w => wpOp P ops Q i K a w) N S fuel listed a w → wpAny P .any ops Q fuel listed a w
  | 0, _, _, _, h => h
  | fuel + 1, _, _, _, h => ⟨h.1, fun i hi => wpOp_mono (fun a' w' h' => wpAny_of_S fuel _ a' w' h'.2) (h.2 i hi)⟩
/-- **A region that draws, along a plan.** -/
theorem wp_region_plan {id : Nat} {Q : Exit → Act → World → Prop} {a : Act} {w : World} {l : List Oper} (plan : List (Nat × Nat)) (N : Nat) (hm : P.follows .mixedOrders = true)
    (hB : (Region.noSelect l.toArray && decide (plan.length = l.length) && planB .any l.toArray N plan (Array.replicate l.length false)) = true) (hQ : ∀ c a d v w, Q (.panic c) (Act.put a d v) w → Q (.panic c) a w)
    (h : wpPlan P l.toArray (Q .normal) (fun i K a w => wpOp P l.toArray Q i K a w) N plan a w.drew) : (Code.region id l.toArray true).wp P Q a w := by
  simp only [Bool.and_eq_true, decide_eq_true_eq] at hB
  refine wp_region_any hm ?_
  have := plan_sound (plainLaws Q hQ) hB.1.1 plan (Array.replicate l.length false) a w.drew w.drew 0 hB.2 ⟨by simp, fun j oj hj hl => by
    rcases Nat.lt_or_ge j l.length with h | h
    · simp [h] at hl
    · simp [h] at hl⟩ (by simp) (Ext.refl _) h
  rw [Nat.add_zero, hB.1.2] at this
  have := wpAny_of_S _ _ _ _ this
  simpa using this
theorem wpPlan_loud {i : Nat} {rest : List (Nat × Nat)} {o : Oper} {a : Act} {w : World} {Q : Exit → Act → World → Prop} (ho : ops[i]? = some o) (hg : o.guard = none)
    (h : ∀ K : Act → World → Prop, (∀ a' w', ((N ≤ i ∨ Ext w w') ∧ wpPlan P ops (Q .normal) (fun i K a w => wpOp P ops Q i K a w) N rest a' w') → K a' w') → o.wp P a w K Q) :
    wpPlan P ops (Q .normal) (fun i K a w => wpOp P ops Q i K a w) N ((i, 2) :: rest) a w := by
  simp only [wpPlan, show ¬ (2 = 0) by decide, show ¬ (2 = 1) by decide, if_false, wpOp, ho, Region.wanted, hg, if_true]
  exact .inl (h _ (fun _ _ h => h))

/-! ### The fenced walk, in a round or not, where the fence lets every function by -/
def Region.noDefer (ops : Array Oper) : Bool := ops.all fun o => match o.op with | .defer _ => false | _ => true
theorem noDefer_spec (h : Region.noDefer ops = true) (j : Nat) (o : Oper) (ho : ops[j]? = some o) : ∀ c, o.op ≠ .defer c := by
  intro c heq
  have := Array.all_eq_true_iff_forall_mem.1 h o (Array.mem_of_getElem? ho)
  simp [heq] at this
variable {F : Fence} {n : Nat}
theorem YieldsIf.wpOpIn {S : World → Prop} {Q : Exit → Act → World → Prop} (hF : ∀ k, F.fn k) (hnd : Region.noDefer ops = true) {i : Nat} {o : Oper} {v : Value} {a : Act} (hi : ops[i]? = some o) (hy : YieldsIf P ops S o v a)
    {K : Act → World → Prop} {w : World} (hS : S w) (h : K (a.put o.dst v) w) : wpOpIn F n P ops Q i K a w := by
  unfold Go.wpOpIn
  simp only [hi]
  rcases hy with ⟨hw, hv⟩ | ⟨hw, rfl⟩
  · simp only [hw, if_true, Oper.wpIn, Oper.semAt_eq _ _ _ (noDefer_spec hnd i o hi), hv w hS, Oper.uponIn]; exact ⟨fun f _ => hF f, h⟩
  · simp only [hw, Bool.false_eq_true, if_false]; exact ⟨fun f _ => hF f, h⟩
theorem wpOpIn_putIf {S : World → Prop} {Q : Exit → Act → World → Prop} (hF : ∀ k, F.fn k) (hnd : Region.noDefer ops = true) {j : Nat} {oi oj : Oper} {v : Value} (hj : ops[j]? = some oj) (hap : oi.apart ops oj = true)
    (hsi : ∀ cs b, oi.op ≠ .select cs b) (hsj : ∀ cs b, oj.op ≠ .select cs b)
    (hQ : ∀ c a d v w, Q (.panic c) (Act.put a d v) w → Q (.panic c) a w) {K : Act → World → Prop} {a : Act} {w : World}
    (hy : YieldsIf P ops S oi v a) (h : wpOpIn F n P ops Q j K (a.put oi.dst v) w) :
    wpOpIn F n P ops Q j (fun a' w' => YieldsIf P ops S oi v a' ∧ K (a'.put oi.dst v) w') a w := by
  obtain ⟨h1, h2, h3⟩ := Oper.apart_spec hap
  have keep : ∀ (a : Act), YieldsIf P ops S oi v a → ∀ u, YieldsIf P ops S oi v (a.put oj.dst u) := fun a hy u =>
    hy.of_same (execOp_put oi hsi a oj.dst u h3) (wanted_put oi a oj.dst u h3)
  have keepD : ∀ d, YieldsIf P ops S oi v { a with defers := d :: a.defers } := fun d => hy.of_same rfl rfl
  have hnj := noDefer_spec hnd j oj hj
  unfold wpOpIn at *
  simp only [hj] at *
  rw [wanted_put oj a oi.dst v h1] at h
  split
  · rename_i hw
    simp only [hw, if_true] at h
    unfold Oper.wpIn at *
    refine ⟨fun f _ => hF f, ?_⟩
    have h := h.2
    rw [Oper.semAt_eq _ _ _ hnj] at h ⊢
    rw [execOp_put oj hsj a oi.dst v h1] at h
    generalize (execOp a.eval oj).run P w = r at *
    cases r with
    | ok m w' =>
      cases m <;> simp only [Oper.uponIn] at h ⊢
      case value u => exact ⟨keep a hy u, by rw [← Act.put_comm a v u h2]; exact h⟩
      case skip => exact ⟨keep a hy _, by rw [← Act.put_comm a v undef h2]; exact h⟩
      case defer d =>
        refine ⟨keep _ (keepD d) _, ?_⟩
        rw [← Act.put_comm _ v undef h2, ← Act.put_defers]
        exact h
      case enter f args =>
        refine ⟨h.1, CallsIn.mono h.2 fun e w'' he => ?_⟩
        cases e with
        | returned u => exact ⟨keep a hy u, by rw [← Act.put_comm a v u h2]; exact he⟩
        | panicked c => exact hQ _ _ _ _ _ he
        | outgrown => exact he
      case row row args => exact ⟨h.1, RowsIn.mono h.2 fun u w'' he => ⟨keep a hy u, by rw [← Act.put_comm a v u h2]; exact he⟩⟩
      case round =>
        refine ⟨h.1, RoundIn.mono h.2 fun e w'' he => ?_⟩
        cases e with
        | returned u => exact ⟨keep a hy u, by rw [← Act.put_comm a v u h2]; exact he⟩
        | panicked c => exact hQ _ _ _ _ _ he
        | outgrown => exact he
    | halt x w' =>
      cases x <;> simp only [Oper.uponIn] at h ⊢
      case panic u => exact hQ _ _ _ _ _ h
  · rename_i hw
    simp only [hw] at h
    exact ⟨fun f _ => hF f, keep a hy _, by rw [← Act.put_comm a v undef h2]; exact h.2⟩
theorem fencedLaws (Q : Exit → Act → World → Prop) (hF : ∀ k, F.fn k) (hnd : Region.noDefer ops = true) (hQ : ∀ c a d v w, Q (.panic c) (Act.put a d v) w → Q (.panic c) a w) : StepLaws P ops (Q .normal) (fun i K a w => wpOpIn F n P ops Q i K a w) :=
  ⟨fun h hh => wpOpIn_mono h hh, fun ho hy hS hK => YieldsIf.wpOpIn hF hnd ho hy hS hK, fun hj hap hsi hsj hy h => wpOpIn_putIf hF hnd hj hap hsi hsj hQ hy h⟩
theorem wpAnyIn_of_S {Q : Exit → Act → World → Prop} {S : World → Prop} : ∀ (fuel : Nat) (listed : Array Bool) (a : Act) (w : World), wpAnyS .any ops (Q .normal) (fun i K a w => wpOpIn F n P ops Q i K a w) N S fuel listed a w → wpAnyIn F n P .any ops Q fuel listed a w
  | 0, _, _, _, h => h
  | fuel + 1, _, _, _, h => ⟨h.1, fun i hi => wpOpIn_mono (fun a' w' h' => wpAnyIn_of_S fuel _ a' w' h'.2) (h.2 i hi)⟩
theorem wpIn_region_plan {id : Nat} {Q : Exit → Act → World → Prop} {a : Act} {w : World} {l : List Oper} (plan : List (Nat × Nat)) (N : Nat) (hF : ∀ k, F.fn k) (hm : P.follows .mixedOrders = true)
    (hB : (Region.noSelect l.toArray && Region.noDefer l.toArray && decide (plan.length = l.length) && planB .any l.toArray N plan (Array.replicate l.length false)) = true) (hQ : ∀ c a d v w, Q (.panic c) (Act.put a d v) w → Q (.panic c) a w)
    (h : wpPlan P l.toArray (Q .normal) (fun i K a w => wpOpIn F n P l.toArray Q i K a w) N plan a w.drew) : (Code.region id l.toArray true).wpIn F n P Q a w := by
  simp only [Bool.and_eq_true, decide_eq_true_eq] at hB
  refine wpIn_region_any hm ?_
  have := plan_sound (fencedLaws (F := F) (n := n) Q hF hB.1.1.2 hQ) hB.1.1.1 plan (Array.replicate l.length false) a w.drew w.drew 0 hB.2 ⟨by simp, fun j oj hj hl => by
    rcases Nat.lt_or_ge j l.length with h | h
    · simp [h] at hl
    · simp [h] at hl⟩ (by simp) (Ext.refl _) h
  rw [Nat.add_zero, hB.1.2] at this
  have := wpAnyIn_of_S _ _ _ _ this
  simpa using this
theorem wpPlanIn_loud {i : Nat} {rest : List (Nat × Nat)} {o : Oper} {a : Act} {w : World} {Q : Exit → Act → World → Prop} (ho : ops[i]? = some o) (hg : o.guard = none)
    (h : ∀ K : Act → World → Prop, (∀ a' w', ((N ≤ i ∨ Ext w w') ∧ wpPlan P ops (Q .normal) (fun i K a w => wpOpIn F n P ops Q i K a w) N rest a' w') → K a' w') → o.wpIn F n P a w K Q) :
    wpPlan P ops (Q .normal) (fun i K a w => wpOpIn F n P ops Q i K a w) N ((i, 2) :: rest) a w := by
  simp only [wpPlan, show ¬ (2 = 0) by decide, show ¬ (2 = 1) by decide, if_false, wpOpIn, ho, Region.wanted, hg, if_true]
  exact h _ (fun _ _ h => h)
end
end Go.Proofs.YtkiigonikeeikaaGreatDoor

/-! Small laws of slices that are appended to. -/
namespace Go.Proofs.YtkiigonikeeikaaGreatDoor
open Go.RowKit

theorem own_form {w : World} {base E : Nat} {v : Value} {T : List UInt8} (h : Ow w base E v (B8 T)) : ∃ A1 c1, v = .slice A1 T.length c1 ∧ T.length ≤ c1 ∧ c1 ≤ maxLen := by
  obtain ⟨A1, c1, e, h1, h2, _⟩ := h
  exact ⟨A1, c1, by simpa using e, by simpa using h1, h2⟩
theorem push_below {w wr w3 : World} {B E n c : Nat} {A : Option Addr} {xs : List Value} {o : Obj} (hb : Below B w wr) (hB : B ≤ w.heap.size) (ho : Ow wr B E (.slice A n c) xs) (hg : (wr.alloc o).grownBy w3 (rowOf (.slice A n c))) : Below B w w3 := by
  have h1 : B ≤ wr.heap.size := Nat.le_trans hB hb.size
  exact (hb.alloc h1 o).grown hg (by rw [World.size_alloc]; omega) (fun r hr => (ho.row r hr).1)
theorem b8_snoc (xs : List UInt8) (x : Value) (b : UInt8) (h : x = .int .u8 (b.toNat : Int)) : B8 xs ++ [x] = B8 (xs ++ [b]) := by rw [h, B8_append]; rfl

end Go.Proofs.YtkiigonikeeikaaGreatDoor

/-! script.code, script.PayMulti. -/
namespace Go.Proofs.YtkiigonikeeikaaGreatDoor
open Go.RowKit

/-- A slice of slices of bytes. -/
def Keys (w : World) (B : Nat) (A : Option Addr) (ks : List (List UInt8)) : Prop :=
  0 < ks.length → ∃ b o, A = some ⟨b, o, none⟩ ∧ b < B ∧ ∀ j (h : j < ks.length), ∃ Aj cj, w.cell? ⟨b, o + j, none⟩ = some (.slice Aj ks[j].length cj) ∧ Sl w B Aj (B8 ks[j]) ∧ ks[j].length ≤ cj ∧ cj ≤ maxLen
section
variable {w w' : World} {B B' : Nat} {A : Option Addr} {ks : List (List UInt8)}
theorem Keys.below (h : Keys w B A ks) (hb : Below B w w') : Keys w' B A ks := fun hn => by
  obtain ⟨b, o, e, hbB, hc⟩ := h hn
  refine ⟨b, o, e, hbB, fun j hj => ?_⟩
  obtain ⟨Aj, cj, h1, h2, h3⟩ := hc j hj
  exact ⟨Aj, cj, (hb.cell (p := ⟨b, o + j, none⟩) hbB).trans h1, h2.below hb, h3⟩
theorem Keys.mono (h : Keys w B A ks) (hB : B ≤ B') : Keys w B' A ks := fun hn => by
  obtain ⟨b, o, e, hbB, hc⟩ := h hn
  refine ⟨b, o, e, by omega, fun j hj => ?_⟩
  obtain ⟨Aj, cj, h1, h2, h3⟩ := hc j hj
  exact ⟨Aj, cj, h1, h2.mono hB, h3⟩
theorem Keys.take (h : Keys w B A ks) (n : Nat) : Keys w B A (ks.take n) := fun hn => by
  obtain ⟨b, o, e, hbB, hc⟩ := h (by simp at hn; omega)
  refine ⟨b, o, e, hbB, fun j hj => ?_⟩
  obtain ⟨Aj, cj, h1, h2, h3⟩ := hc j (by simp at hj; omega)
  rw [List.getElem_take]
  exact ⟨Aj, cj, h1, h2, h3⟩
theorem Keys.at_ (h : Keys w B A ks) {k : Nat} (hk : k < ks.length) : ∃ b o, A = some ⟨b, o, none⟩ ∧ b < B ∧ ∃ Aj cj, w.cell? ⟨b, o + k, none⟩ = some (.slice Aj ks[k].length cj) ∧ Sl w B Aj (B8 ks[k]) ∧ ks[k].length ≤ cj ∧ cj ≤ maxLen := by
  obtain ⟨b, o, e, hbB, hc⟩ := h (by omega)
  exact ⟨b, o, e, hbB, hc k hk⟩
end

def keysL (ks : List (List UInt8)) : List UInt8 := ks.flatMap (fun k => 33 :: k)
theorem keysL_snoc (ks : List (List UInt8)) (k : List UInt8) : keysL (ks ++ [k]) = keysL ks ++ [33] ++ k := by simp [keysL]
theorem keysL_length (ks : List (List UInt8)) (h : ∀ k ∈ ks, k.length = 33) : (keysL ks).length = 34 * ks.length := by
  induction ks with
  | nil => rfl
  | cons k ks ih =>
    have h1 := ih (fun x hx => h x (by simp [hx]))
    have h2 := h k (by simp)
    unfold keysL at h1 ⊢
    rw [List.flatMap_cons, List.length_append, h1]
    simp [h2]; omega
/-- The script for m of some keys. -/
def payL (m : Nat) (ks : List (List UInt8)) : List UInt8 := UInt8.ofNat (80 + m) :: keysL ks ++ [UInt8.ofNat (80 + ks.length), 174]
def payR (m : Int) (ks : List (List UInt8)) : Nat × List UInt8 :=
  if ks.length < 1 ∨ 16 < ks.length ∨ m < 1 ∨ (ks.length : Int) < m then (1, [])
  else if ∀ k ∈ ks, k.length = 33 then (0, payL m.toNat ks) else (3, [])

set_option maxHeartbeats 400000 in
theorem code_any (n : Nat) (h0 : 0 < n) (hn : n ≤ 16) (w : World) :
    Calls Tryz.prog 22 #[.int .i64 n] w fun e w' => e = .returned (.int .u8 ((UInt8.ofNat (80 + n)).toNat : Int)) ∧ w' = w := by
  have he : ((UInt8.ofNat (80 + n)).toNat : Int) = 81 + (n : Int) - 1 := by rw [UInt8.toNat_ofNat']; omega
  have He := Lib.hid he
  clear he
  go_enter Tryz.func22, Tryz.ntmps22
  go_wp2
  go_ret
  refine ⟨?_, rfl⟩
  rw [He.out]
  rfl

theorem Ow.new1 (w : World) (u : Value) (E : TypeId) (base : Nat) (hb : base ≤ w.heap.size) : Ow (w.alloc (.cells #[u] E)) base E (.slice (some ⟨w.heap.size, 0, none⟩) 1 1) [u] :=
  Ow.of_row (cap := 1) #[u] E base hb rfl (by simp [maxLen]) 1 (Nat.le_refl _)
theorem Sl.two' (w : World) (u v : Value) (E : TypeId) : Sl (w.alloc (.cells #[u, v] E)) (w.heap.size + 1) (some ⟨w.heap.size, 0, none⟩) [u, v] := fun _ =>
  ⟨_, 0, rfl, by omega, fun j hj => by
    rw [cell_of_row _ _ _ _ _ (0, 0) (heap_alloc_new w _)]
    simp only [List.length_cons, List.length_nil] at hj
    have h2 : j = 0 ∨ j = 1 := by omega
    rcases h2 with rfl | rfl <;> simp⟩

set_option maxRecDepth 100000 in
set_option maxHeartbeats 4000000 in
theorem pay_any (m : Int) (A : Option Addr) (c : Nat) (ks : List (List UInt8)) (w : World) (hK : Keys w w.heap.size A ks) (hl : ks.length ≤ 16) :
    Calls Tryz.prog 5 #[.int .i64 m, .slice A ks.length c] w fun e W' => ∃ v, e = .returned (.tuple #[v, .int .i64 ((payR m ks).1 : Int)]) ∧ Ow W' w.heap.size 5 v (B8 (payR m ks).2) ∧ Below w.heap.size w W' := by
  obtain ⟨n, hn⟩ : ∃ n, n = ks.length := ⟨_, rfl⟩
  obtain ⟨F, hF⟩ : ∃ F, F = payR m ks := ⟨_, rfl⟩
  rw [← hF]
  rw [← hn] at hl ⊢
  have Hn := Lib.hid hn
  have HF := Lib.hid hF
  clear hn hF
  by_cases h1 : n < 1 ∨ m < 1 ∨ (n : Int) < m
  · have hFv : F = (1, []) := by rw [HF.out, payR, ← Hn.out, if_pos (by omega)]
    have HFv := Lib.hid hFv
    clear hFv
    rcases h1 with h1 | h1
    · go_enter Tryz.func5, Tryz.ntmps5
      go_wp2_with fail
      go_ret2
      rw [HFv.out]
      exact ⟨_, rfl, Ow.nil_ _ _ _ _, Below.refl _ _⟩
    by_cases h2 : n < 1
    · go_enter Tryz.func5, Tryz.ntmps5
      go_wp2_with fail
      go_ret2
      rw [HFv.out]
      exact ⟨_, rfl, Ow.nil_ _ _ _ _, Below.refl _ _⟩
    by_cases h3 : m < 1
    · go_enter Tryz.func5, Tryz.ntmps5
      go_wp2_with fail
      go_ret2
      rw [HFv.out]
      exact ⟨_, rfl, Ow.nil_ _ _ _ _, Below.refl _ _⟩
    · have h4 : (n : Int) < m := by omega
      go_enter Tryz.func5, Tryz.ntmps5
      go_wp2_with fail
      go_ret2
      rw [HFv.out]
      exact ⟨_, rfl, Ow.nil_ _ _ _ _, Below.refl _ _⟩
  obtain ⟨q, rfl⟩ : ∃ q : Nat, m = (q : Int) := ⟨m.toNat, by omega⟩
  have hn1 : 1 ≤ n := by omega
  have hq1 : 1 ≤ q := by omega
  have hqn : q ≤ n := by omega
  clear h1
  have hFv : F = if ∀ k ∈ ks, k.length = 33 then (0, payL q ks) else (3, []) := by rw [HF.out, payR, ← Hn.out, if_neg (by omega)]; rfl
  have HFv := Lib.hid hFv
  clear hFv HF
  obtain ⟨c0, hc0⟩ : ∃ c0, c0 = UInt8.ofNat (80 + q) := ⟨_, rfl⟩
  have Hc0 := Lib.hid hc0
  have hcode := code_any q hq1 (by omega)
  rw [← hc0] at hcode
  have Hcode := Lib.hid hcode
  clear hcode hc0
  go_enter Tryz.func5, Tryz.ntmps5
  go_wp2_with (go_at_call 22; refine (Hcode.out _).mono ?_; rintro e w' ⟨rfl, rfl⟩)
  obtain ⟨w, rfl⟩ : ∃ w, w = w' := ⟨_, rfl⟩
  go_loopw [7, 32] (fun v i wr => ∃ k : Nat, k ≤ n ∧ i = .int .i64 k ∧ Ow wr w.heap.size 5 v (B8 (c0 :: keysL (ks.take k))) ∧ Hid (∀ x ∈ ks.take k, x.length = 33) ∧ Below w.heap.size w wr) (fun _ i _ => n - (intOf i).toNat)
  case atStart => exact ⟨0, Nat.zero_le _, rfl, Ow.new1 w _ _ _ (Nat.le_refl _), Lib.hid (by simp), (Below.refl _ _).alloc (Nat.le_refl _) _⟩
  case round =>
    obtain ⟨k, hk, rfl, ho, H33, hb⟩ := hrel
    obtain ⟨L, hL⟩ : ∃ L, L = c0 :: keysL (ks.take k) := ⟨_, rfl⟩
    obtain ⟨l, hl'⟩ : ∃ l, l = L.length := ⟨_, rfl⟩
    have hll : l ≤ 600 := by
      rw [hl', hL, List.length_cons, keysL_length _ H33.out, List.length_take]; omega
    rw [← hL] at ho
    obtain ⟨Al, cl, rfl, hcl, hcl'⟩ := own_form ho
    rw [← hl'] at ho hcl ⊢
    have HL := Lib.hid hL
    have Hl := Lib.hid hl'
    have hz := hb.size
    clear hL hl'
    by_cases hlt : k < n
    · have hkk : k < ks.length := by rw [← Hn.out]; exact hlt
      obtain ⟨b9, o9, rfl, hb9, Aj, cj, hcj, hSj, hlj, hmj⟩ := hK.at_ hkk
      obtain ⟨key, hkey⟩ : ∃ key, key = ks[k] := ⟨_, rfl⟩
      rw [← hkey] at hcj hSj hlj
      have hcell : wr.cell? ⟨b9, o9 + k, none⟩ = some (.slice Aj key.length cj) := by rw [hb.cell (p := ⟨b9, o9 + k, none⟩) hb9, hcj]
      obtain ⟨kl, hkl⟩ : ∃ kl, kl = key.length := ⟨_, rfl⟩
      rw [← hkl] at hcell hlj
      have Hkl := Lib.hid hkl
      have Hkey := Lib.hid hkey
      have hSr := (hSj.below hb).mono hz
      clear hkl hkey hcj
      by_cases h33 : kl = 33
      · subst h33
        go_wp2_with (first | (at_builtin; go_loud (refine wpList_append_Ow (m := 33) (c := cj) (base := w.heap.size) (xs := B8 (L ++ [33])) (v := v3) (A := Aj) (B := w3.heap.size) (news := B8 key) elB rfl (.tmp 41) (.tmp 42) rfl rfl ho3 rfl hS3 (by rw [B8_length]; exact Hkl.out.symm) (B8_oneCell _) (by rw [B8_length, List.length_append, ← Hl.out]; simp [maxLen]; omega) (by rw [B8_length, List.length_append, ← Hl.out, List.length_singleton]; omega) hb3.size ?_); intro v4 w4 ho4 hg4 hr4) | (at_builtin; go_loud (refine wpList_append_Ow (m := 1) (c := 1) (base := w.heap.size) (xs := B8 L) (v := .slice Al l cl) (A := some ⟨wr.heap.size, 0, none⟩) (B := wr.heap.size + 1) (news := [.int .u8 33]) elB rfl (.tmp 39) (.tmp 40) rfl rfl (ho.alloc _) rfl (Sl.one wr _ _) rfl (by simp; rfl) (by rw [B8_length, ← Hl.out]; simp [maxLen]; omega) (by rw [B8_length, ← Hl.out]; omega) (by simp; omega) ?_); intro v3 w3 ho3 hg3 hr3; rw [b8_snoc L (.int .u8 33) 33 rfl] at ho3; have hb3 := push_below hb (Nat.le_refl _) ho hg3; have hS3 := (hSj.below hb3).mono hb3.size; clear hg3 hr3))
        rw [← B8_append] at ho4
        have hnew : L ++ [33] ++ key = c0 :: keysL (ks.take (k + 1)) := by
          rw [HL.out, List.take_succ_eq_append_getElem hkk, keysL_snoc, ← Hkey.out]; simp
        rw [hnew] at ho4
        exact ⟨⟨k + 1, by omega, rfl, ho4, Lib.hid (by
          rw [List.take_succ_eq_append_getElem hkk]
          intro x hx
          rcases List.mem_append.1 hx with hx | hx
          · exact H33.out x hx
          · rw [List.mem_singleton.1 hx, ← Hkey.out]; exact Hkl.out.symm), hb3.grown hg4 hb3.size (fun r hr => (ho3.row r hr).1)⟩, by simp [intOf]; omega⟩
      · have hFe : F = (3, []) := by
          rw [HFv.out, if_neg]
          intro hall
          exact h33 (by rw [Hkl.out]; exact hall key (by rw [Hkey.out]; exact List.getElem_mem _))
        have HFe := Lib.hid hFe
        clear hFe
        have h33' : ¬ ((kl : Int) = 33) := by omega
        go_wp2_with fail
        go_ret2
        rw [HFe.out]
        exact ⟨_, rfl, Ow.nil_ _ _ _ _, hb⟩
    · have hkn : k = n := by omega
      have htk : ks.take k = ks := List.take_of_length_le (by rw [← Hn.out]; omega)
      rw [htk] at H33
      obtain ⟨c1, hc1⟩ : ∃ c1, c1 = UInt8.ofNat (80 + n) := ⟨_, rfl⟩
      have hFe : F = (0, L ++ [c1, 174]) := by
        rw [HFv.out, if_pos H33.out, payL, HL.out, htk, ← Hc0.out, ← Hn.out, ← hc1]
      have HFe := Lib.hid hFe
      have hcode := code_any n (by omega) (by omega)
      rw [← hc1] at hcode
      have Hcode := Lib.hid hcode
      clear hFe hc1 hcode htk hkn
      go_wp2_with (first | (go_at_call 22; refine (Hcode.out _).mono ?_; rintro e w' ⟨rfl, hww⟩; rw [hww]; clear hww) | (at_builtin; go_loud (refine wpList_append_Ow (m := 2) (c := 2) (base := w.heap.size) (xs := B8 L) (v := .slice Al l cl) (A := some ⟨wr.heap.size, 0, none⟩) (B := wr.heap.size + 1) (news := [.int .u8 (c1.toNat : Int), .int .u8 174]) elB rfl (.tmp 45) (.tmp 48) rfl rfl (ho.alloc _) rfl (Sl.two' wr _ _ _) rfl (by simp; exact ⟨rfl, rfl⟩) (by rw [B8_length, ← Hl.out]; simp [maxLen]; omega) (by rw [B8_length, ← Hl.out]; omega) (by simp; omega) ?_); intro v3 w3 ho3 hg3 hr3))
      go_ret2
      rw [HFe.out]
      have e3 : B8 L ++ [.int .u8 (c1.toNat : Int), .int .u8 174] = B8 (L ++ [c1, 174]) := by simp [B8]
      rw [e3] at ho3
      exact ⟨_, rfl, ho3, push_below hb (Nat.le_refl _) ho hg3⟩
end Go.Proofs.YtkiigonikeeikaaGreatDoor
