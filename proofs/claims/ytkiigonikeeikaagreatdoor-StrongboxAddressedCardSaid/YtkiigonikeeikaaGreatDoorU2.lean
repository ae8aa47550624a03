/- hash.mix and bits.RotateLeft32: that they end with a word. | Regions that draw their order: one walk along a plan serves every order. The plan takes first what yields its value in every later world (its cells as they are now); what is left comes up alone. | hash.rounds.line: that it ends with five words. | hash.leftLine, hash.rightLine. -/
import Derived.Test.YtkiigonikeeikaaGreatDoorU1
import Derived.OrdersHeld
import Derived.OrdersIn
import Derived.Below
import Derived.Deep.Draws
import Derived.Great.Ranges
import Derived.Great.BuildSlice
import Derived.BigQuiet
import Derived.Shelf.RegionOpen
import Derived.Deep.QuietTactic
import Derived.StillTailTactics
import Derived.Deep.RegionHeld3
import Derived.Deep.RegionWith
import Derived.Deep.WholeRow

/-! hash.mix and bits.RotateLeft32: that they end with a word. -/
namespace Go.Proofs.YtkiigonikeeikaaGreatDoor
open Go.RowKit

theorem word_of (i : Int) (h0 : 0 ≤ i) (h1 : i < 4294967296) : ∃ x : BitVec 32, i = (x.toNat : Int) := ⟨BitVec.ofNat 32 i.toNat, by rw [BitVec.toNat_ofNat, Nat.mod_eq_of_lt (by omega)]; omega⟩

theorem sp_andNot (x y : BitVec 32) : bits .andNot .u32 (x.toNat : Int) (y.toNat : Int) = ((x &&& ~~~y).toNat : Int) := by
  rw [u32_andNot_nat _ _ x.isLt y.isLt, BitVec.toNat_and, BitVec.toNat_not]

set_option maxHeartbeats 1000000 in
theorem rotl32_any (x : BitVec 32) (m : Nat) (h2 : 0 < m) (h3 : m < 32) (w : World) :
    Calls Tryz.prog 85 #[.int .u32 (x.toNat : Int), .int .i64 m] w fun e w' => e = .returned (.int .u32 ((x.rotateLeft m).toNat : Int)) ∧ w' = w := by
  have hb : bits .and .u64 (m : Int) 31 = (m : Int) := by
    have : ∀ n : Fin 32, bits .and .u64 (n.val : Int) 31 = (n.val : Int) := by decide
    exact this ⟨m, h3⟩
  go_enter Tryz.func85, Tryz.ntmps85
  go_wp2
  go_ret
  exact ⟨by rw [← rotl_spell x m h2 h3]; rfl, rfl⟩

set_option maxHeartbeats 2000000 in
theorem mix_any (n : Nat) (hn : n ≤ 4) (b c d : BitVec 32) (w : World) :
    Calls Tryz.prog 86 #[.int .i64 n, .int .u32 (b.toNat : Int), .int .u32 (c.toNat : Int), .int .u32 (d.toNat : Int)] w fun e w' => (∃ x : BitVec 32, e = .returned (.int .u32 (x.toNat : Int))) ∧ w' = w := by
  have h : n = 0 ∨ n = 1 ∨ n = 2 ∨ n = 3 ∨ n = 4 := by omega
  rcases h with rfl | rfl | rfl | rfl | rfl
  all_goals
    go_enter Tryz.func86, Tryz.ntmps86
    go_wp2
    go_ret
    refine ⟨?_, rfl⟩
    (try simp only [sp_not, sp_and, sp_or, sp_xor, sp_andNot])
    exact ⟨_, rfl⟩
end Go.Proofs.YtkiigonikeeikaaGreatDoor

/-! Regions that draw their order: one walk along a plan serves every order. The plan takes first what yields its value in every later world (its cells as they are now); what is left comes up alone. -/
namespace Go.Proofs.YtkiigonikeeikaaGreatDoor
open Go Go.RowKit

/-- w with blocks behind its own, and some other count of draws. -/
def _root_.Go.World.ext (w : World) (objs : Array Obj) (d : Nat) : World := { w with heap := w.heap ++ objs, drawn := d }
/-- Whatever world in which the blocks of w are as they were. -/
def Ext (w w' : World) : Prop := ∃ objs d, w' = w.ext objs d
theorem ext_of_below {w w' : World} (h : Below w.heap.size w w') : Ext w w' := by
  refine ⟨w'.heap.extract w.heap.size w'.heap.size, w'.drawn, ?_⟩
  have hh : w'.heap = w.heap ++ w'.heap.extract w.heap.size w'.heap.size := by
    apply Array.ext_getElem?
    intro i
    by_cases hi : i < w.heap.size
    · rw [h.block i hi, Array.getElem?_append_left hi]
    · rw [Array.getElem?_append_right (by omega)]
      rw [Array.getElem?_extract]
      by_cases h2 : i < w'.heap.size
      · rw [if_pos (by omega)]; congr 1; omega
      · rw [if_neg (by omega), Array.getElem?_eq_none (by omega)]
  cases w' with | mk hp tp dr os ou =>
  cases w with | mk hp2 tp2 dr2 os2 ou2 =>
  obtain ⟨rfl, rfl, rfl⟩ : os = os2 ∧ tp = tp2 ∧ ou = ou2 := ⟨h.os, h.tape, h.output⟩
  simp only [World.ext] at hh ⊢
  rw [← hh]
theorem Ext.below {w w' : World} (h : Ext w w') : Below w.heap.size w w' := by
  obtain ⟨objs, d, rfl⟩ := h
  exact ⟨rfl, rfl, rfl, by simp [World.ext], fun k hk => by simp [World.ext, Array.getElem?_append_left hk]⟩
theorem Ext.refl (w : World) : Ext w w := ext_of_below (Below.refl _ _)
theorem Ext.trans {a b c : World} (h : Ext a b) (k : Ext b c) : Ext a c := ext_of_below (h.below.trans (k.below.mono h.below.size))
theorem ext_alloc (w : World) (o : Obj) : Ext w (w.alloc o) := ext_of_below ((Below.refl _ w).alloc (Nat.le_refl _) o)
theorem ext_alloc_drew (w : World) (o : Obj) : Ext w.drew (w.alloc o).drew := ext_of_below ⟨rfl, rfl, rfl, by simp, fun k hk => Below.heap_alloc w o k hk⟩
theorem Ext.drew {a b : World} (h : Ext a b) : Ext a b.drew := ext_of_below h.below.drew
theorem ext_of_below_drew {w w' : World} (h : Below w.heap.size w w') : Ext w.drew w' := ext_of_below ⟨h.os, h.tape, h.output, h.size, h.block⟩
@[go_sem] theorem cell?_ext (w : World) (objs : Array Obj) (d : Nat) (a : Addr) (h : (w.cell? a).isSome = true) : (w.ext objs d).cell? a = w.cell? a := by
  obtain ⟨v, hv⟩ := Option.isSome_iff_exists.1 h
  exact (Ext.below ⟨objs, d, rfl⟩).cell (World.block_lt_of_cell? w a hv)
@[go_sem] theorem frozen?_ext (w : World) (objs : Array Obj) (d : Nat) (a : Addr) (h : (w.cell? a).isSome = true) : (w.ext objs d).frozen? a = w.frozen? a := by
  obtain ⟨v, hv⟩ := Option.isSome_iff_exists.1 h
  exact (Ext.below ⟨objs, d, rfl⟩).frozen (World.block_lt_of_cell? w a hv)

section
variable {P : Program} {ops : Array Oper} {md : Region.Mode}

/-- What is asked of one operation's coming up: three laws that the plain walk and the fenced one both have. -/
structure StepLaws (P : Program) (ops : Array Oper) (Q : Act → World → Prop) (st : Nat → (Act → World → Prop) → Act → World → Prop) : Prop where
  mono : ∀ {i : Nat} {K K' : Act → World → Prop} {a : Act} {w : World}, (∀ a w, K a w → K' a w) → st i K a w → st i K' a w
  yield : ∀ {i : Nat} {o : Oper} {v : Value} {a : Act} {w : World} {K : Act → World → Prop} {S : World → Prop}, ops[i]? = some o → YieldsIf P ops S o v a → S w → K (a.put o.dst v) w → st i K a w
  put : ∀ {j : Nat} {oi oj : Oper} {v : Value} {a : Act} {w : World} {K : Act → World → Prop} {S : World → Prop}, ops[j]? = some oj → oi.apart ops oj = true → (∀ cs b, oi.op ≠ .select cs b) → (∀ cs b, oj.op ≠ .select cs b) →
    YieldsIf P ops S oi v a → st j K (a.put oi.dst v) w → st j (fun a' w' => YieldsIf P ops S oi v a' ∧ K (a'.put oi.dst v) w') a w

variable {Q : Act → World → Prop} {st : Nat → (Act → World → Prop) → Act → World → Prop} {N : Nat}

/-- Has the tail begun? -/
def tb (N : Nat) (listed : Array Bool) : Prop := ∃ t, N ≤ t ∧ listed.getD t false = true
theorem tb_set {N i : Nat} {listed : Array Bool} (hi : i < N) : tb N (listed.setIfInBounds i true) ↔ tb N listed := by
  unfold tb
  constructor
  · rintro ⟨t, ht, h⟩; exact ⟨t, ht, by rwa [getD_set_ne false (by omega)] at h⟩
  · rintro ⟨t, ht, h⟩; exact ⟨t, ht, getD_set_true h⟩
theorem tb_mono {N i : Nat} {listed : Array Bool} (h : tb N listed) : tb N (listed.setIfInBounds i true) := by
  obtain ⟨t, ht, h⟩ := h; exact ⟨t, ht, getD_set_true h⟩
def wpAnyS (md : Region.Mode) (ops : Array Oper) (Q : Act → World → Prop) (st : Nat → (Act → World → Prop) → Act → World → Prop) (N : Nat) (S : World → Prop) : Nat → Array Bool → Act → World → Prop
  | 0, listed, a, w => Region.ready md ops listed = [] ∧ Q a w
  | fuel + 1, listed, a, w => (Region.ready md ops listed = [] → Q a w) ∧
    ∀ i ∈ Region.ready md ops listed, st i (fun a' w' => (tb N (listed.setIfInBounds i true) ∨ S w') ∧ wpAnyS md ops Q st N S fuel (listed.setIfInBounds i true) a' w') a w

/-- Whatever has come up, all that it waits for has. -/
def Closed (md : Region.Mode) (ops : Array Oper) (listed : Array Bool) : Prop :=
  listed.size = ops.size ∧ ∀ j oj, ops[j]? = some oj → listed.getD j false = true → ∀ e ∈ oj.after, Region.binds md e = true → listed.getD e.on false = true
def anc (md : Region.Mode) (ops : Array Oper) : Nat → Nat → Nat → Bool
  | 0, _, _ => false
  | f + 1, j, i => match ops[j]? with
    | some oj => oj.after.any fun e => Region.binds md e && (e.on == i || anc md ops f e.on i)
    | none => false
theorem anc_listed {listed : Array Bool} (hc : Closed md ops listed) : ∀ (f j i : Nat), listed.getD j false = true → anc md ops f j i = true → listed.getD i false = true := by
  intro f
  induction f with
  | zero => intro j i _ h; cases h
  | succ f ih =>
    intro j i hj h
    unfold anc at h
    split at h
    · rename_i oj ho
      obtain ⟨e, he, hb⟩ := Array.any_eq_true'.1 h
      simp only [Bool.and_eq_true, Bool.or_eq_true, beq_iff_eq] at hb
      have hl := hc.2 j oj ho hj e he hb.1
      rcases hb.2 with rfl | h2
      · exact hl
      · exact ih e.on i hl h2
    · cases h
theorem anc_ready {listed : Array Bool} (hc : Closed md ops listed) {f j i : Nat} (hj : j ∈ Region.ready md ops listed) (h : anc md ops f j i = true) : listed.getD i false = true := by
  obtain ⟨_, o, ho, hall⟩ := mem_ready.1 hj
  cases f with
  | zero => cases h
  | succ f =>
    unfold anc at h
    simp only [ho] at h
    obtain ⟨e, he, hb⟩ := Array.any_eq_true'.1 h
    simp only [Bool.and_eq_true, Bool.or_eq_true, beq_iff_eq] at hb
    have hl := hall e he hb.1
    rcases hb.2 with rfl | h2
    · exact hl
    · exact anc_listed hc f e.on i hl h2
theorem Closed.set {listed : Array Bool} (hc : Closed md ops listed) {i : Nat} (hi : i ∈ Region.ready md ops listed) : Closed md ops (listed.setIfInBounds i true) := by
  obtain ⟨_, o, ho, hall⟩ := mem_ready.1 hi
  refine ⟨by simpa using hc.1, ?_⟩
  intro j oj hj hl e he hb
  by_cases hij : i = j
  · subst hij
    have : oj = o := Option.some.inj (hj.symm.trans ho)
    subst this
    exact getD_set_true (hall e he hb)
  · rw [getD_set_ne false hij] at hl
    exact getD_set_true (hc.2 j oj hj hl e he hb)
theorem unlisted_false {listed : Array Bool} {i : Nat} (h : listed.getD i true = false) : listed.getD i false = false := by
  rcases Nat.lt_or_ge i listed.size with h' | h'
  · simp [h'] at h ⊢; exact h
  · simp [Array.getElem?_eq_none h'] at h

theorem wpAnyS_weak (L : StepLaws P ops Q st) {S S' : World → Prop} (hS : ∀ w, S' w → S w) : ∀ (fuel : Nat) (listed : Array Bool) (a : Act) (w : World), wpAnyS md ops Q st N S' fuel listed a w → wpAnyS md ops Q st N S fuel listed a w
  | 0, _, _, _, h => h
  | fuel + 1, _, _, _, h => ⟨h.1, fun i hi => L.mono (fun a' w' h' => ⟨h'.1.imp id (hS _), wpAnyS_weak L hS fuel _ a' w' h'.2⟩) (h.2 i hi)⟩

/-- What keeps S at hand while i has not come up: the tail waits for i, or i asks nothing of the world. -/
theorem wpAnyS_first (L : StepLaws P ops Q st) {S S1 : World → Prop} {i : Nat} {oi : Oper} {v : Value} (hi : ops[i]? = some oi) (hsel : ∀ (j : Nat) (o : Oper) cs b, ops[j]? = some o → o.op ≠ .select cs b) (hiN : i < N)
    (hS1 : ∀ listed w, Closed md ops listed → listed.getD i true = false → tb N listed ∨ S w → S1 w) :
    ∀ (fuel : Nat) (listed : Array Bool) (a : Act) (w : World), Closed md ops listed →
      (∀ j oj, ops[j]? = some oj → j ≠ i → listed.getD j true = false → (∀ e ∈ oj.after, Region.binds md e = true → e.on ≠ i) → oi.apart ops oj = true) →
      i ∈ Region.ready md ops listed → YieldsIf P ops S1 oi v a → (tb N listed ∨ S w) →
      wpAnyS md ops Q st N S fuel (listed.setIfInBounds i true) (a.put oi.dst v) w → wpAnyS md ops Q st N S (fuel + 1) listed a w := by
  intro fuel
  induction fuel with
  | zero =>
    intro listed a w hcl hfree hr hy hS H
    refine ⟨fun h => (by rw [h] at hr; cases hr), fun j hj => ?_⟩
    by_cases hji : j = i
    · subst hji; exact L.yield hi hy (hS1 listed w hcl (mem_ready.1 hr).1 hS) ⟨hS.imp tb_mono id, H⟩
    · have := ready_mono hj hji
      rw [H.1] at this
      cases this
  | succ fuel ih =>
    intro listed a w hcl hfree hr hy hS H
    refine ⟨fun h => (by rw [h] at hr; cases hr), fun j hj => ?_⟩
    by_cases hji : j = i
    · subst hji; exact L.yield hi hy (hS1 listed w hcl (mem_ready.1 hr).1 hS) ⟨hS.imp tb_mono id, H⟩
    · have h1 := H.2 j (ready_mono hj hji)
      obtain ⟨hjun, oj, hoj, hall⟩ := mem_ready.1 hj
      have hnot : ∀ e ∈ oj.after, Region.binds md e = true → e.on ≠ i := fun e he hb heq => by
        have h1 := hall e he hb
        have h0 := (mem_ready.1 hr).1
        rw [heq] at h1
        rcases Nat.lt_or_ge i listed.size with h' | h'
        · simp [h'] at h0 h1; rw [h0] at h1; cases h1
        · simp [Array.getElem?_eq_none h'] at h1
      have h2 := L.put hoj (hfree j oj hoj hji hjun hnot) (fun cs b => hsel i oi cs b hi) (fun cs b => hsel j oj cs b hoj) hy h1
      have hfree' : ∀ k ok, ops[k]? = some ok → k ≠ i → (listed.setIfInBounds j true).getD k true = false →
          (∀ e ∈ ok.after, Region.binds md e = true → e.on ≠ i) → oi.apart ops ok = true := fun k ok hk hki hun hno => by
        refine hfree k ok hk hki ?_ hno
        by_cases hjk : j = k
        · subst hjk; exact hjun
        · rw [getD_set_ne true hjk] at hun; exact hun
      refine L.mono (fun a' w' h3 => ?_) h2
      have hS' : tb N (listed.setIfInBounds j true) ∨ S w' := by
        have := h3.2.1
        rw [Array.setIfInBounds_comm _ _ (Ne.symm hji), tb_set hiN] at this
        exact this
      refine ⟨hS', ih (listed.setIfInBounds j true) a' w' (hcl.set hj) hfree' (ready_mono hr (Ne.symm hji)) h3.1 hS' ?_⟩
      rw [Array.setIfInBounds_comm _ _ hji]
      exact h3.2.2

/-- The plan is one. 0: it asks nothing of the world; 1: it reads cells that lie ahead of the region, and the tail waits for it; 2: it comes up alone. -/
def planB (md : Region.Mode) (ops : Array Oper) (N : Nat) : List (Nat × Nat) → Array Bool → Bool
  | [], listed => Region.ready md ops listed == []
  | (i, k) :: rest, listed =>
    (if k = 0 then (Region.ready md ops listed).contains i && Region.free md ops listed i && decide (i < N)
     else if k = 1 then (Region.ready md ops listed).contains i && Region.free md ops listed i && decide (i < N) && ((List.range ops.size).all fun j => decide (j < N) || anc md ops ops.size j i)
     else (Region.ready md ops listed == [i]) && (decide (i < N) || rest.all fun p => decide (2 ≤ p.2) && decide (N ≤ p.1))) && planB md ops N rest (listed.setIfInBounds i true)

def wpPlan (P : Program) (ops : Array Oper) (Q : Act → World → Prop) (st : Nat → (Act → World → Prop) → Act → World → Prop) (N : Nat) : List (Nat × Nat) → Act → World → Prop
  | [], a, w => Q a w
  | (i, k) :: rest, a, w =>
    if k = 0 then (match ops[i]? with
      | none => False
      | some o => ∃ v, YieldsIf P ops (fun _ => True) o v a ∧ wpPlan P ops Q st N rest (a.put o.dst v) w)
    else if k = 1 then (match ops[i]? with
      | none => False
      | some o => ∃ v, YieldsIf P ops (Ext w) o v a ∧ wpPlan P ops Q st N rest (a.put o.dst v) w)
    else st i (fun a' w' => (N ≤ i ∨ Ext w w') ∧ wpPlan P ops Q st N rest a' w') a w

theorem tail_sound (L : StepLaws P ops Q st) {S : World → Prop} : ∀ (plan : List (Nat × Nat)) (listed : Array Bool) (a : Act) (w : World) (extra : Nat),
    planB md ops N plan listed = true → (plan.all fun p => decide (2 ≤ p.2) && decide (N ≤ p.1)) = true → listed.size = ops.size → wpPlan P ops Q st N plan a w → wpAnyS md ops Q st N S (plan.length + extra) listed a w
  | [], listed, a, w, extra, hB, _, _, h => by
    have hr : Region.ready md ops listed = [] := by simpa [planB] using hB
    cases extra with
    | zero => exact ⟨hr, h⟩
    | succ e => exact ⟨fun _ => h, by rw [hr]; simp⟩
  | (i, k) :: rest, listed, a, w, extra, hB, hA, hsz, h => by
    simp only [List.all_cons, Bool.and_eq_true, decide_eq_true_eq] at hA
    have hk0 : ¬ k = 0 := by omega
    have hk1 : ¬ k = 1 := by omega
    simp only [planB, hk0, hk1, if_false, Bool.and_eq_true] at hB
    obtain ⟨⟨hr, _⟩, hrest⟩ := hB
    have hr : Region.ready md ops listed = [i] := by simpa using hr
    rw [List.length_cons, show rest.length + 1 + extra = rest.length + extra + 1 by omega]
    refine ⟨fun h0 => (by rw [h0] at hr; cases hr), fun j hj => ?_⟩
    rw [hr] at hj
    obtain rfl : j = i := by simpa using hj
    have hlt : j < listed.size := by
      have hj' : j ∈ Region.ready md ops listed := by rw [hr]; simp
      obtain ⟨_, o, ho, _⟩ := mem_ready.1 hj'
      rw [hsz]; exact (Array.getElem?_eq_some_iff.1 ho).1
    simp only [wpPlan, hk0, hk1, if_false] at h
    exact L.mono (fun a' w' h' => ⟨.inl ⟨j, hA.1.2, by simp [hlt]⟩, tail_sound L rest _ a' w' extra hrest (by simpa using hA.2) (by simpa using hsz) h'.2⟩) h

theorem plan_sound (L : StepLaws P ops Q st) (hsel : Region.noSelect ops = true) : ∀ (plan : List (Nat × Nat)) (listed : Array Bool) (a : Act) (w w0 : World) (extra : Nat),
    planB md ops N plan listed = true → Closed md ops listed → listed.size = ops.size → Ext w0 w → wpPlan P ops Q st N plan a w → wpAnyS md ops Q st N (Ext w0) (plan.length + extra) listed a w
  | [], listed, a, w, w0, extra, hB, _, _, _, h => by
    have hr : Region.ready md ops listed = [] := by simpa [planB] using hB
    cases extra with
    | zero => exact ⟨hr, h⟩
    | succ e => exact ⟨fun _ => h, by rw [hr]; simp⟩
  | (i, k) :: rest, listed, a, w, w0, extra, hB, hcl, hsz, hE, h => by
    have hB0 := hB
    by_cases hk0 : k = 0
    · simp only [planB, hk0, if_true, Bool.and_eq_true, decide_eq_true_eq] at hB
      obtain ⟨⟨⟨hr, hf⟩, hiN⟩, hrest⟩ := hB
      have hr' : i ∈ Region.ready md ops listed := by simpa using hr
      simp only [wpPlan, hk0, if_true] at h
      split at h
      · exact h.elim
      · rename_i o ho
        obtain ⟨v, hy, hK⟩ := h
        have hrec := plan_sound L hsel rest (listed.setIfInBounds i true) (a.put o.dst v) w w0 extra hrest (hcl.set hr') (by simpa using hsz) hE hK
        have h1 := wpAnyS_first L (S := Ext w0) (S1 := fun _ => True) ho (Region.noSelect_spec hsel) hiN (fun _ _ _ _ _ => trivial) (rest.length + extra) listed a w hcl (Region.free_spec ho hf) hr' hy (.inr hE) hrec
        rw [List.length_cons, show rest.length + 1 + extra = rest.length + extra + 1 by omega]
        exact h1
    by_cases hk1 : k = 1
    · subst hk1
      simp only [planB, if_true, Bool.and_eq_true, decide_eq_true_eq, Nat.one_ne_zero, if_false] at hB
      obtain ⟨⟨⟨⟨hr, hf⟩, hiN⟩, hanc⟩, hrest⟩ := hB
      have hr' : i ∈ Region.ready md ops listed := by simpa using hr
      simp only [wpPlan, if_true, Nat.one_ne_zero, if_false] at h
      split at h
      · exact h.elim
      · rename_i o ho
        obtain ⟨v, hy, hK⟩ := h
        have hrec := plan_sound L hsel rest (listed.setIfInBounds i true) (a.put o.dst v) w w extra hrest (hcl.set hr') (by simpa using hsz) (Ext.refl w) hK
        have h1 := wpAnyS_first L (S := Ext w) (S1 := Ext w) ho (Region.noSelect_spec hsel) hiN (fun l w' hc hu ht => by
          rcases ht with ⟨t, ht, hl⟩ | h
          · exfalso
            have hts : t < ops.size ∨ ¬ t < ops.size := Decidable.em _
            rcases hts with hts | hts
            · have := List.all_eq_true.1 hanc t (List.mem_range.2 hts)
              simp only [Bool.or_eq_true, decide_eq_true_eq] at this
              have := anc_listed hc _ _ _ hl (this.resolve_left (by omega))
              rw [unlisted_false hu] at this
              cases this
            · -- a listed place beyond the operations: closed lists bear none that matter
              rw [show l.getD t false = false by simp [Array.getElem?_eq_none (show l.size ≤ t by rw [hc.1]; omega)]] at hl
              cases hl
          · exact h) (rest.length + extra) listed a w hcl (Region.free_spec ho hf) hr' hy (.inr (Ext.refl w)) hrec
        rw [List.length_cons, show rest.length + 1 + extra = rest.length + extra + 1 by omega]
        exact wpAnyS_weak L (fun w' hw' => hE.trans hw') _ _ _ _ h1
    · simp only [planB, hk0, hk1, if_false, Bool.and_eq_true] at hB
      obtain ⟨⟨hr, ht⟩, hrest⟩ := hB
      by_cases hiN : N ≤ i
      · refine tail_sound L ((i, k) :: rest) listed a w extra hB0 ?_ hsz h
        simp only [Bool.or_eq_true, decide_eq_true_eq] at ht
        have := ht.resolve_left (by omega)
        simp only [List.all_cons, this, hiN, decide_true, Bool.and_true, decide_eq_true_eq]
        omega
      have hr : Region.ready md ops listed = [i] := by simpa using hr
      have hr' : i ∈ Region.ready md ops listed := by rw [hr]; simp
      rw [List.length_cons, show rest.length + 1 + extra = rest.length + extra + 1 by omega]
      refine ⟨fun h0 => (by rw [h0] at hr; cases hr), fun j hj => ?_⟩
      rw [hr] at hj
      obtain rfl : j = i := by simpa using hj
      simp only [wpPlan, hk0, hk1, if_false] at h
      refine L.mono (fun a' w' h' => ?_) h
      have hE' := hE.trans (h'.1.resolve_left hiN)
      exact ⟨.inr hE', plan_sound L hsel rest _ a' w' w0 extra hrest (hcl.set hr') (by simpa using hsz) hE' h'.2⟩

/-! ### The steps of a walk -/
/-- One value, in every world that has the cells of w. -/
def stillUpon (w : World) (v : Value) : Result Next → Prop
  | .ok (.value u) w' => w' = w ∧ u = v
  | _ => False
def stillOp (P : Program) (o : Oper) (a : Act) (w : World) (K : Act → Prop) : Prop := ∃ v, (∀ objs d, stillUpon (w.ext objs d) v ((execOp a.eval o).run P (w.ext objs d))) ∧ K (a.put o.dst v)
def pureOp (P : Program) (o : Oper) (a : Act) (K : Act → Prop) : Prop := ∃ v, (∀ W, stillUpon W v ((execOp a.eval o).run P W)) ∧ K (a.put o.dst v)
theorem wpPlan_pure {i : Nat} {rest : List (Nat × Nat)} {o : Oper} {a : Act} {w : World} (ho : ops[i]? = some o)
    (h : ∀ K : Act → Prop, (∀ a, wpPlan P ops Q st N rest a w → K a) → if Region.wanted o (yielded ops a.tmps) then pureOp P o a K else K (a.put o.dst undef)) :
    wpPlan P ops Q st N ((i, 0) :: rest) a w := by
  have h := h _ (fun _ h => h)
  simp only [wpPlan, if_true, ho]
  split at h
  · rename_i hw
    obtain ⟨v, hv, hK⟩ := h
    refine ⟨v, .inl ⟨hw, fun w' _ => ?_⟩, hK⟩
    have := hv w'
    generalize (execOp a.eval o).run P w' = r at *
    cases r with
    | ok n w' => cases n <;> simp only [stillUpon] at this
                 obtain ⟨rfl, rfl⟩ := this; rfl
    | halt x w' => simp only [stillUpon] at this
  · rename_i hw
    exact ⟨undef, .inr ⟨by simpa using hw, rfl⟩, h⟩
theorem wpPlan_quiet {i : Nat} {rest : List (Nat × Nat)} {o : Oper} {a : Act} {w : World} (ho : ops[i]? = some o)
    (h : ∀ K : Act → Prop, (∀ a, wpPlan P ops Q st N rest a w → K a) → if Region.wanted o (yielded ops a.tmps) then stillOp P o a w K else K (a.put o.dst undef)) :
    wpPlan P ops Q st N ((i, 1) :: rest) a w := by
  have h := h _ (fun _ h => h)
  simp only [wpPlan, if_true, ho, Nat.one_ne_zero, if_false]
  split at h
  · rename_i hw
    obtain ⟨v, hv, hK⟩ := h
    refine ⟨v, .inl ⟨hw, fun w' hw' => ?_⟩, hK⟩
    obtain ⟨objs, d, rfl⟩ := hw'
    have := hv objs d
    generalize (execOp a.eval o).run P (w.ext objs d) = r at *
    cases r with
    | ok n w' => cases n <;> simp only [stillUpon] at this
                 obtain ⟨rfl, rfl⟩ := this; rfl
    | halt x w' => simp only [stillUpon] at this
  · rename_i hw
    exact ⟨undef, .inr ⟨by simpa using hw, rfl⟩, h⟩
theorem wpPlan_nil {a : Act} {w : World} (h : Q a w) : wpPlan P ops Q st N [] a w := h
end
attribute [go_sem] stillOp stillUpon pureOp

section
variable {P : Program} {ops : Array Oper} {N : Nat}
/-! ### The plain walk -/
theorem plainLaws (Q : Exit → Act → World → Prop) (hQ : ∀ c a d v w, Q (.panic c) (Act.put a d v) w → Q (.panic c) a w) : StepLaws P ops (Q .normal) (fun i K a w => wpOp P ops Q i K a w) :=
  ⟨fun h hh => wpOp_mono h hh, fun ho hy hS hK => hy.wpOp ho hS hK, fun hj hap hsi hsj hy h => wpOp_putIf hj hap hsi hsj (fun c a w h => hQ c _ _ _ w h) hy h⟩
theorem wpAny_of_S {Q : Exit → Act → World → Prop} {S : World → Prop} : ∀ (fuel : Nat) (listed : Array Bool) (a : Act) (w : World), wpAnyS .any ops (Q .normal) (fun i K a w => wpOp P ops Q i K a w) N S fuel listed a w → wpAny P .any ops Q fuel listed a w
  | 0, _, _, _, h => h
  | fuel + 1, _, _, _, h => ⟨h.1, fun i hi => wpOp_mono (fun a' w' h' => wpAny_of_S fuel _ a' w' h'.2) (h.2 i hi)⟩
/-- **A region that draws, along a plan.** -/
theorem wp_region_plan {id : Nat} {Q : Exit → Act → World → Prop} {a : Act} {w : World} {l : List Oper} (plan : List (Nat × Nat)) (N : Nat) (hm : P.follows .mixedOrders = true)
    (hB : (Region.noSelect l.toArray && decide (plan.length = l.length) && planB .any l.toArray N plan (Array.replicate l.length false)) = true) (hQ : ∀ c a d v w, Q (.panic c) (Act.put a d v) w → Q (.panic c) a w)
    (h : wpPlan P l.toArray (Q .normal) (fun i K a w => wpOp P l.toArray Q i K a w) N plan a w.drew) : (Code.region id l.toArray true).wp P Q a w := by
  simp only [Bool.and_eq_true, decide_eq_true_eq] at hB
  refine wp_region_any hm ?_
  have := plan_sound (plainLaws Q hQ) hB.1.1 plan (Array.replicate l.length false) a w.drew w.drew 0 hB.2 ⟨by simp, fun j oj hj hl => by
    rcases Nat.lt_or_ge j l.length with h | h
    · simp [h] at hl
    · simp [h] at hl⟩ (by simp) (Ext.refl _) h
  rw [Nat.add_zero, hB.1.2] at this
  have := wpAny_of_S _ _ _ _ this
  simpa using this
theorem wpPlan_loud {i : Nat} {rest : List (Nat × Nat)} {o : Oper} {a : Act} {w : World} {Q : Exit → Act → World → Prop} (ho : ops[i]? = some o) (hg : o.guard = none)
    (h : ∀ K : Act → World → Prop, (∀ a' w', ((N ≤ i ∨ Ext w w') ∧ wpPlan P ops (Q .normal) (fun i K a w => wpOp P ops Q i K a w) N rest a' w') → K a' w') → o.wp P a w K Q) :
    wpPlan P ops (Q .normal) (fun i K a w => wpOp P ops Q i K a w) N ((i, 2) :: rest) a w := by
  simp only [wpPlan, show ¬ (2 = 0) by decide, show ¬ (2 = 1) by decide, if_false, wpOp, ho, Region.wanted, hg, if_true]
  exact .inl (h _ (fun _ _ h => h))

/-! ### The fenced walk, in a round or not, where the fence lets every function by -/
def Region.noDefer (ops : Array Oper) : Bool := ops.all fun o => match o.op with | .defer _ => false | _ => true
theorem noDefer_spec (h : Region.noDefer ops = true) (j : Nat) (o : Oper) (ho : ops[j]? = some o) : ∀ c, o.op ≠ .defer c := by
  intro c heq
  have := Array.all_eq_true_iff_forall_mem.1 h o (Array.mem_of_getElem? ho)
  simp [heq] at this
variable {F : Fence} {n : Nat}
theorem YieldsIf.wpOpIn {S : World → Prop} {Q : Exit → Act → World → Prop} (hF : ∀ k, F.fn k) (hnd : Region.noDefer ops = true) {i : Nat} {o : Oper} {v : Value} {a : Act} (hi : ops[i]? = some o) (hy : YieldsIf P ops S o v a)
    {K : Act → World → Prop} {w : World} (hS : S w) (h : K (a.put o.dst v) w) : wpOpIn F n P ops Q i K a w := by
  unfold Go.wpOpIn
  simp only [hi]
  rcases hy with ⟨hw, hv⟩ | ⟨hw, rfl⟩
  · simp only [hw, if_true, Oper.wpIn, Oper.semAt_eq _ _ _ (noDefer_spec hnd i o hi), hv w hS, Oper.uponIn]; exact ⟨fun f _ => hF f, h⟩
  · simp only [hw, Bool.false_eq_true, if_false]; exact ⟨fun f _ => hF f, h⟩
theorem wpOpIn_putIf {S : World → Prop} {Q : Exit → Act → World → Prop} (hF : ∀ k, F.fn k) (hnd : Region.noDefer ops = true) {j : Nat} {oi oj : Oper} {v : Value} (hj : ops[j]? = some oj) (hap : oi.apart ops oj = true)
    (hsi : ∀ cs b, oi.op ≠ .select cs b) (hsj : ∀ cs b, oj.op ≠ .select cs b)
    (hQ : ∀ c a d v w, Q (.panic c) (Act.put a d v) w → Q (.panic c) a w) {K : Act → World → Prop} {a : Act} {w : World}
    (hy : YieldsIf P ops S oi v a) (h : wpOpIn F n P ops Q j K (a.put oi.dst v) w) :
    wpOpIn F n P ops Q j (fun a' w' => YieldsIf P ops S oi v a' ∧ K (a'.put oi.dst v) w') a w := by
  obtain ⟨h1, h2, h3⟩ := Oper.apart_spec hap
  have keep : ∀ (a : Act), YieldsIf P ops S oi v a → ∀ u, YieldsIf P ops S oi v (a.put oj.dst u) := fun a hy u =>
    hy.of_same (execOp_put oi hsi a oj.dst u h3) (wanted_put oi a oj.dst u h3)
  have keepD : ∀ d, YieldsIf P ops S oi v { a with defers := d :: a.defers } := fun d => hy.of_same rfl rfl
  have hnj := noDefer_spec hnd j oj hj
  unfold wpOpIn at *
  simp only [hj] at *
  rw [wanted_put oj a oi.dst v h1] at h
  split
  · rename_i hw
    simp only [hw, if_true] at h
    unfold Oper.wpIn at *
    refine ⟨fun f _ => hF f, ?_⟩
    have h := h.2
    rw [Oper.semAt_eq _ _ _ hnj] at h ⊢
    rw [execOp_put oj hsj a oi.dst v h1] at h
    generalize (execOp a.eval oj).run P w = r at *
    cases r with
    | ok m w' =>
      cases m <;> simp only [Oper.uponIn] at h ⊢
      case value u => exact ⟨keep a hy u, by rw [← Act.put_comm a v u h2]; exact h⟩
      case skip => exact ⟨keep a hy _, by rw [← Act.put_comm a v undef h2]; exact h⟩
      case defer d =>
        refine ⟨keep _ (keepD d) _, ?_⟩
        rw [← Act.put_comm _ v undef h2, ← Act.put_defers]
        exact h
      case enter f args =>
        refine ⟨h.1, CallsIn.mono h.2 fun e w'' he => ?_⟩
        cases e with
        | returned u => exact ⟨keep a hy u, by rw [← Act.put_comm a v u h2]; exact he⟩
        | panicked c => exact hQ _ _ _ _ _ he
        | outgrown => exact he
      case row row args => exact ⟨h.1, RowsIn.mono h.2 fun u w'' he => ⟨keep a hy u, by rw [← Act.put_comm a v u h2]; exact he⟩⟩
      case round =>
        refine ⟨h.1, RoundIn.mono h.2 fun e w'' he => ?_⟩
        cases e with
        | returned u => exact ⟨keep a hy u, by rw [← Act.put_comm a v u h2]; exact he⟩
        | panicked c => exact hQ _ _ _ _ _ he
        | outgrown => exact he
    | halt x w' =>
      cases x <;> simp only [Oper.uponIn] at h ⊢
      case panic u => exact hQ _ _ _ _ _ h
  · rename_i hw
    simp only [hw] at h
    exact ⟨fun f _ => hF f, keep a hy _, by rw [← Act.put_comm a v undef h2]; exact h.2⟩
theorem fencedLaws (Q : Exit → Act → World → Prop) (hF : ∀ k, F.fn k) (hnd : Region.noDefer ops = true) (hQ : ∀ c a d v w, Q (.panic c) (Act.put a d v) w → Q (.panic c) a w) : StepLaws P ops (Q .normal) (fun i K a w => wpOpIn F n P ops Q i K a w) :=
  ⟨fun h hh => wpOpIn_mono h hh, fun ho hy hS hK => YieldsIf.wpOpIn hF hnd ho hy hS hK, fun hj hap hsi hsj hy h => wpOpIn_putIf hF hnd hj hap hsi hsj hQ hy h⟩
theorem wpAnyIn_of_S {Q : Exit → Act → World → Prop} {S : World → Prop} : ∀ (fuel : Nat) (listed : Array Bool) (a : Act) (w : World), wpAnyS .any ops (Q .normal) (fun i K a w => wpOpIn F n P ops Q i K a w) N S fuel listed a w → wpAnyIn F n P .any ops Q fuel listed a w
  | 0, _, _, _, h => h
  | fuel + 1, _, _, _, h => ⟨h.1, fun i hi => wpOpIn_mono (fun a' w' h' => wpAnyIn_of_S fuel _ a' w' h'.2) (h.2 i hi)⟩
theorem wpIn_region_plan {id : Nat} {Q : Exit → Act → World → Prop} {a : Act} {w : World} {l : List Oper} (plan : List (Nat × Nat)) (N : Nat) (hF : ∀ k, F.fn k) (hm : P.follows .mixedOrders = true)
    (hB : (Region.noSelect l.toArray && Region.noDefer l.toArray && decide (plan.length = l.length) && planB .any l.toArray N plan (Array.replicate l.length false)) = true) (hQ : ∀ c a d v w, Q (.panic c) (Act.put a d v) w → Q (.panic c) a w)
    (h : wpPlan P l.toArray (Q .normal) (fun i K a w => wpOpIn F n P l.toArray Q i K a w) N plan a w.drew) : (Code.region id l.toArray true).wpIn F n P Q a w := by
  simp only [Bool.and_eq_true, decide_eq_true_eq] at hB
  refine wpIn_region_any hm ?_
  have := plan_sound (fencedLaws (F := F) (n := n) Q hF hB.1.1.2 hQ) hB.1.1.1 plan (Array.replicate l.length false) a w.drew w.drew 0 hB.2 ⟨by simp, fun j oj hj hl => by
    rcases Nat.lt_or_ge j l.length with h | h
    · simp [h] at hl
    · simp [h] at hl⟩ (by simp) (Ext.refl _) h
  rw [Nat.add_zero, hB.1.2] at this
  have := wpAnyIn_of_S _ _ _ _ this
  simpa using this
theorem wpPlanIn_loud {i : Nat} {rest : List (Nat × Nat)} {o : Oper} {a : Act} {w : World} {Q : Exit → Act → World → Prop} (ho : ops[i]? = some o) (hg : o.guard = none)
    (h : ∀ K : Act → World → Prop, (∀ a' w', ((N ≤ i ∨ Ext w w') ∧ wpPlan P ops (Q .normal) (fun i K a w => wpOpIn F n P ops Q i K a w) N rest a' w') → K a' w') → o.wpIn F n P a w K Q) :
    wpPlan P ops (Q .normal) (fun i K a w => wpOpIn F n P ops Q i K a w) N ((i, 2) :: rest) a w := by
  simp only [wpPlan, show ¬ (2 = 0) by decide, show ¬ (2 = 1) by decide, if_false, wpOpIn, ho, Region.wanted, hg, if_true]
  exact h _ (fun _ _ h => h)
end
end Go.Proofs.YtkiigonikeeikaaGreatDoor

/-! hash.rounds.line: that it ends with five words. -/
namespace Go.Proofs.YtkiigonikeeikaaGreatDoor
open Go.RowKit Go.Shelf

/-- A line's tables, as cells. -/
def lineC (rs ss : List Nat) (ks : List (BitVec 32)) : List Value := rs.map (fun r => .int .i64 (r : Int)) ++ ss.map (fun r => .int .i64 (r : Int)) ++ W32 ks
theorem lineC_length {rs ss : List Nat} {ks : List (BitVec 32)} (hr : rs.length = 80) (hs : ss.length = 80) (hk : ks.length = 5) : (lineC rs ss ks).length = 165 := by simp [lineC, hr, hs, hk]
theorem lineC_r {rs ss : List Nat} {ks : List (BitVec 32)} (hr : rs.length = 80) (k : Nat) (h : k < 80) : (lineC rs ss ks)[k]? = some (.int .i64 ((rs.getD k 0 : Nat) : Int)) := by
  unfold lineC
  rw [List.append_assoc, List.getElem?_append_left (by simp; omega)]
  simp [show k < rs.length by omega]
theorem lineC_s {rs ss : List Nat} {ks : List (BitVec 32)} (hr : rs.length = 80) (hs : ss.length = 80) (k : Nat) (h : k < 80) : (lineC rs ss ks)[80 + k]? = some (.int .i64 ((ss.getD k 0 : Nat) : Int)) := by
  unfold lineC
  rw [List.getElem?_append_left (by simp; omega), List.getElem?_append_right (by simp; omega)]
  simp [hr, show k < ss.length by omega]
theorem lineC_k {rs ss : List Nat} {ks : List (BitVec 32)} (hr : rs.length = 80) (hs : ss.length = 80) (hk : ks.length = 5) (k : Nat) (h : k < 5) : (lineC rs ss ks)[160 + k]? = some (.int .u32 ((ks.getD k 0).toNat : Int)) := by
  unfold lineC
  rw [List.getElem?_append_right (by simp; omega), W32_get?]
  simp [hr, hs, show k < ks.length by omega]

theorem w32_one (xs : List (BitVec 32)) : (W32 xs).toArray.all (·.oneCell') = true := by simp [W32]; intro x _; rfl
theorem five_words (st : List (BitVec 32)) (h : st.length = 5) : ∃ a b c d e, st = [a, b, c, d, e] := by
  match st, h with
  | [a, b, c, d, e], _ => exact ⟨a, b, c, d, e, rfl⟩

theorem row_old {w : World} {o o' : Obj} {k : Nat} (h : w.heap[k]? = some o) : (w.alloc o').heap[k]? = some o :=
  (Below.heap_alloc w o' k (Array.getElem?_eq_some_iff.1 h).1).trans h
theorem rows4 (w : World) (o1 o2 o3 o4 : Obj) : ((((w.alloc o1).alloc o2).alloc o3).alloc o4).heap[w.heap.size]? = some o1 ∧ ((((w.alloc o1).alloc o2).alloc o3).alloc o4).heap[w.heap.size + 1]? = some o2 ∧
    ((((w.alloc o1).alloc o2).alloc o3).alloc o4).heap[w.heap.size + 1 + 1]? = some o3 ∧ ((((w.alloc o1).alloc o2).alloc o3).alloc o4).heap[w.heap.size + 1 + 1 + 1]? = some o4 := by
  have h1 := heap_alloc_new w o1
  have h2 := heap_alloc_new (w.alloc o1) o2
  have h3 := heap_alloc_new ((w.alloc o1).alloc o2) o3
  have h4 := heap_alloc_new (((w.alloc o1).alloc o2).alloc o3) o4
  simp only [World.size_alloc] at h2 h3 h4
  exact ⟨row_old (row_old (row_old h1)), row_old (row_old h2), row_old h3, h4⟩

set_option maxRecDepth 100000 in
set_option maxHeartbeats 8000000 in
theorem line_any (rs ss : List Nat) (ks : List (BitVec 32)) (hr : rs.length = 80) (hs : ss.length = 80) (hk : ks.length = 5) (hr1 : ∀ k, k < 80 → rs.getD k 0 < 16) (hs1 : ∀ k, k < 80 → 0 < ss.getD k 0 ∧ ss.getD k 0 < 32)
    (st xs : List (BitVec 32)) (hst : st.length = 5) (hxs : xs.length = 16) (t : Bool) (w : World) :
    Calls Tryz.prog 66 #[.agg (lineC rs ss ks).toArray, .agg (W32 st).toArray, .agg (W32 xs).toArray, .bool t] w fun e W' => (∃ st' : List (BitVec 32), st'.length = 5 ∧ e = .returned (.agg (W32 st').toArray)) ∧ Below w.heap.size w W' := by
  obtain ⟨T, hT⟩ : ∃ T, T = (lineC rs ss ks).toArray := ⟨_, rfl⟩
  obtain ⟨X, hX⟩ : ∃ X, X = (W32 xs).toArray := ⟨_, rfl⟩
  obtain ⟨C, hC⟩ : ∃ C, C = (W32 st).toArray := ⟨_, rfl⟩
  have hTr : ∀ k, k < 80 → T[k]? = some (.int .i64 ((rs.getD k 0 : Nat) : Int)) := fun k h => by rw [hT, List.getElem?_toArray]; exact lineC_r hr k h
  have hTs : ∀ k, k < 80 → T[80 + k]? = some (.int .i64 ((ss.getD k 0 : Nat) : Int)) := fun k h => by rw [hT, List.getElem?_toArray]; exact lineC_s hr hs k h
  have hTk : ∀ k, k < 5 → T[160 + k]? = some (.int .u32 ((ks.getD k 0).toNat : Int)) := fun k h => by rw [hT, List.getElem?_toArray]; exact lineC_k hr hs hk k h
  have hXx : ∀ k, k < 16 → X[k]? = some (.int .u32 ((xs.getD k 0).toNat : Int)) := fun k h => by rw [hX, List.getElem?_toArray, W32_get?]; simp [show k < xs.length by omega]
  have HTr := Lib.hid hTr
  have HTs := Lib.hid hTs
  have HTk := Lib.hid hTk
  have HXx := Lib.hid hXx
  have Hr1 := Lib.hid hr1
  have Hs1 := Lib.hid hs1
  have HC := Lib.hid hC
  rw [← hT, ← hX, ← hC]
  clear hTr hTs hTk hXx hr1 hs1 hT hX hC hr hs hk hxs
  go_enter Tryz.func66, Tryz.ntmps66
  go_wp2_with (first | (refine wpList_boxTo rfl 112 (.tmp 0) rfl _ rfl w.heap.size rfl T rfl ?_) | (refine wpList_boxTo rfl 108 (.tmp 1) rfl _ rfl (w.heap.size + 1) (by simp) C rfl ?_) | (refine wpList_boxTo rfl 114 (.tmp 2) rfl _ rfl (w.heap.size + 2) (by simp) X rfl ?_))
  have h4 := rows4 w (.cells T 112) (.cells C 108) (.cells X 114) (.cells #[.int .u32 0, .int .u32 0, .int .u32 0, .int .u32 0, .int .u32 0] 108)
  have hb0 : Below w.heap.size w ((((w.alloc (.cells T 112)).alloc (.cells C 108)).alloc (.cells X 114)).alloc (.cells #[.int .u32 0, .int .u32 0, .int .u32 0, .int .u32 0, .int .u32 0] 108)) :=
    ((((Below.refl _ w).alloc (Nat.le_refl _) _).alloc (by simp) _).alloc (by simp; omega) _).alloc (by simp; omega) _
  obtain ⟨W0, hW0⟩ : ∃ W0, W0 = ((((w.alloc (.cells T 112)).alloc (.cells C 108)).alloc (.cells X 114)).alloc (.cells #[.int .u32 0, .int .u32 0, .int .u32 0, .int .u32 0, .int .u32 0] 108)) := ⟨_, rfl⟩
  rw [← hW0] at h4 hb0 ⊢
  obtain ⟨gT, gC, gX, gO⟩ := h4
  rw [HC.out] at gC
  clear hW0
  obtain ⟨B, hB⟩ : ∃ B, B = w.heap.size := ⟨_, rfl⟩
  have hBle : w.heap.size ≤ B := by omega
  rw [← hB] at gT gC gX gO ⊢
  have HB := Lib.hid hB
  clear hB
  go_loopw [13] (fun i wr => ∃ k : Nat, k ≤ 80 ∧ i = .int .i64 k ∧ (∃ s : List (BitVec 32), s.length = 5 ∧ wr.heap[B + 1]? = some (.cells (W32 s).toArray 108 (0, 0))) ∧ wr.heap[B]? = some (.cells T 112 (0, 0)) ∧ wr.heap[B + 1 + 1]? = some (.cells X 114 (0, 0)) ∧
    wr.heap[B + 1 + 1 + 1]? = some (.cells #[.int .u32 0, .int .u32 0, .int .u32 0, .int .u32 0, .int .u32 0] 108 (0, 0)) ∧ Below w.heap.size w wr) (fun i _ => 80 - (intOf i).toNat)
  case atStart => exact ⟨0, by omega, rfl, ⟨st, hst, gC⟩, gT, gX, gO, hb0⟩
  case round =>
    clear gT gC gX gO hb0
    obtain ⟨k, hk, rfl, ⟨s, hs, gC⟩, gT, gX, gO, hb⟩ := hrel
    by_cases hlt : k < 80
    · obtain ⟨a, b, c, d, e, rfl⟩ := five_words s hs
      obtain ⟨m, hm⟩ : ∃ m, m = k / 16 := ⟨_, rfl⟩
      have hm5 : m < 5 := by omega
      have hmI : (k : Int) / 16 = (m : Int) := by omega
      have c0 : wr.cell? ⟨B + 1, 0, none⟩ = some (.int .u32 (a.toNat : Int)) := cell_of_row _ _ 0 _ _ (0, 0) gC
      have c1 : wr.cell? ⟨B + 1, 1, none⟩ = some (.int .u32 (b.toNat : Int)) := cell_of_row _ _ 1 _ _ (0, 0) gC
      have c2 : wr.cell? ⟨B + 1, 2, none⟩ = some (.int .u32 (c.toNat : Int)) := cell_of_row _ _ 2 _ _ (0, 0) gC
      have c3 : wr.cell? ⟨B + 1, 3, none⟩ = some (.int .u32 (d.toNat : Int)) := cell_of_row _ _ 3 _ _ (0, 0) gC
      have c4 : wr.cell? ⟨B + 1, 4, none⟩ = some (.int .u32 (e.toNat : Int)) := cell_of_row _ _ 4 _ _ (0, 0) gC
      obtain ⟨r, hr⟩ : ∃ r, r = rs.getD k 0 := ⟨_, rfl⟩
      have hr16 : r < 16 := by rw [hr]; exact Hr1.out k hlt
      obtain ⟨sh, hsh⟩ : ∃ sh, sh = ss.getD k 0 := ⟨_, rfl⟩
      have hsh1 : 0 < sh := by rw [hsh]; exact (Hs1.out k hlt).1
      have hsh2 : sh < 32 := by rw [hsh]; exact (Hs1.out k hlt).2
      obtain ⟨kk, hkk⟩ : ∃ kk, kk = ks.getD m 0 := ⟨_, rfl⟩
      obtain ⟨xx, hxx⟩ : ∃ xx, xx = xs.getD r 0 := ⟨_, rfl⟩
      have t0 : wr.cell? ⟨B, k, none⟩ = some (.int .i64 (r : Int)) := by rw [cell_of_row _ _ k _ _ (0, 0) gT, HTr.out k hlt, hr]
      have t1 : wr.cell? ⟨B, 80 + k, none⟩ = some (.int .i64 (sh : Int)) := by rw [cell_of_row _ _ (80 + k) _ _ (0, 0) gT, HTs.out k hlt, hsh]
      have t2 : wr.cell? ⟨B, 160 + m, none⟩ = some (.int .u32 (kk.toNat : Int)) := by rw [cell_of_row _ _ (160 + m) _ _ (0, 0) gT, HTk.out m hm5, hkk]
      have x0 : wr.cell? ⟨B + 1 + 1, r, none⟩ = some (.int .u32 (xx.toNat : Int)) := by rw [cell_of_row _ _ r _ _ (0, 0) gX, HXx.out r hr16, hxx]
      have GC := Lib.hid gC
      have GT := Lib.hid gT
      have GX := Lib.hid gX
      have GO := Lib.hid gO
      clear hm hr hsh hkk hxx gC gT gX gO hs
      have hmx : Tryz.prog.follows .mixedOrders = true := by kernel_rfl
      cases t
      · have hmw : m < 5 := hm5
        go_wp2_with fail
        refine wp_region_plan [(0, 0), (1, 1), (2, 0), (3, 0), (4, 1), (5, 0), (6, 1), (7, 0), (8, 1), (11, 0), (12, 0), (13, 0), (14, 1), (15, 0), (16, 1), (18, 0), (19, 0), (20, 0), (21, 1), (23, 0), (24, 0), (25, 0), (26, 1), (28, 0), (29, 1), (9, 2), (10, 0), (17, 0), (22, 0), (27, 2), (30, 0), (31, 0)] 32 hmx (by kernel_rfl) (by intro c a d v w h; cases d <;> exact h) ?_
        repeat ((first | (refine wpPlan_pure rfl (fun K hK => ?_)) | (refine wpPlan_quiet rfl (fun K hK => ?_))); go_simp; (first | (refine hK _ ?_) | (simp only [IntWalk.iteOmega]; go_simp; refine hK _ ?_) | (go_bits; go_simp; refine hK _ ?_)); clear hK K; (try go_bits))
        refine wpPlan_loud rfl rfl (fun K hK => ?_)
        go_wp2_with fail
        refine (mix_any m (by omega) b c d _).mono ?_
        rintro e' w1 ⟨⟨mx, rfl⟩, hw1⟩
        rw [hw1]
        clear hw1
        go_wp2_with fail
        refine ⟨.inr (Ext.refl _), ?_⟩
        repeat ((first | (refine wpPlan_pure rfl (fun K hK => ?_)) | (refine wpPlan_quiet rfl (fun K hK => ?_))); go_simp; (first | (refine hK _ ?_) | (simp only [IntWalk.iteOmega]; go_simp; refine hK _ ?_) | (go_bits; go_simp; refine hK _ ?_)); clear hK K; (try go_bits))
        refine wpPlan_loud rfl rfl (fun K hK => ?_)
        go_wp2_with fail
        rw [sp_add4]
        refine (rotl32_any (a + mx + xx + kk) sh hsh1 hsh2 _).mono ?_
        rintro e' w1 ⟨rfl, hw1⟩
        rw [hw1]
        clear hw1
        obtain ⟨y1, hy1⟩ : ∃ y1, y1 = (a + mx + xx + kk).rotateLeft sh := ⟨_, rfl⟩
        rw [← hy1]
        clear hy1
        go_wp2_with fail
        refine ⟨.inr (Ext.refl _), ?_⟩
        repeat ((first | (refine wpPlan_pure rfl (fun K hK => ?_)) | (refine wpPlan_quiet rfl (fun K hK => ?_))); go_simp; (first | (refine hK _ ?_) | (simp only [IntWalk.iteOmega]; go_simp; refine hK _ ?_) | (go_bits; go_simp; refine hK _ ?_)); clear hK K; (try go_bits))
        refine wpPlan_nil ?_
        go_wp2_with fail
        rw [sp_add]
        obtain ⟨y2, hy2⟩ : ∃ y2, y2 = y1 + e := ⟨_, rfl⟩
        rw [← hy2]
        clear hy2
        refine wp_region_plan [(0, 0), (1, 1), (2, 0), (3, 0), (4, 1), (5, 0), (6, 1), (8, 0), (9, 1), (7, 2), (10, 2), (11, 2)] 11 hmx (by kernel_rfl) (by intro c a d v w h; cases d <;> exact h) ?_
        repeat ((first | (refine wpPlan_pure rfl (fun K hK => ?_)) | (refine wpPlan_quiet rfl (fun K hK => ?_))); go_simp; (first | (refine hK _ ?_) | (simp only [IntWalk.iteOmega]; go_simp; refine hK _ ?_) | (go_bits; go_simp; refine hK _ ?_)); clear hK K; (try go_bits))
        refine wpPlan_loud rfl rfl (fun K hK => ?_)
        go_wp2_with fail
        refine (rotl32_any c 10 (by omega) (by omega) _).mono ?_
        rintro e' w1 ⟨rfl, hw1⟩
        rw [hw1]
        clear hw1
        obtain ⟨y3, hy3⟩ : ∃ y3, y3 = c.rotateLeft 10 := ⟨_, rfl⟩
        rw [← hy3]
        clear hy3
        go_wp2_with fail
        refine ⟨.inr (Ext.refl _), ?_⟩
        refine wpPlan_loud rfl rfl (fun K hK => ?_)
        go_wp2_with fail
        refine ⟨.inr (Ext.refl _), ?_⟩
        refine wpPlan_loud rfl rfl (fun K hK => ?_)
        refine wp_store_row 108 (.tmp 5) (.tmp 63) rfl (B + 1) (W32 [e, y2, b, y3, d]).toArray rfl rfl 108 _ GC.out (by kernel_rfl) rfl (w32_one _) ?_
        refine hK _ _ ⟨.inl (by decide), ?_⟩
        clear hK K
        refine wpPlan_nil ?_
        go_wp2_with fail
        refine ⟨⟨k + 1, by omega, by go_num, ⟨_, rfl, setRow_heap _ _ _ _ _ _ GC.out⟩, (setRow_other _ _ _ _ (by omega)).trans GT.out, (setRow_other _ _ _ _ (by omega)).trans GX.out, (setRow_other _ _ _ _ (by omega)).trans GO.out, below_setRow' hb.drew.drew (by omega) _⟩, by simp [intOf]; omega⟩
      · obtain ⟨m4, hm4⟩ : ∃ m4, m4 = 4 - m := ⟨_, rfl⟩
        have hm4I : (4 : Int) - (m : Int) = (m4 : Int) := by omega
        have hm45 : m4 < 5 := by omega
        clear hm4
        go_wp2_with fail
        refine wp_region_plan [(0, 0), (1, 1), (2, 0), (3, 0), (4, 1), (5, 0), (6, 1), (7, 0), (8, 1), (11, 0), (12, 0), (13, 0), (14, 1), (15, 0), (16, 1), (18, 0), (19, 0), (20, 0), (21, 1), (23, 0), (24, 0), (25, 0), (26, 1), (28, 0), (29, 1), (9, 2), (10, 0), (17, 0), (22, 0), (27, 2), (30, 0), (31, 0)] 32 hmx (by kernel_rfl) (by intro c a d v w h; cases d <;> exact h) ?_
        repeat ((first | (refine wpPlan_pure rfl (fun K hK => ?_)) | (refine wpPlan_quiet rfl (fun K hK => ?_))); go_simp; (first | (refine hK _ ?_) | (simp only [IntWalk.iteOmega]; go_simp; refine hK _ ?_) | (go_bits; go_simp; refine hK _ ?_)); clear hK K; (try go_bits))
        refine wpPlan_loud rfl rfl (fun K hK => ?_)
        go_wp2_with fail
        refine (mix_any m4 (by omega) b c d _).mono ?_
        rintro e' w1 ⟨⟨mx, rfl⟩, hw1⟩
        rw [hw1]
        clear hw1
        go_wp2_with fail
        refine ⟨.inr (Ext.refl _), ?_⟩
        repeat ((first | (refine wpPlan_pure rfl (fun K hK => ?_)) | (refine wpPlan_quiet rfl (fun K hK => ?_))); go_simp; (first | (refine hK _ ?_) | (simp only [IntWalk.iteOmega]; go_simp; refine hK _ ?_) | (go_bits; go_simp; refine hK _ ?_)); clear hK K; (try go_bits))
        refine wpPlan_loud rfl rfl (fun K hK => ?_)
        go_wp2_with fail
        rw [sp_add4]
        refine (rotl32_any (a + mx + xx + kk) sh hsh1 hsh2 _).mono ?_
        rintro e' w1 ⟨rfl, hw1⟩
        rw [hw1]
        clear hw1
        obtain ⟨y1, hy1⟩ : ∃ y1, y1 = (a + mx + xx + kk).rotateLeft sh := ⟨_, rfl⟩
        rw [← hy1]
        clear hy1
        go_wp2_with fail
        refine ⟨.inr (Ext.refl _), ?_⟩
        repeat ((first | (refine wpPlan_pure rfl (fun K hK => ?_)) | (refine wpPlan_quiet rfl (fun K hK => ?_))); go_simp; (first | (refine hK _ ?_) | (simp only [IntWalk.iteOmega]; go_simp; refine hK _ ?_) | (go_bits; go_simp; refine hK _ ?_)); clear hK K; (try go_bits))
        refine wpPlan_nil ?_
        go_wp2_with fail
        rw [sp_add]
        obtain ⟨y2, hy2⟩ : ∃ y2, y2 = y1 + e := ⟨_, rfl⟩
        rw [← hy2]
        clear hy2
        refine wp_region_plan [(0, 0), (1, 1), (2, 0), (3, 0), (4, 1), (5, 0), (6, 1), (8, 0), (9, 1), (7, 2), (10, 2), (11, 2)] 11 hmx (by kernel_rfl) (by intro c a d v w h; cases d <;> exact h) ?_
        repeat ((first | (refine wpPlan_pure rfl (fun K hK => ?_)) | (refine wpPlan_quiet rfl (fun K hK => ?_))); go_simp; (first | (refine hK _ ?_) | (simp only [IntWalk.iteOmega]; go_simp; refine hK _ ?_) | (go_bits; go_simp; refine hK _ ?_)); clear hK K; (try go_bits))
        refine wpPlan_loud rfl rfl (fun K hK => ?_)
        go_wp2_with fail
        refine (rotl32_any c 10 (by omega) (by omega) _).mono ?_
        rintro e' w1 ⟨rfl, hw1⟩
        rw [hw1]
        clear hw1
        obtain ⟨y3, hy3⟩ : ∃ y3, y3 = c.rotateLeft 10 := ⟨_, rfl⟩
        rw [← hy3]
        clear hy3
        go_wp2_with fail
        refine ⟨.inr (Ext.refl _), ?_⟩
        refine wpPlan_loud rfl rfl (fun K hK => ?_)
        go_wp2_with fail
        refine ⟨.inr (Ext.refl _), ?_⟩
        refine wpPlan_loud rfl rfl (fun K hK => ?_)
        refine wp_store_row 108 (.tmp 5) (.tmp 63) rfl (B + 1) (W32 [e, y2, b, y3, d]).toArray rfl rfl 108 _ GC.out (by kernel_rfl) rfl (w32_one _) ?_
        refine hK _ _ ⟨.inl (by decide), ?_⟩
        clear hK K
        refine wpPlan_nil ?_
        go_wp2_with fail
        refine ⟨⟨k + 1, by omega, by go_num, ⟨_, rfl, setRow_heap _ _ _ _ _ _ GC.out⟩, (setRow_other _ _ _ _ (by omega)).trans GT.out, (setRow_other _ _ _ _ (by omega)).trans GX.out, (setRow_other _ _ _ _ (by omega)).trans GO.out, below_setRow' hb.drew.drew (by omega) _⟩, by simp [intOf]; omega⟩
    · obtain rfl : k = 80 := by omega
      obtain ⟨cs, hcs⟩ : ∃ cs, cs = (W32 s).toArray := ⟨_, rfl⟩
      have hcz : cs.size = 5 := by rw [hcs]; simp [hs]
      have Hone : Hid (cs.all (·.oneCell') = true) := Lib.hid (by rw [hcs]; simp [W32]; intro x _; rfl)
      have Hinf : Hid ((Tryz.prog.info? 108).map (·.size) = some cs.size) := Lib.hid (by rw [hcz]; kernel_rfl)
      have Hcz : Hid (5 = cs.size) := Lib.hid hcz.symm
      rw [← hcs] at gC
      have Hcs := Lib.hid hcs
      have GC := Lib.hid gC
      have GO := Lib.hid gO
      clear hcs hcz gC gT gX gO
      go_wp2_with (first | (refine wpList_load_row rfl 108 (.tmp 5) rfl (B + 1) rfl 108 cs (0, 0) _ GC.out Tryz.underlying108 rfl Hinf.out ?_) | (refine wpList_store_rowTo rfl 108 (.tmp 8) (.tmp 65) rfl rfl (B + 1 + 1 + 1) cs rfl rfl 108 _ GO.out Hinf.out Hcz.out Hone.out ?_))
      refine bodyPost_ret (v := .agg cs) ?_ rfl ⟨⟨s, hs, by rw [Hcs.out]⟩, below_setRow' hb (by omega) _⟩
      exact results_cell_row rfl _ _ (B + 1 + 1 + 1) 108 cs (0, 0) _ rfl (setRow_heap _ _ _ _ _ _ GO.out) Tryz.underlying108 rfl Hinf.out
end Go.Proofs.YtkiigonikeeikaaGreatDoor

/-! hash.leftLine, hash.rightLine. -/
namespace Go.Proofs.YtkiigonikeeikaaGreatDoor
open Go.RowKit Go.Shelf

def rL : List Nat := [0, 1, 2, 3, 4, 5, 6, 7, 8, 9, 10, 11, 12, 13, 14, 15, 7, 4, 13, 1, 10, 6, 15, 3, 12, 0, 9, 5, 2, 14, 11, 8, 3, 10, 14, 4, 9, 15, 8, 1, 2, 7, 0, 6, 13, 11, 5, 12, 1, 9, 11, 10, 0, 8, 12, 4, 13, 3, 7, 15, 14, 5, 6, 2, 4, 0, 5, 9, 7, 12, 2, 10, 14, 1, 3, 8, 11, 6, 15, 13]
def sL : List Nat := [11, 14, 15, 12, 5, 8, 7, 9, 11, 13, 14, 15, 6, 7, 9, 8, 7, 6, 8, 13, 11, 9, 7, 15, 7, 12, 15, 9, 11, 7, 13, 12, 11, 13, 6, 7, 14, 9, 13, 15, 14, 8, 13, 6, 5, 12, 7, 5, 11, 12, 14, 15, 14, 15, 9, 8, 9, 14, 5, 6, 8, 6, 5, 12, 9, 15, 5, 11, 6, 8, 13, 12, 5, 12, 13, 14, 11, 8, 5, 6]
def kL : List (BitVec 32) := [0, 0x5a827999, 0x6ed9eba1, 0x8f1bbcdc, 0xa953fd4e]
def rR : List Nat := [5, 14, 7, 0, 9, 2, 11, 4, 13, 6, 15, 8, 1, 10, 3, 12, 6, 11, 3, 7, 0, 13, 5, 10, 14, 15, 8, 12, 4, 9, 1, 2, 15, 5, 1, 3, 7, 14, 6, 9, 11, 8, 12, 2, 10, 0, 4, 13, 8, 6, 4, 1, 3, 11, 15, 0, 5, 12, 2, 13, 9, 7, 10, 14, 12, 15, 10, 4, 1, 5, 8, 7, 6, 2, 13, 14, 0, 3, 9, 11]
def sR : List Nat := [8, 9, 9, 11, 13, 15, 15, 5, 7, 7, 8, 11, 14, 14, 12, 6, 9, 13, 15, 7, 12, 8, 9, 11, 7, 7, 12, 7, 6, 15, 13, 11, 9, 7, 15, 11, 8, 6, 6, 14, 12, 13, 5, 14, 13, 13, 7, 5, 15, 5, 8, 11, 14, 14, 6, 14, 6, 9, 12, 9, 12, 5, 15, 8, 8, 5, 12, 9, 12, 5, 14, 6, 8, 13, 6, 5, 15, 13, 11, 11]
def kR : List (BitVec 32) := [0x50a28be6, 0x5c4dd124, 0x6d703ef3, 0x7a6d76e9, 0]

theorem getD_all {p : Nat → Bool} {l : List Nat} (h : l.all p = true) (k : Nat) (hk : k < l.length) : p (l.getD k 0) = true := by
  rw [List.getD_eq_getElem?_getD, List.getElem?_eq_getElem hk]
  exact List.all_eq_true.1 h _ (List.getElem_mem hk)
theorem rL_len : rL.length = 80 := by decide
theorem sL_len : sL.length = 80 := by decide
theorem kL_len : kL.length = 5 := by decide
theorem rR_len : rR.length = 80 := by decide
theorem sR_len : sR.length = 80 := by decide
theorem kR_len : kR.length = 5 := by decide
theorem rL_ok (k : Nat) (h : k < 80) : rL.getD k 0 < 16 := by have := getD_all (p := fun x => decide (x < 16)) (l := rL) (by decide) k (by rw [rL_len]; exact h); simpa using this
theorem rR_ok (k : Nat) (h : k < 80) : rR.getD k 0 < 16 := by have := getD_all (p := fun x => decide (x < 16)) (l := rR) (by decide) k (by rw [rR_len]; exact h); simpa using this
theorem sL_ok (k : Nat) (h : k < 80) : 0 < sL.getD k 0 ∧ sL.getD k 0 < 32 := by have := getD_all (p := fun x => decide (0 < x ∧ x < 32)) (l := sL) (by decide) k (by rw [sL_len]; exact h); simpa using this
theorem sR_ok (k : Nat) (h : k < 80) : 0 < sR.getD k 0 ∧ sR.getD k 0 < 32 := by have := getD_all (p := fun x => decide (0 < x ∧ x < 32)) (l := sR) (by decide) k (by rw [sR_len]; exact h); simpa using this

def i64s (l : List Nat) : Array Value := (l.map fun (r : Nat) => Value.int .i64 (r : Int)).toArray
theorem lineC_one (rs ss : List Nat) (ks : List (BitVec 32)) : (lineC rs ss ks).toArray.all (·.oneCell') = true := by
  apply all_oneCell_toArray
  intro v hv
  simp only [lineC, W32, List.mem_append, List.mem_map] at hv
  rcases hv with (⟨_, _, rfl⟩ | ⟨_, _, rfl⟩) | ⟨_, _, rfl⟩ <;> rfl
set_option maxRecDepth 100000 in
set_option maxHeartbeats 4000000 in
theorem leftLine_any (w : World) : Calls Tryz.prog 64 #[] w fun e w' => e = .returned (.agg (lineC rL sL kL).toArray) ∧ Below w.heap.size w w' := by
  obtain ⟨A1, hA1⟩ : ∃ A1, A1 = i64s rL := ⟨_, rfl⟩
  obtain ⟨A2, hA2⟩ : ∃ A2, A2 = i64s sL := ⟨_, rfl⟩
  obtain ⟨A3, hA3⟩ : ∃ A3, A3 = (W32 kL).toArray := ⟨_, rfl⟩
  obtain ⟨C, hC⟩ : ∃ C, C = (lineC rL sL kL).toArray := ⟨_, rfl⟩
  have hb : Tryz.prog.built 112 [(0, .agg A1), (1, .agg A2), (2, .agg A3)] = some C := by rw [hA1, hA2, hA3, hC]; kernel_rfl
  have hsz : C.size = 165 := by rw [hC, List.size_toArray, lineC_length rL_len sL_len kL_len]
  have HC := Lib.hid hC
  have H1 : Hid (C.all (·.oneCell') = true) := Lib.hid (by rw [hC]; exact lineC_one _ _ _)
  have Hinf : Hid ((Tryz.prog.info? 112).map (·.size) = some C.size) := Lib.hid (by rw [hsz]; kernel_rfl)
  have Hsz : Hid (Tryz.zeroCells112.size = C.size) := Lib.hid (by rw [hsz]; kernel_rfl)
  have HA1 := Lib.hid hA1
  have HA2 := Lib.hid hA2
  have HA3 := Lib.hid hA3
  have Hb := Lib.hid hb
  rw [← hC]
  clear hA1 hA2 hA3 hC hb hsz
  go_enter Tryz.func64, Tryz.ntmps64
  go_wp2_with (first | (refine wpList_buildTo rfl 110 _ rfl (some 1) rfl A1 (by rw [HA1.out]; kernel_rfl) ?_) | (refine wpList_buildTo rfl 110 _ rfl (some 2) rfl A2 (by rw [HA2.out]; kernel_rfl) ?_) | (refine wpList_buildTo rfl 108 _ rfl (some 3) rfl A3 (by rw [HA3.out]; kernel_rfl) ?_) | ((refine wpList_buildTo rfl 112 _ rfl (some 4) rfl C ?hb4 ?_; (case hb4 => have h := Hb.out; simpa [Act.eval, Act.put] using h))) | (refine wpList_store_rowTo rfl 112 (.tmp 0) (.tmp 4) rfl rfl w.heap.size C rfl rfl 112 _ (heap_alloc_new w _) Hinf.out Hsz.out H1.out ?_) | fail)
  refine bodyPost_ret (v := .agg C) ?_ rfl ⟨rfl, below_setRow' ((Below.refl _ w).alloc (Nat.le_refl _) _) (Nat.le_refl _) _⟩
  exact results_cell_row rfl _ _ w.heap.size 112 C (0, 0) _ rfl (setRow_heap _ _ _ _ _ _ (heap_alloc_new w _)) Tryz.underlying112 rfl Hinf.out
set_option maxRecDepth 100000 in
set_option maxHeartbeats 4000000 in
theorem rightLine_any (w : World) : Calls Tryz.prog 65 #[] w fun e w' => e = .returned (.agg (lineC rR sR kR).toArray) ∧ Below w.heap.size w w' := by
  obtain ⟨A1, hA1⟩ : ∃ A1, A1 = i64s rR := ⟨_, rfl⟩
  obtain ⟨A2, hA2⟩ : ∃ A2, A2 = i64s sR := ⟨_, rfl⟩
  obtain ⟨A3, hA3⟩ : ∃ A3, A3 = (W32 kR).toArray := ⟨_, rfl⟩
  obtain ⟨C, hC⟩ : ∃ C, C = (lineC rR sR kR).toArray := ⟨_, rfl⟩
  have hb : Tryz.prog.built 112 [(0, .agg A1), (1, .agg A2), (2, .agg A3)] = some C := by rw [hA1, hA2, hA3, hC]; kernel_rfl
  have hsz : C.size = 165 := by rw [hC, List.size_toArray, lineC_length rR_len sR_len kR_len]
  have HC := Lib.hid hC
  have H1 : Hid (C.all (·.oneCell') = true) := Lib.hid (by rw [hC]; exact lineC_one _ _ _)
  have Hinf : Hid ((Tryz.prog.info? 112).map (·.size) = some C.size) := Lib.hid (by rw [hsz]; kernel_rfl)
  have Hsz : Hid (Tryz.zeroCells112.size = C.size) := Lib.hid (by rw [hsz]; kernel_rfl)
  have HA1 := Lib.hid hA1
  have HA2 := Lib.hid hA2
  have HA3 := Lib.hid hA3
  have Hb := Lib.hid hb
  rw [← hC]
  clear hA1 hA2 hA3 hC hb hsz
  go_enter Tryz.func65, Tryz.ntmps65
  go_wp2_with (first | (refine wpList_buildTo rfl 110 _ rfl (some 1) rfl A1 (by rw [HA1.out]; kernel_rfl) ?_) | (refine wpList_buildTo rfl 110 _ rfl (some 2) rfl A2 (by rw [HA2.out]; kernel_rfl) ?_) | (refine wpList_buildTo rfl 108 _ rfl (some 3) rfl A3 (by rw [HA3.out]; kernel_rfl) ?_) | ((refine wpList_buildTo rfl 112 _ rfl (some 4) rfl C ?hb4 ?_; (case hb4 => have h := Hb.out; simpa [Act.eval, Act.put] using h))) | (refine wpList_store_rowTo rfl 112 (.tmp 0) (.tmp 4) rfl rfl w.heap.size C rfl rfl 112 _ (heap_alloc_new w _) Hinf.out Hsz.out H1.out ?_) | fail)
  refine bodyPost_ret (v := .agg C) ?_ rfl ⟨rfl, below_setRow' ((Below.refl _ w).alloc (Nat.le_refl _) _) (Nat.le_refl _) _⟩
  exact results_cell_row rfl _ _ w.heap.size 112 C (0, 0) _ rfl (setRow_heap _ _ _ _ _ _ (heap_alloc_new w _)) Tryz.underlying112 rfl Hinf.out
end Go.Proofs.YtkiigonikeeikaaGreatDoor
