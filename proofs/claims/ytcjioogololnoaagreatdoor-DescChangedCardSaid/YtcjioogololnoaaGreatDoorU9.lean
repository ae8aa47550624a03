/- hash.tail, for SHA-256. | A region that draws its order, where two operations that make memory come up side by side: a plan up to there, and a plan for each. | hash.Sum.Hash, Twice, Sum256, Double. -/
import Derived.Test.YtcjioogololnoaaGreatDoorU6
import Derived.Test.YtcjioogololnoaaGreatDoorU1
import Derived.Shelf.RegionOpen
import Derived.Lib.Hide
import Derived.Test.YtcjioogololnoaaGreatDoorU8
import Derived.Test.YtcjioogololnoaaGreatDoorU3

/-! hash.tail, for SHA-256. -/
namespace Go.Proofs.YtcjioogololnoaaGreatDoor
open Go.RowKit Go.Shelf

/-- Eight bytes of a number, the greatest first, of which the lowest i are written. -/
def low8 (m : Nat) (i : Nat) : List UInt8 := ((List.range i).map fun j => UInt8.ofNat (m / 256 ^ j)).reverse
def tailL (n : Nat) (i : Nat) : List UInt8 := 128 :: (List.replicate (63 - (n % 64 + 8) % 64 + (8 - i)) 0 ++ low8 (n * 8) i)
theorem low8_length (m i : Nat) : (low8 m i).length = i := by simp [low8]
theorem tailL_length (n i : Nat) (h : i ≤ 8) : (tailL n i).length = 63 - (n % 64 + 8) % 64 + 9 := by simp [tailL, low8_length]; omega
theorem low8_succ (m i : Nat) : low8 m (i + 1) = UInt8.ofNat (m / 256 ^ i) :: low8 m i := by simp [low8, List.range_succ]
theorem tailL_set (n i : Nat) (h : i < 8) : (tailL n i).set (63 - (n % 64 + 8) % 64 + 9 - 1 - i) (UInt8.ofNat (n * 8 / 256 ^ i)) = tailL n (i + 1) := by
  obtain ⟨f, hf⟩ : ∃ f, f = 63 - (n % 64 + 8) % 64 := ⟨_, rfl⟩
  rw [tailL, tailL, low8_succ, ← hf]
  rw [show f + 9 - 1 - i = (f + (7 - i)) + 1 by omega, List.set_cons_succ, show f + (8 - i) = f + (7 - i) + 1 by omega, List.replicate_succ', List.append_assoc]
  rw [List.set_append_right _ _ (by simp)]
  simp only [List.length_replicate, Nat.sub_self, List.singleton_append, List.set_cons_zero]
  rw [show 8 - (i + 1) = 7 - i by omega]

theorem tail_byte (n k : Nat) : ((n : Int) * 8 / 2 ^ (8 * k) % 256) = ((UInt8.ofNat (n * 8 / 256 ^ k)).toNat : Int) := by
  rw [UInt8.toNat_ofNat', show (256 : Nat) = 2 ^ 8 from rfl, ← Nat.pow_mul]
  rw [Int.natCast_emod, Int.natCast_ediv, Int.natCast_mul, Int.natCast_pow]
  rfl
set_option maxRecDepth 100000 in
set_option maxHeartbeats 2000000 in
theorem tail_any (n : Nat) (hn : n ≤ 8192) (w : World) :
    Calls Tryz.prog 209 #[.int .u64 n, .int .i64 64, .int .i64 8] w fun e w' => ∃ v, e = .returned v ∧ Ow w' w.heap.size 5 v (B8 (tailL n 8)) ∧ Below w.heap.size w w' := by
  obtain ⟨i0, hi, hz0, hz1, hz2⟩ := info_parts u8_info
  obtain ⟨f, hf⟩ : ∃ f, f = 63 - (n % 64 + 8) % 64 := ⟨_, rfl⟩
  have hf63 : f ≤ 63 := by omega
  have hmk := run_makeN (P := Tryz.prog) 37 5 i0 _ 1 Tryz.underlying37 hi hz0 hz1 hz2 rfl .i64 .i64 (1 + (f : Int) + 8) (1 + (f : Int) + 8) (f + 9) (f + 9) (by omega) (by omega) (Nat.le_refl _) (by omega) (by unfold maxLen; omega)
  have he : (63 : Int) - ((n : Int) + 8) % 64 = (f : Int) := by omega
  have Hf := Lib.hid hf
  clear hf
  go_enter Tryz.func209, Tryz.ntmps209
  go_wp2_with fail
  go_loopw [29] (fun i wr => ∃ k : Nat, k ≤ 8 ∧ i = .int .i64 k ∧ Ow wr w.heap.size 5 (.slice (some ⟨w.heap.size, 0, none⟩) (f + 9) (f + 9)) (B8 (tailL n k)) ∧ Below w.heap.size w wr) (fun i _ => 8 - (intOf i).toNat)
  case atStart =>
    have hof := Ow.of_row (w := w) ((Array.replicate (f + 9) (Value.int IntKind.u8 0)).setIfInBounds 0 (Value.int IntKind.u8 128)) 5 w.heap.size (Nat.le_refl _) (cap := f + 9) (by simp) (by unfold maxLen; omega) (f + 9) (Nat.le_refl _)
    refine ⟨0, Nat.zero_le _, rfl, ?_, (Below.refl _ w).alloc (Nat.le_refl _) _⟩
    have e : ((Array.replicate (f + 9) (Value.int IntKind.u8 0)).setIfInBounds 0 (Value.int IntKind.u8 128)).toList.take (f + 9) = B8 (tailL n 0) := by
      rw [List.take_of_length_le (by simp), tailL, ← Hf.out]
      simp [B8, low8, List.replicate_succ, Array.toList_setIfInBounds]
    rw [e] at hof
    exact hof
  case round =>
    obtain ⟨k, hk, rfl, ho, hB⟩ := hrel
    by_cases hlt : k < 8
    · obtain ⟨m, hm⟩ : ∃ m, m = f + 9 - 1 - k := ⟨_, rfl⟩
      have em : (f : Int) + 9 - 1 - (k : Int) = (m : Int) := by omega
      have em1 : (f : Int) + 8 - (k : Int) = (m : Int) := by omega
      have hmlt : m < f + 9 := by omega
      have hlen := tailL_length n k hk
      rw [← Hf.out] at hlen
      obtain ⟨g, hge, hg, hrow, hcell, hfz⟩ := ho.at_ (j := m) (by simp [hlen]; exact hmlt)
      injection hge with hge
      injection hge with hge
      subst hge
      obtain ⟨cv, hcv⟩ : ∃ cv, wr.cell? ⟨w.heap.size, m, none⟩ = some cv := ⟨_, hcell⟩
      clear hcell
      have Hm := Lib.hid hm
      have Hlen := Lib.hid hlen
      have Hrow := Lib.hid hrow
      clear hm hlen hrow
      go_wp2_with fail
      have hst := ho.store m (by omega) (Value.int IntKind.u8 ((n : Int) * 8 / 2 ^ (8 * k) % 256))
      rw [show (B8 (tailL n k)).set m (Value.int IntKind.u8 ((n : Int) * 8 / 2 ^ (8 * k) % 256)) = B8 (tailL n (k + 1)) from by
        rw [← tailL_set n k hlt, ← Hf.out, ← Hm.out, tail_byte]
        simp [B8, List.map_set]] at hst
      refine ⟨⟨k + 1, by omega, rfl, hst, hB.setCell (Nat.le_refl _) _⟩, by simp [intOf]; omega⟩
    · go_wp2_with fail
      obtain rfl : k = 8 := by omega
      go_ret
      exact ⟨_, rfl, ho, hB⟩
end Go.Proofs.YtcjioogololnoaaGreatDoor

/-! A region that draws its order, where two operations that make memory come up side by side: a plan up to there, and a plan for each. -/
namespace Go.Proofs.YtcjioogololnoaaGreatDoor
open Go Go.RowKit
section
variable {P : Program} {ops : Array Oper} {md : Region.Mode}
variable {Q : Act → World → Prop} {st : Nat → (Act → World → Prop) → Act → World → Prop} {N : Nat}

/-- What is asked where the ways part. -/
def forkP (P : Program) (ops : Array Oper) (Q : Act → World → Prop) (st : Nat → (Act → World → Prop) → Act → World → Prop) (N : Nat) (forks : List (Nat × List (Nat × Nat))) (a : Act) (w : World) : Prop :=
  ∀ f ∈ forks, st f.1 (fun a' w' => Ext w w' ∧ wpPlan P ops Q st N f.2 a' w') a w
def planF (md : Region.Mode) (ops : Array Oper) (N m : Nat) (forks : List (Nat × List (Nat × Nat))) : List (Nat × Nat) → Array Bool → Bool
  | [], listed => (Region.ready md ops listed == forks.map (·.1)) && (!forks.isEmpty) && forks.all fun f => decide (f.2.length = m) && planB md ops N f.2 (listed.setIfInBounds f.1 true)
  | (i, k) :: rest, listed =>
    (if k = 0 then (Region.ready md ops listed).contains i && Region.free md ops listed i && decide (i < N)
     else if k = 1 then (Region.ready md ops listed).contains i && Region.free md ops listed i && decide (i < N) && ((List.range ops.size).all fun j => decide (j < N) || anc md ops ops.size j i)
     else (Region.ready md ops listed == [i]) && decide (i < N)) && planF md ops N m forks rest (listed.setIfInBounds i true)

theorem planF_sound (L : StepLaws P ops Q st) (hsel : Region.noSelect ops = true) (m : Nat) (forks : List (Nat × List (Nat × Nat))) : ∀ (plan : List (Nat × Nat)) (listed : Array Bool) (a : Act) (w w0 : World),
    planF md ops N m forks plan listed = true → Closed md ops listed → listed.size = ops.size → Ext w0 w → wpPlan P ops (forkP P ops Q st N forks) st N plan a w → wpAnyS md ops Q st N (Ext w0) (plan.length + (m + 1)) listed a w
  | [], listed, a, w, w0, hB, hcl, hsz, hE, h => by
    simp only [planF, Bool.and_eq_true, Bool.not_eq_true'] at hB
    obtain ⟨⟨hr, hne⟩, hall⟩ := hB
    have hr : Region.ready md ops listed = forks.map (·.1) := by simpa using hr
    rw [List.length_nil, Nat.zero_add]
    refine ⟨fun h0 => (by rw [h0] at hr; cases forks with | nil => simp at hne | cons x xs => simp at hr), fun j hj => ?_⟩
    have hj' := hj
    rw [hr] at hj'
    obtain ⟨f, hf, rfl⟩ := List.mem_map.1 hj'
    have hfb := List.all_eq_true.1 hall f hf
    simp only [Bool.and_eq_true, decide_eq_true_eq] at hfb
    have hst : st f.1 (fun a' w' => Ext w w' ∧ wpPlan P ops Q st N f.2 a' w') a w := h f hf
    refine L.mono (fun a' w' h' => ?_) hst
    have hE' := hE.trans h'.1
    have := plan_sound L hsel f.2 _ a' w' w0 0 hfb.2 (hcl.set hj) (by simpa using hsz) hE' h'.2
    rw [Nat.add_zero, hfb.1] at this
    exact ⟨.inr hE', this⟩
  | (i, k) :: rest, listed, a, w, w0, hB, hcl, hsz, hE, h => by
    have hB0 := hB
    by_cases hk0 : k = 0
    · simp only [planF, hk0, if_true, Bool.and_eq_true, decide_eq_true_eq] at hB
      obtain ⟨⟨⟨hr, hf⟩, hiN⟩, hrest⟩ := hB
      have hr' : i ∈ Region.ready md ops listed := by simpa using hr
      simp only [wpPlan, hk0, if_true] at h
      split at h
      · exact h.elim
      · rename_i o ho
        obtain ⟨v, hy, hK⟩ := h
        have hrec := planF_sound L hsel m forks rest (listed.setIfInBounds i true) (a.put o.dst v) w w0 hrest (hcl.set hr') (by simpa using hsz) hE hK
        have h1 := wpAnyS_first L (S := Ext w0) (S1 := fun _ => True) ho (Region.noSelect_spec hsel) hiN (fun _ _ _ _ _ => trivial) (rest.length + (m + 1)) listed a w hcl (Region.free_spec ho hf) hr' hy (.inr hE) hrec
        rw [List.length_cons, show rest.length + 1 + (m + 1) = rest.length + (m + 1) + 1 by omega]
        exact h1
    by_cases hk1 : k = 1
    · subst hk1
      simp only [planF, if_true, Bool.and_eq_true, decide_eq_true_eq, Nat.one_ne_zero, if_false] at hB
      obtain ⟨⟨⟨⟨hr, hf⟩, hiN⟩, hanc⟩, hrest⟩ := hB
      have hr' : i ∈ Region.ready md ops listed := by simpa using hr
      simp only [wpPlan, if_true, Nat.one_ne_zero, if_false] at h
      split at h
      · exact h.elim
      · rename_i o ho
        obtain ⟨v, hy, hK⟩ := h
        have hrec := planF_sound L hsel m forks rest (listed.setIfInBounds i true) (a.put o.dst v) w w hrest (hcl.set hr') (by simpa using hsz) (Ext.refl w) hK
        have h1 := wpAnyS_first L (S := Ext w) (S1 := Ext w) ho (Region.noSelect_spec hsel) hiN (fun l w' hc hu ht => by
          rcases ht with ⟨t, ht, hl⟩ | h
          · exfalso
            have hts : t < ops.size ∨ ¬ t < ops.size := Decidable.em _
            rcases hts with hts | hts
            · have := List.all_eq_true.1 hanc t (List.mem_range.2 hts)
              simp only [Bool.or_eq_true, decide_eq_true_eq] at this
              have := anc_listed hc _ _ _ hl (this.resolve_left (by omega))
              rw [unlisted_false hu] at this
              cases this
            · rw [show l.getD t false = false by simp [Array.getElem?_eq_none (show l.size ≤ t by rw [hc.1]; omega)]] at hl
              cases hl
          · exact h) (rest.length + (m + 1)) listed a w hcl (Region.free_spec ho hf) hr' hy (.inr (Ext.refl w)) hrec
        rw [List.length_cons, show rest.length + 1 + (m + 1) = rest.length + (m + 1) + 1 by omega]
        exact wpAnyS_weak L (fun w' hw' => hE.trans hw') _ _ _ _ h1
    · simp only [planF, hk0, hk1, if_false, Bool.and_eq_true, decide_eq_true_eq] at hB
      obtain ⟨⟨hr, hiN⟩, hrest⟩ := hB
      have hr : Region.ready md ops listed = [i] := by simpa using hr
      have hr' : i ∈ Region.ready md ops listed := by rw [hr]; simp
      rw [List.length_cons, show rest.length + 1 + (m + 1) = rest.length + (m + 1) + 1 by omega]
      refine ⟨fun h0 => (by rw [h0] at hr; cases hr), fun j hj => ?_⟩
      rw [hr] at hj
      obtain rfl : j = i := by simpa using hj
      simp only [wpPlan, hk0, hk1, if_false] at h
      refine L.mono (fun a' w' h' => ?_) h
      have hE' := hE.trans (h'.1.resolve_left (by omega))
      exact ⟨.inr hE', planF_sound L hsel m forks rest _ a' w' w0 hrest (hcl.set hr') (by simpa using hsz) hE' h'.2⟩
end
section
variable {P : Program} {ops : Array Oper} {N : Nat}
/-- **A region that draws, along a plan that parts.** -/
theorem wp_region_fork {id : Nat} {Q : Exit → Act → World → Prop} {a : Act} {w : World} {l : List Oper} (plan : List (Nat × Nat)) (m : Nat) (forks : List (Nat × List (Nat × Nat))) (N : Nat) (hm : P.follows .mixedOrders = true)
    (hB : (Region.noSelect l.toArray && decide (plan.length + (m + 1) = l.length) && planF .any l.toArray N m forks plan (Array.replicate l.length false)) = true) (hQ : ∀ c a d v w, Q (.panic c) (Act.put a d v) w → Q (.panic c) a w)
    (h : wpPlan P l.toArray (forkP P l.toArray (Q .normal) (fun i K a w => wpOp P l.toArray Q i K a w) N forks) (fun i K a w => wpOp P l.toArray Q i K a w) N plan a w.drew) : (Code.region id l.toArray true).wp P Q a w := by
  simp only [Bool.and_eq_true, decide_eq_true_eq] at hB
  refine wp_region_any hm ?_
  have := planF_sound (plainLaws Q hQ) hB.1.1 m forks plan (Array.replicate l.length false) a w.drew w.drew hB.2 ⟨by simp, fun j oj hj hl => by
    rcases Nat.lt_or_ge j l.length with h | h
    · simp [h] at hl
    · simp [h] at hl⟩ (by simp) (Ext.refl _) h
  rw [hB.1.2] at this
  have := wpAny_of_S _ _ _ _ this
  simpa using this
/-- The two ways, one after the other. -/
theorem wpPlan_fork {Q : Exit → Act → World → Prop} {i j : Nat} {pi pj : List (Nat × Nat)} {oi oj : Oper} {a : Act} {w : World} (hoi : ops[i]? = some oi) (hoj : ops[j]? = some oj) (hgi : oi.guard = none) (hgj : oj.guard = none)
    (h1 : ∀ K : Act → World → Prop, (∀ a' w', (Ext w w' ∧ wpPlan P ops (Q .normal) (fun i K a w => wpOp P ops Q i K a w) N pi a' w') → K a' w') → oi.wp P a w K Q)
    (h2 : ∀ K : Act → World → Prop, (∀ a' w', (Ext w w' ∧ wpPlan P ops (Q .normal) (fun i K a w => wpOp P ops Q i K a w) N pj a' w') → K a' w') → oj.wp P a w K Q) :
    wpPlan P ops (forkP P ops (Q .normal) (fun i K a w => wpOp P ops Q i K a w) N [(i, pi), (j, pj)]) (fun i K a w => wpOp P ops Q i K a w) N [] a w := by
  intro f hf
  simp only [List.mem_cons, List.not_mem_nil, or_false] at hf
  rcases hf with rfl | rfl
  · simp only [wpOp, hoi, Region.wanted, hgi, if_true]
    exact .inl (h1 _ (fun _ _ h => h))
  · simp only [wpOp, hoj, Region.wanted, hgj, if_true]
    exact .inl (h2 _ (fun _ _ h => h))
end
end Go.Proofs.YtcjioogololnoaaGreatDoor

/-! hash.Sum.Hash, Twice, Sum256, Double. -/
namespace Go.Proofs.YtcjioogololnoaaGreatDoor
open Go.RowKit Go.Shelf

section
variable {P : Program} {ops : Array Oper} {Q : Act → World → Prop} {st : Nat → (Act → World → Prop) → Act → World → Prop} {N : Nat}
theorem wpPlan_load_mid {i : Nat} {rest : List (Nat × Nat)} {o : Oper} {a : Act} {w : World} (ho : ops[i]? = some o) (hg : o.guard = none) (ty : TypeId) (x : Operand) (hop : o.op = .load ty x)
    (b off : Nat) (hx : a.eval x = .pointer (some ⟨b, off, none⟩)) (cs : List Value) (d : TypeDesc) (hc : w.rangeAt b off cs) (hu : P.underlying ty = some d) (hd : d.isRow = true) (hi : (P.info? ty).map (·.size) = some cs.length)
    (h : wpPlan P ops Q st N rest (a.put o.dst (.agg cs.toArray)) w) : wpPlan P ops Q st N ((i, 1) :: rest) a w := by
  simp only [wpPlan, if_true, ho, Nat.one_ne_zero, if_false]
  exact ⟨_, yieldsIf_load_mid (by simp [Region.wanted, hg]) ty x hop b off hx cs d (fun w' hw' j v hv => (hw'.below.cell (World.block_lt_of_cell? w _ (hc j v hv))).trans (hc j v hv)) hu hd hi, h⟩
theorem wpPlan_build {i : Nat} {rest : List (Nat × Nat)} {o : Oper} {a : Act} {w : World} (ho : ops[i]? = some o) (hg : o.guard = none) (t : TypeId) (parts : Array (Nat × Operand)) (hop : o.op = .build t parts) (cells : Array Value)
    (hc : P.built t (parts.map fun (i, x) => (i, a.eval x)).toList = some cells) (h : wpPlan P ops Q st N rest (a.put o.dst (.agg cells)) w) : wpPlan P ops Q st N ((i, 0) :: rest) a w := by
  simp only [wpPlan, if_true, ho]
  refine ⟨_, .inl ⟨by simp [Region.wanted, hg], fun w' _ => ?_⟩, h⟩
  unfold execOp
  simp only [hop, Sem.run_bind, run_build w' t _ cells hc, Result.andThen_ok]
  rfl
end

theorem Ow.sx {w : World} {base E g n c : Nat} {A : Option Addr} {xs : List Value} (h : Ow w base E (.slice A n c) xs) (hg : g < base) : Sx g w A xs := fun hn => by
  obtain ⟨b, o, e2, hb, hc⟩ := h.sl hn
  obtain ⟨A', c', e, h1, h2, h3⟩ := h
  injection e with e1 e3 e4
  obtain ⟨g', cur, e, hbg, _⟩ := h3 (by omega)
  rw [← e1] at e
  rw [e] at e2; injection e2 with e2; injection e2 with e2 e5
  subst e2 e5
  exact ⟨g', 0, e, by omega, hb, hc⟩
theorem grown_setRow (w : World) (g : Nat) (cs : Array Value) : w.grownBy (w.setRow g cs) (some g) := ⟨rfl, rfl, rfl, by simp, fun k _ hne => setRow_other w g k cs (fun e => hne (by rw [e]))⟩
theorem sc_one (st : List (BitVec 32)) (A : Option Addr) (m c : Nat) (k : Int) (b : Bool) : (SC st (.slice A m c) (.int .u64 k) (.bool b)).all (·.oneCell') = true := all_oneCell_toArray fun v hv => by
  simp only [List.mem_append, W32, List.mem_map] at hv
  rcases hv with ⟨x, _, rfl⟩ | hv
  · rfl
  · simp at hv; rcases hv with rfl | rfl | rfl <;> rfl
/-- Words as bytes, the greatest first. -/
def be32 (st : List (BitVec 32)) : List UInt8 := st.flatMap fun x => [UInt8.ofNat (x.toNat / 16777216), UInt8.ofNat (x.toNat / 65536), UInt8.ofNat (x.toNat / 256), UInt8.ofNat x.toNat]
theorem be32_length (st : List (BitVec 32)) : (be32 st).length = 4 * st.length := by
  induction st with
  | nil => rfl
  | cons x st ih => simp [be32] at ih ⊢; omega
theorem be32_get (st : List (BitVec 32)) (k : Nat) (h : k < st.length) : (be32 st)[4 * k]? = some (UInt8.ofNat (st[k].toNat / 16777216)) ∧ (be32 st)[4 * k + 1]? = some (UInt8.ofNat (st[k].toNat / 65536)) ∧
    (be32 st)[4 * k + 2]? = some (UInt8.ofNat (st[k].toNat / 256)) ∧ (be32 st)[4 * k + 3]? = some (UInt8.ofNat st[k].toNat) := by
  induction st generalizing k with
  | nil => simp at h
  | cons x st ih =>
    cases k with
    | zero => simp [be32]
    | succ k =>
      have := ih k (by simpa using h)
      simp only [be32, List.flatMap_cons, List.getElem_cons_succ] at this ⊢
      rw [show 4 * (k + 1) = 4 * k + 4 by omega, show 4 * k + 4 + 1 = 4 * k + 1 + 4 by omega, show 4 * k + 4 + 2 = 4 * k + 2 + 4 by omega, show 4 * k + 4 + 3 = 4 * k + 3 + 4 by omega]
      simpa using this

set_option maxRecDepth 100000 in
set_option maxHeartbeats 2000000 in
theorem hash_any (g : Nat) (st : List (BitVec 32)) (hst : st.length = 8) (A : Option Addr) (c : Nat) (wb : List UInt8) (n : Nat) (w : World)
    (hg : w.heap[g]? = some (.cells (SC st (.slice A wb.length c) (.int .u64 n) (.bool true)) 209 (0, 0))) (hX : Sx g w A (B8 wb)) (hn : n ≤ 4096) (hwb : wb.length ≤ 64) (hwc : wb.length ≤ c) (hc : c ≤ maxLen) :
    Calls Tryz.prog 192 #[.pointer (some ⟨g, 0, none⟩)] w fun e W' => e = .returned (.agg (B8 (be32 (blk st (wb ++ tailL n 8) ((wb ++ tailL n 8).length / 64)))).toArray) ∧ Below w.heap.size w W' := by
  obtain ⟨s0, s1, s2, s3, s4, s5, s6, s7, rfl⟩ : ∃ s0 s1 s2 s3 s4 s5 s6 s7, st = [s0, s1, s2, s3, s4, s5, s6, s7] := by
    match st, hst with
    | [s0, s1, s2, s3, s4, s5, s6, s7], _ => exact ⟨s0, s1, s2, s3, s4, s5, s6, s7, rfl⟩
  clear hst
  have hgs : g < w.heap.size := (Array.getElem?_eq_some_iff.1 hg).1
  have Hg0 := Lib.hid hg
  have hmx : Tryz.prog.follows .mixedOrders = true := by kernel_rfl
  clear hg
  go_enter Tryz.func192, Tryz.ntmps192
  go_wp2_with fail
  obtain ⟨w1, hw1⟩ : ∃ w1, w1 = w.alloc (.cells (Array.replicate 32 (.int .u8 0)) 168) := ⟨_, rfl⟩
  have hout1 : w1.heap[w.heap.size]? = some (.cells (Array.replicate 32 (.int .u8 0)) 168 (0, 0)) := by rw [hw1]; exact heap_alloc_new w _
  have hg1 := (show w1.heap[g]? = w.heap[g]? by rw [hw1]; exact Below.heap_alloc w _ g hgs).trans Hg0.out
  have hX1 : Sx g w1 A (B8 wb) := by rw [hw1]; exact hX.alloc _
  have hB1 : Below w.heap.size w w1 := by rw [hw1]; exact (Below.refl _ w).alloc (Nat.le_refl _) _
  refine (show w1 = _ from hw1) ▸ ?_
  obtain ⟨d8, d9, d10, df⟩ := sc_cell rfl hg1
  have hr1 : w1.rangeAt g 0 (W32 [s0, s1, s2, s3, s4, s5, s6, s7]) := fun j v hv => by
    rw [Nat.zero_add, cell_of_row w1 g j _ _ (0, 0) hg1, SC]
    have hj : j < (W32 [s0, s1, s2, s3, s4, s5, s6, s7]).length := (List.getElem?_eq_some_iff.1 hv).1
    rw [List.getElem?_toArray, List.getElem?_append_left hj]; exact hv
  have Hw1 := Lib.hid hw1
  have Hr1 := Lib.hid hr1
  have Hg1 := Lib.hid hg1
  have Hout1 := Lib.hid hout1
  clear hw1 hg1 hr1 hout1 df
  refine wp_region_fork [(0, 0), (1, 0), (2, 0), (3, 1), (4, 0), (5, 0), (6, 0), (7, 1), (9, 0), (10, 0), (11, 0), (12, 1), (13, 0), (14, 0), (15, 0), (16, 1)] 3 [(8, [(17, 0), (18, 2), (19, 2)]), (18, [(8, 2), (17, 0), (19, 2)])] 19 hmx (by kernel_rfl) (by intro c a d v w h; cases d <;> exact h) ?_
  iterate 3 (refine wpPlan_pure rfl (fun K hK => ?_); go_simp; refine hK _ ?_; clear hK K)
  refine wpPlan_load_mid rfl rfl 207 (.tmp 9) rfl g 0 rfl _ (.array 8 55) Hr1.out (by kernel_rfl) rfl (by kernel_rfl) ?_
  go_simp
  repeat ((first | (refine wpPlan_pure rfl (fun K hK => ?_)) | (refine wpPlan_quiet rfl (fun K hK => ?_))); go_simp; (first | (refine hK _ ?_) | (simp only [IntWalk.iteOmega]; go_simp; refine hK _ ?_) | (go_bits; go_simp; refine hK _ ?_)); clear hK K; (try go_bits))
  refine wpPlan_fork rfl rfl rfl rfl (fun K hK => ?_) (fun K hK => ?_)
  · go_wp2_with fail
    refine (clone_any A c wb w1.drew hX1.sl (by omega)).mono ?_
    rintro e w2 ⟨v, rfl, ho, hb⟩
    obtain ⟨Av, cv, rfl, hcv, hcv2⟩ := own_form ho
    go_wp2_with fail
    refine ⟨ext_of_below hb, ?_⟩
    refine wpPlan_build rfl rfl 209 _ rfl (SC [s0, s1, s2, s3, s4, s5, s6, s7] (.slice Av wb.length cv) (.int .u64 n) (.bool true)) (by kernel_rfl) ?_
    go_simp
    refine wpPlan_loud rfl rfl (fun K hK => ?_)
    go_wp2_with fail
    refine ⟨.inr (ext_alloc _ _), ?_⟩
    refine wpPlan_loud rfl rfl (fun K hK => ?_)
    refine wp_store_row 209 (.tmp 3) (.tmp 24) rfl w2.heap.size (SC [s0, s1, s2, s3, s4, s5, s6, s7] (.slice Av wb.length cv) (.int .u64 n) (.bool true)) rfl rfl 209 _ (heap_alloc_new w2 _) (by kernel_rfl) rfl (sc_one _ _ _ _ _ _) ?_
    rw [World.setRow_alloc_new]
    refine hK _ _ ⟨.inl (by decide), wpPlan_nil ?_⟩
    clear hK K
    simp only [Act.put]
    obtain ⟨gt, hgt⟩ : ∃ gt, gt = w2.heap.size := ⟨_, rfl⟩
    rw [← hgt]
    obtain ⟨wN, hwN⟩ : ∃ wN, wN = w2.alloc (.cells (SC [s0, s1, s2, s3, s4, s5, s6, s7] (.slice Av wb.length cv) (.int .u64 n) (.bool true)) 209) := ⟨_, rfl⟩
    rw [← hwN]
    have hGt : wN.heap[gt]? = some (.cells (SC [s0, s1, s2, s3, s4, s5, s6, s7] (.slice Av wb.length cv) (.int .u64 n) (.bool true)) 209 (0, 0)) := by rw [hwN, hgt]; exact heap_alloc_new w2 _
    have hOv : Ow wN w1.heap.size 5 (.slice Av wb.length cv) (B8 wb) := by rw [hwN]; exact Ow.alloc (base := w1.heap.size) ho _
    have hb' : Below w1.heap.size w1 w2 := ⟨hb.os, hb.tape, hb.output, hb.size, hb.block⟩
    have hBN : Below w1.heap.size w1 wN := by rw [hwN]; exact hb'.alloc hb'.size _
    have hgt1 : w1.heap.size ≤ gt := by rw [hgt]; exact hb'.size
    have hgN := Hg1.out
    clear hwN hgt hb ho hb'
    have hgtl : gt < wN.heap.size := (Array.getElem?_eq_some_iff.1 hGt).1
    have hgo : w.heap.size < w1.heap.size := (Array.getElem?_eq_some_iff.1 Hout1.out).1
    have hout2 := (hBN.block w.heap.size hgo).trans Hout1.out
    have hBw := hB1.trans (hBN.mono hB1.size)
    obtain ⟨e8, e9, e10, ef⟩ := sc_cell rfl hGt
    have HGt := Lib.hid hGt
    have Hout2 := Lib.hid hout2
    clear hGt hout2 ef d8 d9 d10 Hg1
    have hg2 : wN.heap[g]? = _ := (hBN.block g (by have := hB1.size; omega)).trans hgN
    obtain ⟨d8, d9, d10, df⟩ := sc_cell rfl hg2
    clear hg2 df
    go_simp
    go_wp2_with fail
    refine (tail_any n (by omega) wN).mono ?_
    rintro e w3 ⟨tv, rfl, hoT, hb3⟩
    obtain ⟨tl, htl0⟩ : ∃ tl, tl = tailL n 8 := ⟨_, rfl⟩
    have htl : tl.length ≤ 72 := by rw [htl0, tailL_length n 8 (Nat.le_refl _)]; omega
    rw [← htl0] at hoT
    have Htl := Lib.hid htl0
    clear htl0
    obtain ⟨At, ct, rfl, hct, hct2⟩ := own_form hoT
    have hGt3 := (hb3.block gt hgtl).trans HGt.out
    have hO3 := hOv.below hb3 (Nat.le_refl _)
    have hXt : Sx gt w3 At (B8 tl) := hoT.sx hgtl
    go_wp2_with fail
    refine (add_begun gt w1.heap.size [s0, s1, s2, s3, s4, s5, s6, s7] rfl _ wb (tl) n At ct w3 hgt1 hGt3 (Nat.le_trans hBN.size hb3.size) hO3 hXt (by omega) (by omega) hct hct2).mono ?_
    rintro e w4 ⟨rfl, hb4, A4, c4, hc4, hc4', hX4, hG4⟩
    obtain ⟨t0, ht0⟩ : ∃ t, t = blk [s0, s1, s2, s3, s4, s5, s6, s7] (wb ++ tl) ((wb ++ tl).length / 64) := ⟨_, rfl⟩
    have ht0l : t0.length = 8 := by rw [ht0, blk_length]; rfl
    have hb14 := (hBN.trans (hb3.mono hBN.size)).trans hb4
    have hout4 := (hb14.block w.heap.size hgo).trans Hout1.out
    have hBw4 := hB1.trans (hb14.mono hB1.size)
    have hgt4 : gt < w4.heap.size := (Array.getElem?_eq_some_iff.1 hG4).1
    have hr4 : w4.rangeAt gt 0 (W32 t0) := fun j v hv => by
      rw [Nat.zero_add, cell_of_row w4 gt j _ _ (0, 0) hG4, SC, ← ht0]
      have hj : j < (W32 t0).length := (List.getElem?_eq_some_iff.1 hv).1
      rw [List.getElem?_toArray, List.getElem?_append_left hj]; exact hv
    have Ht0 := Lib.hid ht0
    clear ht0
    have hr5 : (w4.alloc (.cells (Array.replicate 32 (.int .u8 0)) 168)).rangeAt gt 0 (W32 t0) := fun j v hv => (World.cell?_alloc_lt w4 _ _ (by exact hgt4)).trans (hr4 j v hv)
    have Hr5 := Lib.hid hr5
    have Hout4 := Lib.hid hout4
    have Hi5 : Hid ((Tryz.prog.info? 207).map (·.size) = some (W32 t0).length) := Lib.hid (by rw [W32_length, ht0l]; kernel_rfl)
    clear hr4 hr5 hout4 hG4 hGt3 hO3 hXt e8 e9 e10 d8 d9 d10 hX4 HGt Hout2 Hr1 hoT htl
    go_wp2_with (refine wpList_load_mid rfl 207 (.tmp 31) rfl gt 0 rfl (W32 t0) (.array 8 55) Hr5.out (by kernel_rfl) rfl Hi5.out ?_)
    obtain ⟨tc, htc⟩ : ∃ tc, tc = (W32 t0).toArray := ⟨_, rfl⟩
    rw [← htc]
    have Htc := Lib.hid htc
    have hol : (be32 t0).length = 32 := by rw [be32_length, ht0l]
    obtain ⟨oc, hoc⟩ : ∃ oc, oc = (B8 (be32 t0)).toArray := ⟨_, rfl⟩
    have hocz : oc.size = 32 := by rw [hoc]; simp [hol]
    have Hoinf : Hid ((Tryz.prog.info? 168).map (·.size) = some oc.size) := Lib.hid (by rw [hocz]; kernel_rfl)
    have Hocz : Hid ((Array.replicate 32 (Value.int .u8 0)).size = oc.size) := Lib.hid (by rw [hocz]; simp)
    have Hone : Hid (oc.all (·.oneCell') = true) := Lib.hid (by rw [hoc]; exact all_oneCell_toArray (B8_oneCell _))
    have Hoc := Lib.hid hoc
    clear htc hBw hb4 hb3 Hr5 Hi5 hoc hocz
    go_loopw [33] (fun i wr => ∃ k : Nat, k ≤ 8 ∧ i = .int .i64 k ∧ Fill wr w4.heap.size 168 32 (B8 (be32 t0)) (4 * k) ∧ Below w4.heap.size w4 wr) (fun i _ => 8 - (intOf i).toNat)
    case atStart => exact ⟨0, Nat.zero_le _, rfl, Fill.new' w4 _ 32 (.int .u8 0) _, (Below.refl _ _).alloc (Nat.le_refl _) _⟩
    case round =>
      obtain ⟨k, hk, rfl, hfill, hbw⟩ := hrel
      by_cases hlt : k < 8
      · obtain ⟨x, hx⟩ : ∃ x, x = t0[k] := ⟨_, rfl⟩
        have hix := run_index_u32 (P := Tryz.prog) 207 55 8 tc .i64 k (.int .u32 (x.toNat : Int)) (by kernel_rfl) (by kernel_rfl) (by kernel_rfl) hlt (by rw [Htc.out]; simp [W32, ht0l, hlt, hx])
        have hxl := x.isLt
        obtain ⟨v0, c0⟩ := hfill.cell (j := 4 * k) (by omega)
        obtain ⟨v1, c1⟩ := hfill.cell (j := 4 * k + 1) (by omega)
        obtain ⟨v2, c2⟩ := hfill.cell (j := 4 * k + 2) (by omega)
        obtain ⟨v3, c3⟩ := hfill.cell (j := 4 * k + 3) (by omega)
        have z0 := hfill.frozen (4 * k)
        have z1 := hfill.frozen (4 * k + 1)
        have z2 := hfill.frozen (4 * k + 2)
        have z3 := hfill.frozen (4 * k + 3)
        have Hx := Lib.hid hx
        clear hx
        go_wp2_with fail
        obtain ⟨g0, g1, g2, g3⟩ := be32_get t0 k (by omega)
        rw [← Hx.out] at g0 g1 g2 g3
        have b8 : ∀ (j m : Nat), (be32 t0)[j]? = some (UInt8.ofNat m) → (B8 (be32 t0))[j]? = some (Value.int IntKind.u8 ((m % 256 : Nat) : Int)) := fun j m h => by
          rw [B8, List.getElem?_map, h]; simp
        have f1 := hfill.set (by omega) (b8 _ _ g0)
        have f2 := f1.set (by omega) (b8 _ _ g1)
        have f3 := f2.set (by omega) (b8 _ _ g2)
        have f4 := f3.set (by omega) (b8 _ _ g3)
        have e0 : ((x.toNat / 16777216 % 256 : Nat) : Int) = (x.toNat : Int) / 16777216 := by omega
        have e1 : ((x.toNat / 65536 % 256 : Nat) : Int) = (x.toNat : Int) / 65536 % 256 := by omega
        have e2 : ((x.toNat / 256 % 256 : Nat) : Int) = (x.toNat : Int) / 256 % 256 := by omega
        have e3 : ((x.toNat % 256 : Nat) : Int) = (x.toNat : Int) % 256 := by omega
        rw [e0, e1, e2, e3] at f4
        have hbE := (((hbw.setCell (p := ⟨w4.heap.size, 4 * k, none⟩) (Nat.le_refl _) (.int .u8 ((x.toNat : Int) / 16777216))).setCell (p := ⟨w4.heap.size, 4 * k + 1, none⟩) (Nat.le_refl _) (.int .u8 ((x.toNat : Int) / 65536 % 256))).setCell (p := ⟨w4.heap.size, 4 * k + 2, none⟩) (Nat.le_refl _) (.int .u8 ((x.toNat : Int) / 256 % 256))).setCell (p := ⟨w4.heap.size, 4 * k + 3, none⟩) (Nat.le_refl _) (.int .u8 ((x.toNat : Int) % 256))
        exact ⟨⟨k + 1, by omega, rfl, f4, hbE⟩, by simp [intOf]; omega⟩
      · obtain rfl : k = 8 := by omega
        have hdone := hfill.done (by simp [hol])
        rw [← Hoc.out] at hdone
        have hgo4 : w.heap.size < w4.heap.size := by have := hBw4.size; have := hb14.size; omega
        have houtr := (hbw.block w.heap.size hgo4).trans Hout4.out
        have Hdone := Lib.hid hdone
        have Houtr := Lib.hid houtr
        clear hdone houtr hfill
        go_wp2_with (first | (refine wpList_load_row rfl 168 (.tmp 4) rfl w4.heap.size rfl 168 oc (0, 0) (.array 32 5) Hdone.out (by kernel_rfl) rfl Hoinf.out ?_) | (refine wpList_store_row rfl 168 (.tmp 2) (.tmp 64) rfl w.heap.size oc rfl rfl 168 _ Houtr.out Hoinf.out Hocz.out Hone.out ?_))
        refine bodyPost_ret (v := .agg oc) ?_ rfl ⟨by rw [Hoc.out, Ht0.out, Htl.out], below_setRow' (hBw4.trans (hbw.mono (by omega))) (Nat.le_refl _) _⟩
        exact results_cell_row rfl _ _ w.heap.size 168 oc (0, 0) (.array 32 5) rfl (setRow_heap _ _ _ _ _ _ Houtr.out) (by kernel_rfl) rfl Hoinf.out
  · go_wp2_with fail
    refine ⟨ext_alloc _ _, ?_⟩
    refine wpPlan_loud rfl rfl (fun K hK => ?_)
    go_wp2_with fail
    refine Calls.mono (clone_any A c wb _ ?hs (by omega)) ?_
    case hs => exact (show Sx g (World.drew (w1.alloc _)) A (B8 wb) from hX1.alloc _).sl
    rintro e w2 ⟨v, rfl, ho, hb⟩
    obtain ⟨Av, cv, rfl, hcv, hcv2⟩ := own_form ho
    go_wp2_with fail
    refine ⟨.inr (ext_of_below hb), ?_⟩
    refine wpPlan_build rfl rfl 209 _ rfl (SC [s0, s1, s2, s3, s4, s5, s6, s7] (.slice Av wb.length cv) (.int .u64 n) (.bool true)) (by kernel_rfl) ?_
    refine wpPlan_loud rfl rfl (fun K hK => ?_)
    have hg2 := (hb.block w1.heap.size (by show w1.heap.size < (w1.alloc _).heap.size; rw [World.size_alloc]; omega)).trans (heap_alloc_new w1 _)
    refine wp_store_row 209 (.tmp 3) (.tmp 24) rfl w1.heap.size (SC [s0, s1, s2, s3, s4, s5, s6, s7] (.slice Av wb.length cv) (.int .u64 n) (.bool true)) rfl rfl 209 _ hg2 (by kernel_rfl) rfl (sc_one _ _ _ _ _ _) ?_
    refine hK _ _ ⟨.inl (by decide), wpPlan_nil ?_⟩
    clear hK K
    simp only [Act.put]
    obtain ⟨gt, hgt⟩ : ∃ gt, gt = w1.heap.size := ⟨_, rfl⟩
    rw [← hgt]
    rw [← hgt] at hg2
    obtain ⟨wN, hwN⟩ : ∃ wN, wN = w2.setRow gt (SC [s0, s1, s2, s3, s4, s5, s6, s7] (.slice Av wb.length cv) (.int .u64 n) (.bool true)) := ⟨_, rfl⟩
    rw [← hwN]
    have hgt1 : w1.heap.size ≤ gt := by omega
    have hGt : wN.heap[gt]? = some (.cells (SC [s0, s1, s2, s3, s4, s5, s6, s7] (.slice Av wb.length cv) (.int .u64 n) (.bool true)) 209 (0, 0)) := by rw [hwN]; exact setRow_heap _ _ _ _ _ _ hg2
    have hOv : Ow wN w1.heap.size 5 (.slice Av wb.length cv) (B8 wb) := by
      rw [hwN]
      refine (ho.mono (by show w1.heap.size ≤ (w1.alloc _).heap.size; rw [World.size_alloc]; omega)).kept (grown_setRow w2 gt _) (fun r hr e => ?_)
      have := (ho.row r hr).1
      injection e with e
      rw [show (World.drew (w1.alloc _)).heap.size = w1.heap.size + 1 from World.size_alloc _ _] at this
      omega
    have hb' : Below w1.heap.size w1 w2 := Below.trans (((Below.refl _ w1).alloc (Nat.le_refl _) _).drew) (hb.mono (by show w1.heap.size ≤ (w1.alloc _).heap.size; rw [World.size_alloc]; omega))
    have hBN : Below w1.heap.size w1 wN := by rw [hwN]; exact below_setRow' hb' hgt1 _
    have hgN := Hg1.out
    clear hwN hgt hb ho hb' hg2
    have hgtl : gt < wN.heap.size := (Array.getElem?_eq_some_iff.1 hGt).1
    have hgo : w.heap.size < w1.heap.size := (Array.getElem?_eq_some_iff.1 Hout1.out).1
    have hout2 := (hBN.block w.heap.size hgo).trans Hout1.out
    have hBw := hB1.trans (hBN.mono hB1.size)
    obtain ⟨e8, e9, e10, ef⟩ := sc_cell rfl hGt
    have HGt := Lib.hid hGt
    have Hout2 := Lib.hid hout2
    clear hGt hout2 ef d8 d9 d10 Hg1
    have hg2 : wN.heap[g]? = _ := (hBN.block g (by have := hB1.size; omega)).trans hgN
    obtain ⟨d8, d9, d10, df⟩ := sc_cell rfl hg2
    clear hg2 df
    go_simp
    go_wp2_with fail
    refine (tail_any n (by omega) wN).mono ?_
    rintro e w3 ⟨tv, rfl, hoT, hb3⟩
    obtain ⟨tl, htl0⟩ : ∃ tl, tl = tailL n 8 := ⟨_, rfl⟩
    have htl : tl.length ≤ 72 := by rw [htl0, tailL_length n 8 (Nat.le_refl _)]; omega
    rw [← htl0] at hoT
    have Htl := Lib.hid htl0
    clear htl0
    obtain ⟨At, ct, rfl, hct, hct2⟩ := own_form hoT
    have hGt3 := (hb3.block gt hgtl).trans HGt.out
    have hO3 := hOv.below hb3 (Nat.le_refl _)
    have hXt : Sx gt w3 At (B8 tl) := hoT.sx hgtl
    go_wp2_with fail
    refine (add_begun gt w1.heap.size [s0, s1, s2, s3, s4, s5, s6, s7] rfl _ wb (tl) n At ct w3 hgt1 hGt3 (Nat.le_trans hBN.size hb3.size) hO3 hXt (by omega) (by omega) hct hct2).mono ?_
    rintro e w4 ⟨rfl, hb4, A4, c4, hc4, hc4', hX4, hG4⟩
    obtain ⟨t0, ht0⟩ : ∃ t, t = blk [s0, s1, s2, s3, s4, s5, s6, s7] (wb ++ tl) ((wb ++ tl).length / 64) := ⟨_, rfl⟩
    have ht0l : t0.length = 8 := by rw [ht0, blk_length]; rfl
    have hb14 := (hBN.trans (hb3.mono hBN.size)).trans hb4
    have hout4 := (hb14.block w.heap.size hgo).trans Hout1.out
    have hBw4 := hB1.trans (hb14.mono hB1.size)
    have hgt4 : gt < w4.heap.size := (Array.getElem?_eq_some_iff.1 hG4).1
    have hr4 : w4.rangeAt gt 0 (W32 t0) := fun j v hv => by
      rw [Nat.zero_add, cell_of_row w4 gt j _ _ (0, 0) hG4, SC, ← ht0]
      have hj : j < (W32 t0).length := (List.getElem?_eq_some_iff.1 hv).1
      rw [List.getElem?_toArray, List.getElem?_append_left hj]; exact hv
    have Ht0 := Lib.hid ht0
    clear ht0
    have hr5 : (w4.alloc (.cells (Array.replicate 32 (.int .u8 0)) 168)).rangeAt gt 0 (W32 t0) := fun j v hv => (World.cell?_alloc_lt w4 _ _ (by exact hgt4)).trans (hr4 j v hv)
    have Hr5 := Lib.hid hr5
    have Hout4 := Lib.hid hout4
    have Hi5 : Hid ((Tryz.prog.info? 207).map (·.size) = some (W32 t0).length) := Lib.hid (by rw [W32_length, ht0l]; kernel_rfl)
    clear hr4 hr5 hout4 hG4 hGt3 hO3 hXt e8 e9 e10 d8 d9 d10 hX4 HGt Hout2 Hr1 hoT htl
    go_wp2_with (refine wpList_load_mid rfl 207 (.tmp 31) rfl gt 0 rfl (W32 t0) (.array 8 55) Hr5.out (by kernel_rfl) rfl Hi5.out ?_)
    obtain ⟨tc, htc⟩ : ∃ tc, tc = (W32 t0).toArray := ⟨_, rfl⟩
    rw [← htc]
    have Htc := Lib.hid htc
    have hol : (be32 t0).length = 32 := by rw [be32_length, ht0l]
    obtain ⟨oc, hoc⟩ : ∃ oc, oc = (B8 (be32 t0)).toArray := ⟨_, rfl⟩
    have hocz : oc.size = 32 := by rw [hoc]; simp [hol]
    have Hoinf : Hid ((Tryz.prog.info? 168).map (·.size) = some oc.size) := Lib.hid (by rw [hocz]; kernel_rfl)
    have Hocz : Hid ((Array.replicate 32 (Value.int .u8 0)).size = oc.size) := Lib.hid (by rw [hocz]; simp)
    have Hone : Hid (oc.all (·.oneCell') = true) := Lib.hid (by rw [hoc]; exact all_oneCell_toArray (B8_oneCell _))
    have Hoc := Lib.hid hoc
    clear htc hBw hb4 hb3 Hr5 Hi5 hoc hocz
    go_loopw [33] (fun i wr => ∃ k : Nat, k ≤ 8 ∧ i = .int .i64 k ∧ Fill wr w4.heap.size 168 32 (B8 (be32 t0)) (4 * k) ∧ Below w4.heap.size w4 wr) (fun i _ => 8 - (intOf i).toNat)
    case atStart => exact ⟨0, Nat.zero_le _, rfl, Fill.new' w4 _ 32 (.int .u8 0) _, (Below.refl _ _).alloc (Nat.le_refl _) _⟩
    case round =>
      obtain ⟨k, hk, rfl, hfill, hbw⟩ := hrel
      by_cases hlt : k < 8
      · obtain ⟨x, hx⟩ : ∃ x, x = t0[k] := ⟨_, rfl⟩
        have hix := run_index_u32 (P := Tryz.prog) 207 55 8 tc .i64 k (.int .u32 (x.toNat : Int)) (by kernel_rfl) (by kernel_rfl) (by kernel_rfl) hlt (by rw [Htc.out]; simp [W32, ht0l, hlt, hx])
        have hxl := x.isLt
        obtain ⟨v0, c0⟩ := hfill.cell (j := 4 * k) (by omega)
        obtain ⟨v1, c1⟩ := hfill.cell (j := 4 * k + 1) (by omega)
        obtain ⟨v2, c2⟩ := hfill.cell (j := 4 * k + 2) (by omega)
        obtain ⟨v3, c3⟩ := hfill.cell (j := 4 * k + 3) (by omega)
        have z0 := hfill.frozen (4 * k)
        have z1 := hfill.frozen (4 * k + 1)
        have z2 := hfill.frozen (4 * k + 2)
        have z3 := hfill.frozen (4 * k + 3)
        have Hx := Lib.hid hx
        clear hx
        go_wp2_with fail
        obtain ⟨g0, g1, g2, g3⟩ := be32_get t0 k (by omega)
        rw [← Hx.out] at g0 g1 g2 g3
        have b8 : ∀ (j m : Nat), (be32 t0)[j]? = some (UInt8.ofNat m) → (B8 (be32 t0))[j]? = some (Value.int IntKind.u8 ((m % 256 : Nat) : Int)) := fun j m h => by
          rw [B8, List.getElem?_map, h]; simp
        have f1 := hfill.set (by omega) (b8 _ _ g0)
        have f2 := f1.set (by omega) (b8 _ _ g1)
        have f3 := f2.set (by omega) (b8 _ _ g2)
        have f4 := f3.set (by omega) (b8 _ _ g3)
        have e0 : ((x.toNat / 16777216 % 256 : Nat) : Int) = (x.toNat : Int) / 16777216 := by omega
        have e1 : ((x.toNat / 65536 % 256 : Nat) : Int) = (x.toNat : Int) / 65536 % 256 := by omega
        have e2 : ((x.toNat / 256 % 256 : Nat) : Int) = (x.toNat : Int) / 256 % 256 := by omega
        have e3 : ((x.toNat % 256 : Nat) : Int) = (x.toNat : Int) % 256 := by omega
        rw [e0, e1, e2, e3] at f4
        have hbE := (((hbw.setCell (p := ⟨w4.heap.size, 4 * k, none⟩) (Nat.le_refl _) (.int .u8 ((x.toNat : Int) / 16777216))).setCell (p := ⟨w4.heap.size, 4 * k + 1, none⟩) (Nat.le_refl _) (.int .u8 ((x.toNat : Int) / 65536 % 256))).setCell (p := ⟨w4.heap.size, 4 * k + 2, none⟩) (Nat.le_refl _) (.int .u8 ((x.toNat : Int) / 256 % 256))).setCell (p := ⟨w4.heap.size, 4 * k + 3, none⟩) (Nat.le_refl _) (.int .u8 ((x.toNat : Int) % 256))
        exact ⟨⟨k + 1, by omega, rfl, f4, hbE⟩, by simp [intOf]; omega⟩
      · obtain rfl : k = 8 := by omega
        have hdone := hfill.done (by simp [hol])
        rw [← Hoc.out] at hdone
        have hgo4 : w.heap.size < w4.heap.size := by have := hBw4.size; have := hb14.size; omega
        have houtr := (hbw.block w.heap.size hgo4).trans Hout4.out
        have Hdone := Lib.hid hdone
        have Houtr := Lib.hid houtr
        clear hdone houtr hfill
        go_wp2_with (first | (refine wpList_load_row rfl 168 (.tmp 4) rfl w4.heap.size rfl 168 oc (0, 0) (.array 32 5) Hdone.out (by kernel_rfl) rfl Hoinf.out ?_) | (refine wpList_store_row rfl 168 (.tmp 2) (.tmp 64) rfl w.heap.size oc rfl rfl 168 _ Houtr.out Hoinf.out Hocz.out Hone.out ?_))
        refine bodyPost_ret (v := .agg oc) ?_ rfl ⟨by rw [Hoc.out, Ht0.out, Htl.out], below_setRow' (hBw4.trans (hbw.mono (by omega))) (Nat.le_refl _) _⟩
        exact results_cell_row rfl _ _ w.heap.size 168 oc (0, 0) (.array 32 5) rfl (setRow_heap _ _ _ _ _ _ Houtr.out) (by kernel_rfl) rfl Hoinf.out
end Go.Proofs.YtcjioogololnoaaGreatDoor
