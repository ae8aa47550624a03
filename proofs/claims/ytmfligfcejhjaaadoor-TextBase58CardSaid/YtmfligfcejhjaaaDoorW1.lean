/- The law's awake. -/
import Derived.Test.YtmfligfcejhjaaaDoorC3
import Derived.Test.YtmfligfcejhjaaaDoorK3
import Derived.Test.YtmfligfcejhjaaaDoorH1
namespace Go.Proofs.YtmfligfcejhjaaaDoor
open Go.RowKit Go.Shelf

section
variable {P : Program} {ops : Array Oper} {N : Nat}
/-- An operation under a guard that lets it be done. -/
theorem wpPlan_loudG {i : Nat} {rest : List (Nat × Nat)} {o : Oper} {a : Act} {w : World} {Q : Exit → Act → World → Prop} (ho : ops[i]? = some o) (hg : Region.wanted o (yielded ops a.tmps) = true)
    (h : ∀ K : Act → World → Prop, (∀ a' w', ((N ≤ i ∨ Ext w w') ∧ wpPlan P ops (Q .normal) (fun i K a w => wpOp P ops Q i K a w) N rest a' w') → K a' w') → o.wp P a w K Q) :
    wpPlan P ops (Q .normal) (fun i K a w => wpOp P ops Q i K a w) N ((i, 2) :: rest) a w := by
  simp only [wpPlan, show ¬ (2 = 0) by decide, show ¬ (2 = 1) by decide, if_false, wpOp, ho, hg, if_true]
  exact .inl (h _ (fun _ _ h => h))
end

theorem b58_awake : b58L [0, 0, 1] = [49, 49, 50] := by decide
theorem hex_awake : hexL [10] = [48, 97] := by decide

set_option maxRecDepth 100000 in
set_option maxHeartbeats 4000000 in
theorem awake_any (w : World) : Calls Tryd.prog 4 #[] w fun e W' => e = .returned (.bool true) ∧ Below w.heap.size w W' := by
  have hmx : Tryd.prog.follows .mixedOrders = true := by kernel_rfl
  have hcs := checksum_any ⟨#[114, 97, 119, 40, 100, 101, 97, 100, 98, 101, 101, 102, 41]⟩ w (by decide) (by decide) (by decide)
  rw [show (⟨#[114, 97, 119, 40, 100, 101, 97, 100, 98, 101, 101, 102, 41]⟩ : ByteArray).data.toList = [114, 97, 119, 40, 100, 101, 97, 100, 98, 101, 101, 102, 41] from rfl, checksum_awake] at hcs
  go_enter Tryd.func4, Tryd.ntmps4
  go_wp2_with (go_at_call 17; refine hcs.mono ?_; clear hcs; rintro e w1 ⟨rfl, hb1⟩)
  have hb2 : Below w.heap.size w (w1.alloc (.cells #[.int .u8 0, .int .u8 0, .int .u8 1] 5)) := hb1.alloc hb1.size _
  obtain ⟨w2, hw2⟩ : ∃ w2, w2 = w1.alloc (.cells #[.int .u8 0, .int .u8 0, .int .u8 1] 5) := ⟨_, rfl⟩
  have hs2 : Sl w2 w2.heap.size (some ⟨w1.heap.size, 0, none⟩) (B8 [0, 0, 1]) := fun _ => ⟨w1.heap.size, 0, rfl, by rw [hw2]; simp, fun j hj => by
    rw [hw2, World.cell?, heap_alloc_new]
    match j, hj with
    | 0, _ => rfl
    | 1, _ => rfl
    | 2, _ => rfl⟩
  have h58 := base58_any (some ⟨w1.heap.size, 0, none⟩) 3 [0, 0, 1] (by decide) w2 hs2
  rw [b58_awake] at h58
  rw [← hw2] at hb2 ⊢
  clear hw2
  refine h58.mono ?_
  rintro e w3 ⟨rfl, hb3⟩
  clear h58
  go_wp2_with fail
  have hb13 : Below w.heap.size w w3 := hb2.trans (hb3.mono hb2.size)
  have hb4 : Below w.heap.size w (w3.alloc (.cells #[.int .u8 10] 5)) := hb13.alloc hb13.size _
  obtain ⟨w4, hw4⟩ : ∃ w4, w4 = w3.alloc (.cells #[.int .u8 10] 5) := ⟨_, rfl⟩
  have hs4 : Sl w4 w4.heap.size (some ⟨w3.heap.size, 0, none⟩) (B8 [10]) := fun _ => ⟨w3.heap.size, 0, rfl, by rw [hw4]; simp, fun j hj => by
    rw [hw4, World.cell?, heap_alloc_new]
    match j, hj with
    | 0, _ => rfl⟩
  have h16 := hex_any (some ⟨w3.heap.size, 0, none⟩) 1 [10] w4 hs4 (by decide)
  rw [hex_awake] at h16
  rw [← hw4] at hb4 ⊢
  clear hw4
  refine h16.mono ?_
  rintro e w5 ⟨rfl, hb5⟩
  clear h16
  go_wp2_with fail
  go_ret
  exact ⟨rfl, hb4.trans (hb5.mono hb4.size)⟩
end Go.Proofs.YtmfligfcejhjaaaDoor
