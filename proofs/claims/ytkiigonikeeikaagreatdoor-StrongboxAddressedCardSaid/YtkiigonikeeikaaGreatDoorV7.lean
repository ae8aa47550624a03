/- script.PayScript; script.PayWitness. -/
import Derived.Test.YtkiigonikeeikaaGreatDoorU21
import Derived.Great.Ranges
namespace Go.Proofs.YtkiigonikeeikaaGreatDoor
open Go.RowKit Go.Shelf

set_option maxRecDepth 100000 in
set_option maxHeartbeats 4000000 in
theorem payscript_any (h : List UInt8) (hl : h.length = 20) (w : World) :
    Calls Tryz.prog 16 #[.agg (B8 h).toArray] w fun e W' => ∃ v, e = .returned v ∧ Ow W' w.heap.size 5 v (B8 ([169, 20] ++ h ++ [135])) ∧ Below w.heap.size w W' := by
  obtain ⟨cs, hcs⟩ : ∃ cs, cs = (B8 h).toArray := ⟨_, rfl⟩
  rw [← hcs]
  have hcz : cs.size = 20 := by rw [hcs]; simp [hl]
  have Hcs := Lib.hid hcs
  clear hcs
  go_enter Tryz.func16, Tryz.ntmps16
  have hSh : ∀ o, Sl ((w.alloc (.cells cs 41)).alloc o) ((w.alloc (.cells cs 41)).alloc o).heap.size (some ⟨w.heap.size, 0, none⟩) (B8 h) := fun o _ => ⟨w.heap.size, 0, rfl, by simp; omega, fun j hj => by
    have hz := Below.heap_alloc (w.alloc (.cells cs 41)) o w.heap.size (by simp)
    rw [heap_alloc_new w (.cells cs 41)] at hz
    rw [cell_of_row _ _ _ _ _ (0, 0) hz, Hcs.out]
    simp at hj
    simp [hj]⟩
  have HSh := Lib.hid hSh
  clear hSh
  have ho0 : Ow ((w.alloc (.cells cs 41)).alloc (.cells #[.int .u8 169, .int .u8 20] 5)) w.heap.size 5 (.slice (some ⟨w.heap.size + 1, 0, none⟩) 2 2) (B8 [169, 20]) := by
    have := Ow.of_row (w := w.alloc (.cells cs 41)) (cap := 2) #[.int .u8 169, .int .u8 20] 5 w.heap.size (by simp) rfl (by simp [maxLen]) 2 (Nat.le_refl _)
    rw [World.size_alloc] at this
    exact this
  have Hlen3 : Hid (([169, 20] ++ h).length = 22) := Lib.hid (by simp [hl])
  have hb0 : Below w.heap.size w ((w.alloc (.cells cs 41)).alloc (.cells #[.int .u8 169, .int .u8 20] 5)) := ((Below.refl _ w).alloc (Nat.le_refl _) _).alloc (by simp) _
  have hz0 : w.heap.size ≤ ((w.alloc (.cells cs 41)).alloc (.cells #[.int .u8 169, .int .u8 20] 5)).heap.size := hb0.size
  go_wp2_with (first | (refine wpList_boxTo rfl 41 (.tmp 0) rfl _ rfl w.heap.size rfl cs rfl ?_) | (at_builtin; go_loud (refine wpList_append_Ow (m := 1) (c := 1) (base := w.heap.size) (xs := B8 ([169, 20] ++ h)) (v := .slice A3 22 c3) (A := some ⟨w3.heap.size, 0, none⟩) (B := w3.heap.size + 1) (news := [.int .u8 135]) elB rfl (.tmp 5) (.tmp 6) rfl rfl (ho3.alloc _) rfl (Sl.one w3 _ _) rfl (by simp; rfl) (by rw [B8_length]; simp [maxLen, hl]) (by rw [B8_length]; simp [hl]) (by simp; omega) ?_); intro v4 w4 ho4 hg4 hr4; rw [b8_snoc ([169, 20] ++ h) (.int .u8 135) 135 rfl] at ho4) | (at_builtin; go_loud (refine wpList_append_Ow (m := 20) (c := 20) (base := w.heap.size) (xs := B8 [169, 20]) (v := .slice (some ⟨w.heap.size + 1, 0, none⟩) 2 2) (A := some ⟨w.heap.size, 0, none⟩) (news := B8 h) elB rfl (.tmp 3) (.tmp 4) rfl rfl ho0 rfl (HSh.out _) (by rw [B8_length]; exact hl) (B8_oneCell _) (by rw [B8_length]; simp [maxLen]) (by rw [B8_length]; simp) hz0 ?_); intro v3 w3 ho3 hg3 hr3; rw [← B8_append] at ho3; obtain ⟨A3, c3, hv3, hc3, hc3'⟩ := own_form ho3; rw [Hlen3.out] at hv3 hc3; subst hv3; have hb3 := hb0.grown hg3 hz0 (fun r hr => (ho0.row r hr).1); have hz3 := hb3.size))
  go_ret
  exact ⟨v4, rfl, ho4, push_below hb3 (Nat.le_refl _) ho3 hg4⟩

set_option maxHeartbeats 400000 in
theorem code_zero (w : World) : Calls Tryz.prog 22 #[.int .i64 0] w fun e w' => e = .returned (.int .u8 0) ∧ w' = w := by
  go_enter Tryz.func22, Tryz.ntmps22
  go_wp2
  go_ret
  exact ⟨rfl, rfl⟩

set_option maxRecDepth 100000 in
set_option maxHeartbeats 4000000 in
theorem paywitness_any (A : Option Addr) (c : Nat) (h : List UInt8) (hl : h.length = 32) (w : World) (hs : Sl w w.heap.size A (B8 h)) :
    Calls Tryz.prog 10 #[.int .i64 0, .slice A 32 c] w fun e W' => ∃ v, e = .returned (.tuple #[v, .int .i64 0]) ∧ Ow W' w.heap.size 5 v (B8 (0 :: 32 :: h)) ∧ Below w.heap.size w W' := by
  have ho0 : Ow (w.alloc (.cells #[.int .u8 0, .int .u8 32] 5)) w.heap.size 5 (.slice (some ⟨w.heap.size, 0, none⟩) 2 2) (B8 [0, 32]) :=
    Ow.of_row (w := w) (cap := 2) #[.int .u8 0, .int .u8 32] 5 w.heap.size (Nat.le_refl _) rfl (by simp [maxLen]) 2 (Nat.le_refl _)
  have hb0 : Below w.heap.size w (w.alloc (.cells #[.int .u8 0, .int .u8 32] 5)) := (Below.refl _ w).alloc (Nat.le_refl _) _
  have hz0 := hb0.size
  have hs0 : Sl (w.alloc (.cells #[.int .u8 0, .int .u8 32] 5)) (w.alloc (.cells #[.int .u8 0, .int .u8 32] 5)).heap.size A (B8 h) := (hs.below hb0).mono hz0
  go_enter Tryz.func10, Tryz.ntmps10
  go_wp2_with (first | (go_at_call 22; refine (code_zero _).mono ?_; rintro e w' ⟨rfl, hw1⟩; rw [hw1]; clear hw1) | (at_builtin; go_loud (refine wpList_append_Ow (m := 32) (c := c) (base := w.heap.size) (xs := B8 [0, 32]) (v := .slice (some ⟨w.heap.size, 0, none⟩) 2 2) (A := A) (news := B8 h) elB rfl (.tmp 27) (.tmp 28) rfl rfl ho0 rfl hs0 (by rw [B8_length]; exact hl) (B8_oneCell _) (by rw [B8_length]; simp [maxLen]) (by rw [B8_length]; simp) hz0 ?_); intro v3 w3 ho3 hg3 hr3; rw [← B8_append] at ho3))
  go_ret2
  exact ⟨v3, rfl, ho3, hb0.grown hg3 hz0 (fun r hr => (ho0.row r hr).1)⟩
end Go.Proofs.YtkiigonikeeikaaGreatDoor
