/- script.Program: of a script for a witness, and of one for some keys. -/
import Derived.Test.YtkiigonikeeikaaGreatDoorU20

/-! script.Program: of a script for a witness, and of one for some keys. -/
namespace Go.Proofs.YtkiigonikeeikaaGreatDoor
open Go.RowKit Go.Shelf

set_option maxRecDepth 100000 in
set_option maxHeartbeats 4000000 in
theorem program_hit (b o c : Nat) (h : List UInt8) (hl : h.length = 32) (w : World) (hs : Sl w w.heap.size (some ⟨b, o, none⟩) (B8 (0 :: 32 :: h))) (hc0 : 34 ≤ c) (hc : c ≤ maxLen) :
    Calls Tryz.prog 31 #[.slice (some ⟨b, o, none⟩) 34 c] w fun e W' => ∃ v, e = .returned (.tuple #[.int .i64 0, v, .bool true]) ∧ Ow W' w.heap.size 5 v (B8 h) ∧ Below w.heap.size w W' := by
  unfold maxLen at hc
  obtain ⟨b', o', e, hb, hcells⟩ := hs (by simp)
  cases e
  have c0 : w.cell? ⟨b, o, none⟩ = some (.int .u8 0) := hcells 0 (by simp)
  have c1 : w.cell? ⟨b, o + 1, none⟩ = some (.int .u8 32) := hcells 1 (by simp [B8])
  have hs2 : Sl w w.heap.size (some ⟨b, o + 2, none⟩) (B8 h) := fun _ => by
    refine ⟨b, o + 2, rfl, hb, fun j hj => ?_⟩
    have := hcells (j + 2) (by simp at hj ⊢; omega)
    rw [show o + 2 + j = o + (j + 2) by omega, this]
    rfl
  have hcl := bclone_any b (o + 2) (c - 2) h w hs2 (by omega)
  rw [hl] at hcl
  have hcd := bclone_any b (o + 2) (c - 2) h w.drew hs2 (by omega)
  rw [hl] at hcd
  have Hcl := Lib.hid hcl
  have Hcd := Lib.hid hcd
  have hc2 : c ≠ 2 := by omega
  clear hcl hcd hcells hs hs2 hl
  go_enter Tryz.func31, Tryz.ntmps31
  go_wp2_with (go_at_call 57; refine (small_zero _).mono ?_; rintro e w' ⟨rfl, rfl⟩)
  have hmx : Tryz.prog.follows .mixedOrders = true := by kernel_rfl
  refine wp_region_plan [(0, 0), (1, 0), (2, 1), (4, 0), (5, 0), (3, 2), (6, 2), (7, 0), (8, 0), (9, 0)] 10 hmx (by kernel_rfl) (by intro c a d v w h; cases d <;> exact h) ?_
  repeat ((first | (refine wpPlan_pure rfl (fun K hK => ?_)) | (refine wpPlan_quiet rfl (fun K hK => ?_))); go_simp; (first | (refine hK _ ?_) | (simp only [IntWalk.iteOmega]; go_simp; refine hK _ ?_) | (go_bits; go_simp; refine hK _ ?_)); clear hK K; (try go_bits))
  refine wpPlan_loud rfl rfl (fun K hK => ?_)
  go_wp2_with fail
  refine (small_zero _).mono ?_
  rintro e w1 ⟨rfl, hw1⟩
  rw [hw1]
  clear hw1 w1
  go_wp2_with fail
  refine ⟨.inr (Ext.refl _), ?_⟩
  refine wpPlan_loud rfl rfl (fun K hK => ?_)
  go_wp2_with fail
  refine Hcd.out.mono ?_
  rintro e w2 ⟨v, rfl, ho, hbl⟩
  go_wp2_with fail
  refine ⟨.inr (ext_of_below hbl), ?_⟩
  repeat ((first | (refine wpPlan_pure rfl (fun K hK => ?_)) | (refine wpPlan_quiet rfl (fun K hK => ?_))); go_simp; (first | (refine hK _ ?_) | (simp only [IntWalk.iteOmega]; go_simp; refine hK _ ?_) | (go_bits; go_simp; refine hK _ ?_)); clear hK K; (try go_bits))
  refine wpPlan_nil ?_
  go_wp2_with fail
  go_ret3
  exact ⟨v, rfl, ho, ⟨hbl.os, hbl.tape, hbl.output, hbl.size, hbl.block⟩⟩

set_option maxRecDepth 100000 in
set_option maxHeartbeats 4000000 in
theorem program_miss (A : Option Addr) (c : Nat) (q : Nat) (ks : List (List UInt8)) (w : World) (hk : ∀ k ∈ ks, k.length = 33) (hs : Sl w w.heap.size A (B8 (payL q ks))) (hbc : (payL q ks).length ≤ c) (hc : c ≤ maxLen) (hq : 1 ≤ q) (hqN : q ≤ ks.length) (hN16 : ks.length ≤ 16) :
    Calls Tryz.prog 31 #[.slice A (payL q ks).length c] w fun e w' => (∃ v u, e = .returned (.tuple #[v, u, .bool false])) ∧ w' = w := by
  unfold maxLen at hc
  have hL := payL_length q ks hk
  obtain ⟨b, o, rfl, hb, hcells⟩ := hs (by rw [B8_length]; omega)
  obtain ⟨y, hy⟩ : ∃ y, y = UInt8.ofNat (80 + q) := ⟨_, rfl⟩
  have cellAt : ∀ (j : Nat) (x : UInt8), (payL q ks)[j]? = some x → w.cell? ⟨b, o + j, none⟩ = some (.int .u8 (x.toNat : Int)) := fun j x hx => by
    obtain ⟨hj, e⟩ := List.getElem?_eq_some_iff.1 hx
    rw [hcells j (by rw [B8_length]; exact hj), B8_get, e]
  have c0 : w.cell? ⟨b, o, none⟩ = some (.int .u8 (y.toNat : Int)) := cellAt 0 y (by rw [payL_zero, hy])
  have c1 : w.cell? ⟨b, o + 1, none⟩ = some (.int .u8 33) := cellAt 1 33 (payL_key q ks hk 0 (by omega))
  have Hsm := Lib.hid (small_num q hq (by omega) y hy)
  obtain ⟨L, hLL⟩ : ∃ L, L = (payL q ks).length := ⟨_, rfl⟩
  rw [← hLL] at hL hbc ⊢
  have hy8 := y.toNat_lt
  have h4 : ¬ L < 4 := by omega
  have h37 : L = 37 ∨ 42 < L := by omega
  clear hcells cellAt hs hLL hL hy
  by_cases hb42 : 42 < L
  · have h42 : 42 < L := hb42
    go_enter Tryz.func31, Tryz.ntmps31
    go_wp2_with fail
    go_ret3
    exact ⟨⟨_, _, rfl⟩, rfl⟩
  · obtain rfl : L = 37 := by omega
    clear hb42 h37 h4
    go_enter Tryz.func31, Tryz.ntmps31
    go_wp2_with (go_at_call 57; refine (Hsm.out _).mono ?_; rintro e w' ⟨rfl, hw1⟩; rw [hw1]; clear hw1)
    go_ret3
    exact ⟨⟨_, _, rfl⟩, rfl⟩
end Go.Proofs.YtkiigonikeeikaaGreatDoor
