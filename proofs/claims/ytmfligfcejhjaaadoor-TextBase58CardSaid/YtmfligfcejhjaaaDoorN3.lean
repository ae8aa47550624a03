/- text.Check58. -/
import Derived.Test.YtmfligfcejhjaaaDoorN2
namespace Go.Proofs.YtmfligfcejhjaaaDoor
open Go.RowKit Go.Shelf

/-- Bytes with their check. -/
def checked (b : List UInt8) : List UInt8 := b ++ (sha (sha b)).take 4
theorem checked_length (b : List UInt8) : (checked b).length = b.length + 4 := by simp [checked, sha_length]

set_option maxRecDepth 100000 in
set_option maxHeartbeats 4000000 in
theorem check58_any (A : Option Addr) (c : Nat) (b : List UInt8) (w : World) (hs : Sl w w.heap.size A (B8 b)) (hl : b.length ≤ 280) (hbc : b.length ≤ c) (hc : c ≤ maxLen) :
    Calls Tryd.prog 8 #[.slice A b.length c] w fun e W' => e = .returned (.string ⟨(b58L (checked b)).toArray⟩) ∧ Below w.heap.size w W' := by
  have hmx : Tryd.prog.follows .mixedOrders = true := by kernel_rfl
  go_enter Tryd.func8, Tryd.ntmps8
  go_wp2_with fail
  refine (double_any A c b w hs (by omega) hbc hc).mono ?_
  rintro e w1 ⟨rfl, hB1⟩
  obtain ⟨h1, hh1⟩ : ∃ h1, h1 = sha (sha b) := ⟨_, rfl⟩
  have hl1 : h1.length = 32 := by rw [hh1]; exact sha_length _
  rw [← hh1]
  obtain ⟨oc, hoc⟩ : ∃ oc, oc = (B8 h1).toArray := ⟨_, rfl⟩
  have hocz : oc.size = 32 := by rw [hoc]; simp [hl1]
  have Hoinf : Hid ((Tryd.prog.info? 43).map (·.size) = some oc.size) := Lib.hid (by rw [hocz]; kernel_rfl)
  have Hocz : Hid ((Array.replicate 32 (Value.int .u8 0)).size = oc.size) := Lib.hid (by rw [hocz]; simp)
  have Hone : Hid (oc.all (·.oneCell') = true) := Lib.hid (by rw [hoc]; exact all_oneCell_toArray (B8_oneCell _))
  rw [← hoc]
  have Hoc := Lib.hid hoc
  have Hh1 := Lib.hid hh1
  have hz1 := hB1.size
  have hs1 := (hs.below hB1)
  clear hoc hh1 hocz hs
  go_wp2_with (refine wpList_store_row rfl 43 (.tmp 3) (.tmp 5) rfl w1.heap.size oc rfl rfl 43 _ (heap_alloc_new w1 _) Hoinf.out Hocz.out Hone.out ?_; rw [World.setRow_alloc_new])
  obtain ⟨w2, hw2⟩ : ∃ w2, w2 = w1.alloc (.cells oc 43) := ⟨_, rfl⟩
  obtain ⟨gh, hgh⟩ : ∃ gh, gh = w1.heap.size := ⟨_, rfl⟩
  rw [← hgh, ← hw2]
  have hB2 : Below w1.heap.size w1 w2 := by rw [hw2]; exact (Below.refl _ _).alloc (Nat.le_refl _) _
  have hz2 : w2.heap.size = w1.heap.size + 1 := by rw [hw2]; exact World.size_alloc _ _
  have hg2 : w2.heap[gh]? = some (.cells (B8 h1).toArray 43 (0, 0)) := by rw [hw2, ← Hoc.out, hgh]; exact heap_alloc_new w1 _
  have hs2 : Sl w2 w2.heap.size A (B8 b) := (hs1.below (hB2.mono hz1)).mono (by omega)
  have hgl : gh < w2.heap.size := by omega
  have hBw2 := hB1.trans (hB2.mono hz1)
  have Hg2 := Lib.hid hg2
  have Hs2 := Lib.hid hs2
  clear hg2 hw2 hs1 hs2 hgh Hoinf Hocz Hone Hoc
  refine wp_region_plan [(0, 0), (2, 0), (1, 2), (3, 2), (4, 2), (5, 2)] 3 hmx (by kernel_rfl) (by intro c a d v w h; cases d <;> exact h) ?_
  repeat ((first | (refine wpPlan_pure rfl (fun K hK => ?_)) | (refine wpPlan_quiet rfl (fun K hK => ?_))); go_simp; (first | (refine hK _ ?_) | (simp only [IntWalk.iteOmega]; go_simp; refine hK _ ?_) | (go_bits; go_simp; refine hK _ ?_)); clear hK K; (try go_bits))
  refine wpPlan_loud rfl rfl (fun K hK => ?_)
  go_wp2_with fail
  refine (clone_any A c b w2.drew Hs2.out (by omega)).mono ?_
  rintro e w3 ⟨v, rfl, ho, hb3⟩
  obtain ⟨Av, cv, rfl, hcv, hcv'⟩ := own_form ho
  go_wp2_with fail
  refine ⟨.inr (ext_of_below hb3), ?_⟩
  refine wpPlan_loud rfl rfl (fun K hK => ?_)
  have hb3' : Below w2.heap.size w2 w3 := ⟨hb3.os, hb3.tape, hb3.output, hb3.size, hb3.block⟩
  have hz3 := hb3'.size
  have hg3 := (hb3'.block gh hgl).trans Hg2.out
  have hS3 : Sl w3 w3.heap.size (some ⟨gh, 0, none⟩) (B8 (h1.take 4)) := fun _ => ⟨_, 0, rfl, by omega, fun j hj => by
    have hj4 : j < 4 := by simp at hj; omega
    rw [cell_of_row w3 _ _ _ _ (0, 0) hg3, Nat.zero_add, B8_get]
    simp [B8, hl1, show j < 32 by omega]⟩
  refine wp_append_Ow (m := 4) (c := 32) (base := w2.heap.size) (xs := B8 b) (v := .slice Av b.length cv) (A := some ⟨gh, 0, none⟩) (B := w3.heap.size) (news := B8 (h1.take 4)) elB (.tmp 7) (.tmp 8) rfl rfl ho rfl hS3 (by simp [hl1]) (B8_oneCell _) (by rw [B8_length]; simp [maxLen]; omega) (by rw [B8_length]; omega) hz3 ?_
  intro v4 w4 ho4 hg4 hr4
  rw [← B8_append, Hh1.out] at ho4
  have hb4 := hb3'.grown hg4 hz3 (fun r hr => (ho.row r hr).1)
  refine hK _ _ ⟨.inl (by decide), ?_⟩
  clear hK K
  obtain ⟨A4, c4, rfl, hc4, hc4'⟩ := own_form ho4
  have hlen : (b ++ (sha (sha b)).take 4).length = b.length + 4 := checked_length b
  go_simp
  refine wpPlan_loud rfl rfl (fun K hK => ?_)
  go_wp2_with fail
  have hb58 := base58_any A4 c4 (checked b) (by rw [checked_length]; omega) w4 ho4.sl
  rw [checked_length] at hb58
  refine hb58.mono ?_
  rintro e w5 ⟨rfl, hB5⟩
  go_wp2_with fail
  refine ⟨.inl (by decide), ?_⟩
  refine wpPlan_loud rfl rfl (fun K hK => ?_)
  go_wp2_with fail
  refine ⟨.inl (by decide), ?_⟩
  refine wpPlan_nil ?_
  go_wp2_with fail
  go_ret
  exact ⟨rfl, (hBw2.trans (hb4.mono (by omega))).trans (hB5.mono (by have := hb4.size; omega))⟩
end Go.Proofs.YtmfligfcejhjaaaDoor
