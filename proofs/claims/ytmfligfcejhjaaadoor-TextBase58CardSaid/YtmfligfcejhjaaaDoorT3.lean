/- ref02.Double. -/
import Derived.Test.YtmfligfcejhjaaaDoorT2
namespace Go.Proofs.YtmfligfcejhjaaaDoor
open Go.RowKit Go.Shelf

set_option maxRecDepth 100000 in
set_option maxHeartbeats 2000000 in
theorem rdouble_any (A : Option Addr) (c : Nat) (b : List UInt8) (w : World) (hs : Sl w w.heap.size A (B8 b)) (hl : b.length ≤ 2048) (hbc : b.length ≤ c) (hc : c ≤ maxLen) :
    Calls Tryd.prog 25 #[.slice A b.length c] w fun e W' => e = .returned (.agg (B8 (sha (sha b))).toArray) ∧ Below w.heap.size w W' := by
  go_enter Tryd.func25, Tryd.ntmps25
  go_wp2_with fail
  obtain ⟨wa, hwa⟩ : ∃ wa, wa = w.alloc (.cells (Array.replicate 32 (.int .u8 0)) 42) := ⟨_, rfl⟩
  have hza : wa.heap.size = w.heap.size + 1 := by rw [hwa]; exact World.size_alloc _ _
  have hout : wa.heap[w.heap.size]? = some (.cells (Array.replicate 32 (.int .u8 0)) 42 (0, 0)) := by rw [hwa]; exact heap_alloc_new w _
  have hBa : Below w.heap.size w wa := by rw [hwa]; exact (Below.refl _ w).alloc (Nat.le_refl _) _
  have hsa := (hs.below hBa).mono (show w.heap.size ≤ wa.heap.size by omega)
  refine (show wa = _ from hwa) ▸ ?_
  clear hwa
  refine (rsum_any A c b wa hsa hl hbc hc).mono ?_
  rintro e w1 ⟨rfl, hB1⟩
  obtain ⟨h1, hh1⟩ : ∃ h1, h1 = sha b := ⟨_, rfl⟩
  have hl1 : h1.length = 32 := by rw [hh1]; exact sha_length b
  rw [← hh1]
  obtain ⟨oc, hoc⟩ : ∃ oc, oc = (B8 h1).toArray := ⟨_, rfl⟩
  have hocz : oc.size = 32 := by rw [hoc]; simp [hl1]
  have Hoinf : Hid ((Tryd.prog.info? 42).map (·.size) = some oc.size) := Lib.hid (by rw [hocz]; kernel_rfl)
  have Hocz : Hid ((Array.replicate 32 (Value.int .u8 0)).size = oc.size) := Lib.hid (by rw [hocz]; simp)
  have Hone : Hid (oc.all (·.oneCell') = true) := Lib.hid (by rw [hoc]; exact all_oneCell_toArray (B8_oneCell _))
  rw [← hoc]
  have Hoc := Lib.hid hoc
  have Hh1 := Lib.hid hh1
  have hz1 := hB1.size
  have hout1 := (hB1.block w.heap.size (by omega)).trans hout
  have Hout1 := Lib.hid hout1
  clear hoc hh1 hocz hout1 hout hsa hs
  go_wp2_with (refine wpList_store_row rfl 42 (.tmp 3) (.tmp 5) rfl w1.heap.size oc rfl rfl 42 _ (heap_alloc_new w1 _) Hoinf.out Hocz.out Hone.out ?_)
  rw [World.setRow_alloc_new]
  obtain ⟨w2, hw2⟩ : ∃ w2, w2 = w1.alloc (.cells oc 42) := ⟨_, rfl⟩
  rw [← hw2]
  have hB2 : Below w1.heap.size w1 w2 := by rw [hw2]; exact (Below.refl _ _).alloc (Nat.le_refl _) _
  have hz2 : w2.heap.size = w1.heap.size + 1 := by rw [hw2]; exact World.size_alloc _ _
  have hgh : w2.heap[w1.heap.size]? = some (.cells (B8 h1).toArray 42 (0, 0)) := by rw [hw2, ← Hoc.out]; exact heap_alloc_new w1 _
  have hS2 : Sl w2 w2.heap.size (some ⟨w1.heap.size, 0, none⟩) (B8 h1) := fun _ => ⟨_, 0, rfl, by omega, fun j hj => by
    rw [cell_of_row w2 _ _ _ _ (0, 0) hgh, Nat.zero_add]; simp⟩
  have hout2 := (hB2.block w.heap.size (by omega)).trans Hout1.out
  have hsum := rsum_any (some ⟨w1.heap.size, 0, none⟩) 32 h1 w2 hS2 (by omega) (by omega) (by decide)
  rw [hl1] at hsum
  refine hsum.mono ?_
  rintro e w3 ⟨rfl, hB3⟩
  have hout3 := (hB3.block w.heap.size (by omega)).trans hout2
  have hBw3 := ((hBa.trans (hB1.mono (by omega))).trans (hB2.mono (by omega))).trans (hB3.mono (by omega))
  rw [Hh1.out]
  obtain ⟨rr, hrr⟩ : ∃ rr, rr = sha (sha b) := ⟨_, rfl⟩
  have hrl : rr.length = 32 := by rw [hrr]; exact sha_length _
  rw [← hrr]
  clear Hoinf Hocz Hone Hoc hw2 hgh hS2 hsum
  obtain ⟨oc, hoc⟩ : ∃ oc, oc = (B8 rr).toArray := ⟨_, rfl⟩
  have hocz : oc.size = 32 := by rw [hoc]; simp [hrl]
  have Hoinf : Hid ((Tryd.prog.info? 42).map (·.size) = some oc.size) := Lib.hid (by rw [hocz]; kernel_rfl)
  have Hocz : Hid ((Array.replicate 32 (Value.int .u8 0)).size = oc.size) := Lib.hid (by rw [hocz]; simp)
  have Hone : Hid (oc.all (·.oneCell') = true) := Lib.hid (by rw [hoc]; exact all_oneCell_toArray (B8_oneCell _))
  have Hoc := Lib.hid hoc
  have Hrr := Lib.hid hrr
  have Hout3 := Lib.hid hout3
  rw [← hoc]
  clear hoc hrr hrl hocz hout3 hout2
  go_wp2_with (refine wpList_store_row rfl 42 (.tmp 2) (.tmp 7) rfl w.heap.size oc rfl rfl 42 _ Hout3.out Hoinf.out Hocz.out Hone.out ?_)
  refine bodyPost_ret (v := .agg oc) ?_ rfl ⟨by rw [Hoc.out, Hrr.out], below_setRow' hBw3 (Nat.le_refl _) _⟩
  exact results_cell_row rfl _ _ w.heap.size 42 oc (0, 0) (.array 32 5) rfl (setRow_heap _ _ _ _ _ _ Hout3.out) (by kernel_rfl) rfl Hoinf.out
end Go.Proofs.YtmfligfcejhjaaaDoor
