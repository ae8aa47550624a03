/- hash.Sum256, Twice, Double. -/
import Derived.Test.YtmfligfcejhjaaaDoorS6
namespace Go.Proofs.YtmfligfcejhjaaaDoor
open Go.RowKit Go.Shelf

theorem blk_front (st : List (BitVec 32)) (m t : List UInt8) (j : Nat) (h : 64 * j ≤ m.length) : blk st (m ++ t) j = blk st m j := by
  induction j with
  | zero => rfl
  | succ j ih => rw [blk, blk, ih (by omega), List.drop_append_of_le_length (by omega), List.take_append_of_le_length (by simp; omega)]
theorem blk_join (st : List (BitVec 32)) (m t : List UInt8) (j q : Nat) (h : 64 * j ≤ m.length) : blk (blk st m j) (m.drop (64 * j) ++ t) q = blk st (m ++ t) (j + q) := by
  induction q with
  | zero => rw [blk, Nat.add_zero, blk_front st m t j h]
  | succ q ih =>
    rw [blk, ih, ← Nat.add_assoc, blk, ← List.drop_append_of_le_length h, List.drop_drop]
    rw [show 64 * j + 64 * q = 64 * (j + q) by omega]
def msg (b : List UInt8) : List UInt8 := b ++ tailL b.length 8
/-- SHA-256, as plain words. -/
def sha (b : List UInt8) : List UInt8 := be32 (blk H256 (msg b) ((msg b).length / 64))
theorem sha_length (b : List UInt8) : (sha b).length = 32 := by rw [sha, be32_length, blk_length, H256_length]
theorem sha_parts (b : List UInt8) : be32 (blk (blk H256 b (b.length / 64)) (b.drop (64 * (b.length / 64)) ++ tailL b.length 8) ((b.drop (64 * (b.length / 64)) ++ tailL b.length 8).length / 64)) = sha b := by
  rw [sha, blk_join _ _ _ _ _ (by omega), msg]
  congr 2
  simp only [List.length_append, List.length_drop]
  omega

set_option maxRecDepth 100000 in
set_option maxHeartbeats 2000000 in
theorem sum256_any (A : Option Addr) (c : Nat) (b : List UInt8) (w : World) (hs : Sl w w.heap.size A (B8 b)) (hl : b.length ≤ 2048) (hbc : b.length ≤ c) (hc : c ≤ maxLen) :
    Calls Tryd.prog 52 #[.slice A b.length c] w fun e W' => e = .returned (.agg (B8 (sha b)).toArray) ∧ Below w.heap.size w W' := by
  have hs0 := hs
  go_enter Tryd.func52, Tryd.ntmps52
  go_wp2_with fail
  obtain ⟨wa, hwa⟩ : ∃ wa, wa = w.alloc (.cells (Array.replicate 32 (.int .u8 0)) 43) := ⟨_, rfl⟩
  obtain ⟨w1, hw1⟩ : ∃ w1, w1 = wa.alloc (.cells (SC (List.replicate 8 0) (.slice none 0 0) (.int .u64 (0 : Nat)) (.bool false)) 72) := ⟨_, rfl⟩
  have hza : wa.heap.size = w.heap.size + 1 := by rw [hwa]; exact World.size_alloc _ _
  have hz1 : w1.heap.size = w.heap.size + 2 := by rw [hw1, World.size_alloc, hza]
  have hgt : w1.heap[w.heap.size + 1]? = some (.cells (SC (List.replicate 8 0) (.slice none 0 0) (.int .u64 (0 : Nat)) (.bool false)) 72 (0, 0)) := by rw [hw1, ← hza]; exact heap_alloc_new wa _
  have hout : wa.heap[w.heap.size]? = some (.cells (Array.replicate 32 (.int .u8 0)) 43 (0, 0)) := by rw [hwa]; exact heap_alloc_new w _
  have hout1 : w1.heap[w.heap.size]? = some (.cells (Array.replicate 32 (.int .u8 0)) 43 (0, 0)) := by rw [hw1]; exact (Below.heap_alloc wa _ _ (by omega)).trans hout
  have hBa : Below w.heap.size w wa := by rw [hwa]; exact (Below.refl _ w).alloc (Nat.le_refl _) _
  have hB1 : Below w.heap.size w w1 := by rw [hw1]; exact hBa.alloc (by omega) _
  have hX1 : Sx (w.heap.size + 1) w1 A (B8 b) := fun hn => by
    obtain ⟨bb, o, e, hb, hcl⟩ := (hs0.below hB1) hn
    exact ⟨bb, o, e, by omega, by omega, hcl⟩
  refine (show w1 = _ by rw [hw1, hwa]) ▸ ?_
  clear hwa hw1 hout hBa
  refine (add_new (w.heap.size + 1) (w.heap.size + 1) (List.replicate 8 0) (by simp) (.slice none 0 0) [] b 0 A c w1 (Nat.le_refl _) hgt (by omega) (Ow.nil_ _ _ _ _) hX1 (by omega) (by simpa using (by omega : b.length ≤ 8192)) hbc hc).mono ?_
  rintro e w2 ⟨rfl, hB2, A2, c2, hc2, hc2', hX2, hG2⟩
  rw [List.nil_append] at hc2 hX2 hG2
  rw [Nat.zero_add] at hG2
  have hout2 := (hB2.block w.heap.size (by omega)).trans hout1
  have hwb : (b.drop (64 * (b.length / 64))).length = b.length % 64 := by rw [List.length_drop]; omega
  rw [← hwb] at hG2 hc2
  go_wp2_with fail
  refine (hash_any (w.heap.size + 1) (blk H256 b (b.length / 64)) (by rw [blk_length]; rfl) A2 c2 (b.drop (64 * (b.length / 64))) b.length w2 hG2 hX2 (by omega) (by omega) hc2 hc2').mono ?_
  rw [sha_parts]
  rintro e w3 ⟨rfl, hB3⟩
  obtain ⟨rr, hrr⟩ : ∃ rr, rr = sha b := ⟨_, rfl⟩
  have hrl : rr.length = 32 := by rw [hrr]; exact sha_length _
  rw [← hrr]
  obtain ⟨oc, hoc⟩ : ∃ oc, oc = (B8 rr).toArray := ⟨_, rfl⟩
  have hocz : oc.size = 32 := by rw [hoc]; simp [hrl]
  have Hoinf : Hid ((Tryd.prog.info? 43).map (·.size) = some oc.size) := Lib.hid (by rw [hocz]; kernel_rfl)
  have Hocz : Hid ((Array.replicate 32 (Value.int .u8 0)).size = oc.size) := Lib.hid (by rw [hocz]; simp)
  have Hone : Hid (oc.all (·.oneCell') = true) := Lib.hid (by rw [hoc]; exact all_oneCell_toArray (B8_oneCell _))
  have hz2 := hB2.size
  have hz2' : w.heap.size + 1 < w2.heap.size := (Array.getElem?_eq_some_iff.1 hG2).1
  have hout3 := (hB3.block w.heap.size (by omega)).trans hout2
  have hBw3 := (hB1.trans (hB2.mono (by omega))).trans (hB3.mono (by omega))
  have Hoc := Lib.hid hoc
  have Hrr := Lib.hid hrr
  have Hout3 := Lib.hid hout3
  rw [← hoc]
  clear hoc hrr hrl hocz hout3 hout2 hout1 hG2 hX2 hgt hX1 hs0
  go_wp2_with (refine wpList_store_row rfl 43 (.tmp 2) (.tmp 6) rfl w.heap.size oc rfl rfl 43 _ Hout3.out Hoinf.out Hocz.out Hone.out ?_)
  refine bodyPost_ret (v := .agg oc) ?_ rfl ⟨by rw [Hoc.out, Hrr.out], below_setRow' hBw3 (Nat.le_refl _) _⟩
  exact results_cell_row rfl _ _ w.heap.size 43 oc (0, 0) (.array 32 5) rfl (setRow_heap _ _ _ _ _ _ Hout3.out) (by kernel_rfl) rfl Hoinf.out

set_option maxRecDepth 100000 in
set_option maxHeartbeats 2000000 in
theorem twice_any (g : Nat) (st : List (BitVec 32)) (hst : st.length = 8) (A : Option Addr) (c : Nat) (wb : List UInt8) (n : Nat) (w : World)
    (hg : w.heap[g]? = some (.cells (SC st (.slice A wb.length c) (.int .u64 n) (.bool true)) 72 (0, 0))) (hX : Sx g w A (B8 wb)) (hn : n ≤ 4096) (hwb : wb.length ≤ 64) (hwc : wb.length ≤ c) (hc : c ≤ maxLen) :
    Calls Tryd.prog 41 #[.pointer (some ⟨g, 0, none⟩)] w fun e W' => e = .returned (.agg (B8 (sha (be32 (blk st (wb ++ tailL n 8) ((wb ++ tailL n 8).length / 64))))).toArray) ∧ Below w.heap.size w W' := by
  have hgs : g < w.heap.size := (Array.getElem?_eq_some_iff.1 hg).1
  have Hg := Lib.hid hg
  clear hg
  go_enter Tryd.func41, Tryd.ntmps41
  go_wp2_with fail
  obtain ⟨wa, hwa⟩ : ∃ wa, wa = w.alloc (.cells (Array.replicate 32 (.int .u8 0)) 43) := ⟨_, rfl⟩
  have hza : wa.heap.size = w.heap.size + 1 := by rw [hwa]; exact World.size_alloc _ _
  have hout : wa.heap[w.heap.size]? = some (.cells (Array.replicate 32 (.int .u8 0)) 43 (0, 0)) := by rw [hwa]; exact heap_alloc_new w _
  have hBa : Below w.heap.size w wa := by rw [hwa]; exact (Below.refl _ w).alloc (Nat.le_refl _) _
  have hga := (hBa.block g hgs).trans Hg.out
  have hXa := hX.below hBa
  refine (show wa = _ from hwa) ▸ ?_
  clear hwa
  refine (hash_any g st hst A c wb n wa hga hXa hn hwb hwc hc).mono ?_
  rintro e w1 ⟨rfl, hB1⟩
  obtain ⟨h1, hh1⟩ : ∃ h1, h1 = be32 (blk st (wb ++ tailL n 8) ((wb ++ tailL n 8).length / 64)) := ⟨_, rfl⟩
  have hl1 : h1.length = 32 := by rw [hh1, be32_length, blk_length, hst]
  rw [← hh1]
  obtain ⟨oc, hoc⟩ : ∃ oc, oc = (B8 h1).toArray := ⟨_, rfl⟩
  have hocz : oc.size = 32 := by rw [hoc]; simp [hl1]
  have Hoinf : Hid ((Tryd.prog.info? 43).map (·.size) = some oc.size) := Lib.hid (by rw [hocz]; kernel_rfl)
  have Hocz : Hid ((Array.replicate 32 (Value.int .u8 0)).size = oc.size) := Lib.hid (by rw [hocz]; simp)
  have Hone : Hid (oc.all (·.oneCell') = true) := Lib.hid (by rw [hoc]; exact all_oneCell_toArray (B8_oneCell _))
  rw [← hoc]
  have Hoc := Lib.hid hoc
  have Hh1 := Lib.hid hh1
  have hz1 := hB1.size
  have hout1 := (hB1.block w.heap.size (by omega)).trans hout
  have Hout1 := Lib.hid hout1
  clear hoc hh1 hocz hout1 hout hga hXa
  go_wp2_with (refine wpList_store_row rfl 43 (.tmp 3) (.tmp 5) rfl w1.heap.size oc rfl rfl 43 _ (heap_alloc_new w1 _) Hoinf.out Hocz.out Hone.out ?_)
  rw [World.setRow_alloc_new]
  obtain ⟨w2, hw2⟩ : ∃ w2, w2 = w1.alloc (.cells oc 43) := ⟨_, rfl⟩
  rw [← hw2]
  have hB2 : Below w1.heap.size w1 w2 := by rw [hw2]; exact (Below.refl _ _).alloc (Nat.le_refl _) _
  have hz2 : w2.heap.size = w1.heap.size + 1 := by rw [hw2]; exact World.size_alloc _ _
  have hgh : w2.heap[w1.heap.size]? = some (.cells (B8 h1).toArray 43 (0, 0)) := by rw [hw2, ← Hoc.out]; exact heap_alloc_new w1 _
  have hS2 : Sl w2 w2.heap.size (some ⟨w1.heap.size, 0, none⟩) (B8 h1) := fun _ => ⟨_, 0, rfl, by omega, fun j hj => by
    rw [cell_of_row w2 _ _ _ _ (0, 0) hgh, Nat.zero_add]; simp⟩
  have hout2 := (hB2.block w.heap.size (by omega)).trans Hout1.out
  have hsum := sum256_any (some ⟨w1.heap.size, 0, none⟩) 32 h1 w2 hS2 (by omega) (by omega) (by decide)
  rw [hl1] at hsum
  refine hsum.mono ?_
  rintro e w3 ⟨rfl, hB3⟩
  have hout3 := (hB3.block w.heap.size (by omega)).trans hout2
  have hBw3 := ((hBa.trans (hB1.mono (by omega))).trans (hB2.mono (by omega))).trans (hB3.mono (by omega))
  rw [Hh1.out]
  obtain ⟨rr, hrr⟩ : ∃ rr, rr = sha (be32 (blk st (wb ++ tailL n 8) ((wb ++ tailL n 8).length / 64))) := ⟨_, rfl⟩
  have hrl : rr.length = 32 := by rw [hrr]; exact sha_length _
  rw [← hrr]
  clear Hoinf Hocz Hone Hoc hw2 hgh hS2 hsum
  obtain ⟨oc, hoc⟩ : ∃ oc, oc = (B8 rr).toArray := ⟨_, rfl⟩
  have hocz : oc.size = 32 := by rw [hoc]; simp [hrl]
  have Hoinf : Hid ((Tryd.prog.info? 43).map (·.size) = some oc.size) := Lib.hid (by rw [hocz]; kernel_rfl)
  have Hocz : Hid ((Array.replicate 32 (Value.int .u8 0)).size = oc.size) := Lib.hid (by rw [hocz]; simp)
  have Hone : Hid (oc.all (·.oneCell') = true) := Lib.hid (by rw [hoc]; exact all_oneCell_toArray (B8_oneCell _))
  have Hoc := Lib.hid hoc
  have Hrr := Lib.hid hrr
  have Hout3 := Lib.hid hout3
  rw [← hoc]
  clear hoc hrr hrl hocz hout3 hout2
  go_wp2_with (refine wpList_store_row rfl 43 (.tmp 2) (.tmp 7) rfl w.heap.size oc rfl rfl 43 _ Hout3.out Hoinf.out Hocz.out Hone.out ?_)
  refine bodyPost_ret (v := .agg oc) ?_ rfl ⟨by rw [Hoc.out, Hrr.out], below_setRow' hBw3 (Nat.le_refl _) _⟩
  exact results_cell_row rfl _ _ w.heap.size 43 oc (0, 0) (.array 32 5) rfl (setRow_heap _ _ _ _ _ _ Hout3.out) (by kernel_rfl) rfl Hoinf.out

set_option maxRecDepth 100000 in
set_option maxHeartbeats 2000000 in
theorem double_any (A : Option Addr) (c : Nat) (b : List UInt8) (w : World) (hs : Sl w w.heap.size A (B8 b)) (hl : b.length ≤ 2048) (hbc : b.length ≤ c) (hc : c ≤ maxLen) :
    Calls Tryd.prog 23 #[.slice A b.length c] w fun e W' => e = .returned (.agg (B8 (sha (sha b))).toArray) ∧ Below w.heap.size w W' := by
  have hs0 := hs
  go_enter Tryd.func23, Tryd.ntmps23
  go_wp2_with fail
  obtain ⟨wa, hwa⟩ : ∃ wa, wa = w.alloc (.cells (Array.replicate 32 (.int .u8 0)) 43) := ⟨_, rfl⟩
  obtain ⟨w1, hw1⟩ : ∃ w1, w1 = wa.alloc (.cells (SC (List.replicate 8 0) (.slice none 0 0) (.int .u64 (0 : Nat)) (.bool false)) 72) := ⟨_, rfl⟩
  have hza : wa.heap.size = w.heap.size + 1 := by rw [hwa]; exact World.size_alloc _ _
  have hz1 : w1.heap.size = w.heap.size + 2 := by rw [hw1, World.size_alloc, hza]
  have hgt : w1.heap[w.heap.size + 1]? = some (.cells (SC (List.replicate 8 0) (.slice none 0 0) (.int .u64 (0 : Nat)) (.bool false)) 72 (0, 0)) := by rw [hw1, ← hza]; exact heap_alloc_new wa _
  have hout : wa.heap[w.heap.size]? = some (.cells (Array.replicate 32 (.int .u8 0)) 43 (0, 0)) := by rw [hwa]; exact heap_alloc_new w _
  have hout1 : w1.heap[w.heap.size]? = some (.cells (Array.replicate 32 (.int .u8 0)) 43 (0, 0)) := by rw [hw1]; exact (Below.heap_alloc wa _ _ (by omega)).trans hout
  have hBa : Below w.heap.size w wa := by rw [hwa]; exact (Below.refl _ w).alloc (Nat.le_refl _) _
  have hB1 : Below w.heap.size w w1 := by rw [hw1]; exact hBa.alloc (by omega) _
  have hX1 : Sx (w.heap.size + 1) w1 A (B8 b) := fun hn => by
    obtain ⟨bb, o, e, hb, hcl⟩ := (hs0.below hB1) hn
    exact ⟨bb, o, e, by omega, by omega, hcl⟩
  refine (show w1 = _ by rw [hw1, hwa]) ▸ ?_
  clear hwa hw1 hout hBa
  refine (add_new (w.heap.size + 1) (w.heap.size + 1) (List.replicate 8 0) (by simp) (.slice none 0 0) [] b 0 A c w1 (Nat.le_refl _) hgt (by omega) (Ow.nil_ _ _ _ _) hX1 (by omega) (by simpa using (by omega : b.length ≤ 8192)) hbc hc).mono ?_
  rintro e w2 ⟨rfl, hB2, A2, c2, hc2, hc2', hX2, hG2⟩
  rw [List.nil_append] at hc2 hX2 hG2
  rw [Nat.zero_add] at hG2
  have hout2 := (hB2.block w.heap.size (by omega)).trans hout1
  have hwb : (b.drop (64 * (b.length / 64))).length = b.length % 64 := by rw [List.length_drop]; omega
  rw [← hwb] at hG2 hc2
  go_wp2_with fail
  refine (twice_any (w.heap.size + 1) (blk H256 b (b.length / 64)) (by rw [blk_length]; rfl) A2 c2 (b.drop (64 * (b.length / 64))) b.length w2 hG2 hX2 (by omega) (by omega) hc2 hc2').mono ?_
  rw [sha_parts]
  rintro e w3 ⟨rfl, hB3⟩
  obtain ⟨rr, hrr⟩ : ∃ rr, rr = sha (sha b) := ⟨_, rfl⟩
  have hrl : rr.length = 32 := by rw [hrr]; exact sha_length _
  rw [← hrr]
  obtain ⟨oc, hoc⟩ : ∃ oc, oc = (B8 rr).toArray := ⟨_, rfl⟩
  have hocz : oc.size = 32 := by rw [hoc]; simp [hrl]
  have Hoinf : Hid ((Tryd.prog.info? 43).map (·.size) = some oc.size) := Lib.hid (by rw [hocz]; kernel_rfl)
  have Hocz : Hid ((Array.replicate 32 (Value.int .u8 0)).size = oc.size) := Lib.hid (by rw [hocz]; simp)
  have Hone : Hid (oc.all (·.oneCell') = true) := Lib.hid (by rw [hoc]; exact all_oneCell_toArray (B8_oneCell _))
  have hz2 := hB2.size
  have hz2' : w.heap.size + 1 < w2.heap.size := (Array.getElem?_eq_some_iff.1 hG2).1
  have hout3 := (hB3.block w.heap.size (by omega)).trans hout2
  have hBw3 := (hB1.trans (hB2.mono (by omega))).trans (hB3.mono (by omega))
  have Hoc := Lib.hid hoc
  have Hrr := Lib.hid hrr
  have Hout3 := Lib.hid hout3
  rw [← hoc]
  clear hoc hrr hrl hocz hout3 hout2 hout1 hG2 hX2 hgt hX1 hs0
  go_wp2_with (refine wpList_store_row rfl 43 (.tmp 2) (.tmp 6) rfl w.heap.size oc rfl rfl 43 _ Hout3.out Hoinf.out Hocz.out Hone.out ?_)
  refine bodyPost_ret (v := .agg oc) ?_ rfl ⟨by rw [Hoc.out, Hrr.out], below_setRow' hBw3 (Nat.le_refl _) _⟩
  exact results_cell_row rfl _ _ w.heap.size 43 oc (0, 0) (.array 32 5) rfl (setRow_heap _ _ _ _ _ _ Hout3.out) (by kernel_rfl) rfl Hoinf.out
end Go.Proofs.YtmfligfcejhjaaaDoor
