/- hash.Sum256, Twice, Double. | ref02.fill. | A region that draws its order, as a tree: where two operations that make memory come up side by side the ways part, as often as they do. -/
import Derived.Test.YtcjioogololnoaaGreatDoorU9

/-! hash.Sum256, Twice, Double. -/
namespace Go.Proofs.YtcjioogololnoaaGreatDoor
open Go.RowKit Go.Shelf

theorem blk_front (st : List (BitVec 32)) (m t : List UInt8) (j : Nat) (h : 64 * j ≤ m.length) : blk st (m ++ t) j = blk st m j := by
  induction j with
  | zero => rfl
  | succ j ih => rw [blk, blk, ih (by omega), List.drop_append_of_le_length (by omega), List.take_append_of_le_length (by simp; omega)]
theorem blk_join (st : List (BitVec 32)) (m t : List UInt8) (j q : Nat) (h : 64 * j ≤ m.length) : blk (blk st m j) (m.drop (64 * j) ++ t) q = blk st (m ++ t) (j + q) := by
  induction q with
  | zero => rw [blk, Nat.add_zero, blk_front st m t j h]
  | succ q ih =>
    rw [blk, ih, ← Nat.add_assoc, blk, ← List.drop_append_of_le_length h, List.drop_drop]
    rw [show 64 * j + 64 * q = 64 * (j + q) by omega]
def msg (b : List UInt8) : List UInt8 := b ++ tailL b.length 8
/-- SHA-256, as plain words. -/
def sha (b : List UInt8) : List UInt8 := be32 (blk H256 (msg b) ((msg b).length / 64))
theorem sha_length (b : List UInt8) : (sha b).length = 32 := by rw [sha, be32_length, blk_length, H256_length]
theorem sha_parts (b : List UInt8) : be32 (blk (blk H256 b (b.length / 64)) (b.drop (64 * (b.length / 64)) ++ tailL b.length 8) ((b.drop (64 * (b.length / 64)) ++ tailL b.length 8).length / 64)) = sha b := by
  rw [sha, blk_join _ _ _ _ _ (by omega), msg]
  congr 2
  simp only [List.length_append, List.length_drop]
  omega

set_option maxRecDepth 100000 in
set_option maxHeartbeats 2000000 in
theorem sum256_any (A : Option Addr) (c : Nat) (b : List UInt8) (w : World) (hs : Sl w w.heap.size A (B8 b)) (hl : b.length ≤ 2048) (hbc : b.length ≤ c) (hc : c ≤ maxLen) :
    Calls Tryz.prog 193 #[.slice A b.length c] w fun e W' => e = .returned (.agg (B8 (sha b)).toArray) ∧ Below w.heap.size w W' := by
  have hs0 := hs
  go_enter Tryz.func193, Tryz.ntmps193
  go_wp2_with fail
  obtain ⟨wa, hwa⟩ : ∃ wa, wa = w.alloc (.cells (Array.replicate 32 (.int .u8 0)) 168) := ⟨_, rfl⟩
  obtain ⟨w1, hw1⟩ : ∃ w1, w1 = wa.alloc (.cells (SC (List.replicate 8 0) (.slice none 0 0) (.int .u64 (0 : Nat)) (.bool false)) 209) := ⟨_, rfl⟩
  have hza : wa.heap.size = w.heap.size + 1 := by rw [hwa]; exact World.size_alloc _ _
  have hz1 : w1.heap.size = w.heap.size + 2 := by rw [hw1, World.size_alloc, hza]
  have hgt : w1.heap[w.heap.size + 1]? = some (.cells (SC (List.replicate 8 0) (.slice none 0 0) (.int .u64 (0 : Nat)) (.bool false)) 209 (0, 0)) := by rw [hw1, ← hza]; exact heap_alloc_new wa _
  have hout : wa.heap[w.heap.size]? = some (.cells (Array.replicate 32 (.int .u8 0)) 168 (0, 0)) := by rw [hwa]; exact heap_alloc_new w _
  have hout1 : w1.heap[w.heap.size]? = some (.cells (Array.replicate 32 (.int .u8 0)) 168 (0, 0)) := by rw [hw1]; exact (Below.heap_alloc wa _ _ (by omega)).trans hout
  have hBa : Below w.heap.size w wa := by rw [hwa]; exact (Below.refl _ w).alloc (Nat.le_refl _) _
  have hB1 : Below w.heap.size w w1 := by rw [hw1]; exact hBa.alloc (by omega) _
  have hX1 : Sx (w.heap.size + 1) w1 A (B8 b) := fun hn => by
    obtain ⟨bb, o, e, hb, hcl⟩ := (hs0.below hB1) hn
    exact ⟨bb, o, e, by omega, by omega, hcl⟩
  refine (show w1 = _ by rw [hw1, hwa]) ▸ ?_
  clear hwa hw1 hout hBa
  refine (add_new (w.heap.size + 1) (w.heap.size + 1) (List.replicate 8 0) (by simp) (.slice none 0 0) [] b 0 A c w1 (Nat.le_refl _) hgt (by omega) (Ow.nil_ _ _ _ _) hX1 (by omega) (by simpa using (by omega : b.length ≤ 8192)) hbc hc).mono ?_
  rintro e w2 ⟨rfl, hB2, A2, c2, hc2, hc2', hX2, hG2⟩
  rw [List.nil_append] at hc2 hX2 hG2
  rw [Nat.zero_add] at hG2
  have hout2 := (hB2.block w.heap.size (by omega)).trans hout1
  have hwb : (b.drop (64 * (b.length / 64))).length = b.length % 64 := by rw [List.length_drop]; omega
  rw [← hwb] at hG2 hc2
  go_wp2_with fail
  refine (hash_any (w.heap.size + 1) (blk H256 b (b.length / 64)) (by rw [blk_length]; rfl) A2 c2 (b.drop (64 * (b.length / 64))) b.length w2 hG2 hX2 (by omega) (by omega) hc2 hc2').mono ?_
  rw [sha_parts]
  rintro e w3 ⟨rfl, hB3⟩
  obtain ⟨rr, hrr⟩ : ∃ rr, rr = sha b := ⟨_, rfl⟩
  have hrl : rr.length = 32 := by rw [hrr]; exact sha_length _
  rw [← hrr]
  obtain ⟨oc, hoc⟩ : ∃ oc, oc = (B8 rr).toArray := ⟨_, rfl⟩
  have hocz : oc.size = 32 := by rw [hoc]; simp [hrl]
  have Hoinf : Hid ((Tryz.prog.info? 168).map (·.size) = some oc.size) := Lib.hid (by rw [hocz]; kernel_rfl)
  have Hocz : Hid ((Array.replicate 32 (Value.int .u8 0)).size = oc.size) := Lib.hid (by rw [hocz]; simp)
  have Hone : Hid (oc.all (·.oneCell') = true) := Lib.hid (by rw [hoc]; exact all_oneCell_toArray (B8_oneCell _))
  have hz2 := hB2.size
  have hz2' : w.heap.size + 1 < w2.heap.size := (Array.getElem?_eq_some_iff.1 hG2).1
  have hout3 := (hB3.block w.heap.size (by omega)).trans hout2
  have hBw3 := (hB1.trans (hB2.mono (by omega))).trans (hB3.mono (by omega))
  have Hoc := Lib.hid hoc
  have Hrr := Lib.hid hrr
  have Hout3 := Lib.hid hout3
  rw [← hoc]
  clear hoc hrr hrl hocz hout3 hout2 hout1 hG2 hX2 hgt hX1 hs0
  go_wp2_with (refine wpList_store_row rfl 168 (.tmp 2) (.tmp 6) rfl w.heap.size oc rfl rfl 168 _ Hout3.out Hoinf.out Hocz.out Hone.out ?_)
  refine bodyPost_ret (v := .agg oc) ?_ rfl ⟨by rw [Hoc.out, Hrr.out], below_setRow' hBw3 (Nat.le_refl _) _⟩
  exact results_cell_row rfl _ _ w.heap.size 168 oc (0, 0) (.array 32 5) rfl (setRow_heap _ _ _ _ _ _ Hout3.out) (by kernel_rfl) rfl Hoinf.out

set_option maxRecDepth 100000 in
set_option maxHeartbeats 2000000 in
theorem twice_any (g : Nat) (st : List (BitVec 32)) (hst : st.length = 8) (A : Option Addr) (c : Nat) (wb : List UInt8) (n : Nat) (w : World)
    (hg : w.heap[g]? = some (.cells (SC st (.slice A wb.length c) (.int .u64 n) (.bool true)) 209 (0, 0))) (hX : Sx g w A (B8 wb)) (hn : n ≤ 4096) (hwb : wb.length ≤ 64) (hwc : wb.length ≤ c) (hc : c ≤ maxLen) :
    Calls Tryz.prog 162 #[.pointer (some ⟨g, 0, none⟩)] w fun e W' => e = .returned (.agg (B8 (sha (be32 (blk st (wb ++ tailL n 8) ((wb ++ tailL n 8).length / 64))))).toArray) ∧ Below w.heap.size w W' := by
  have hgs : g < w.heap.size := (Array.getElem?_eq_some_iff.1 hg).1
  have Hg := Lib.hid hg
  clear hg
  go_enter Tryz.func162, Tryz.ntmps162
  go_wp2_with fail
  obtain ⟨wa, hwa⟩ : ∃ wa, wa = w.alloc (.cells (Array.replicate 32 (.int .u8 0)) 168) := ⟨_, rfl⟩
  have hza : wa.heap.size = w.heap.size + 1 := by rw [hwa]; exact World.size_alloc _ _
  have hout : wa.heap[w.heap.size]? = some (.cells (Array.replicate 32 (.int .u8 0)) 168 (0, 0)) := by rw [hwa]; exact heap_alloc_new w _
  have hBa : Below w.heap.size w wa := by rw [hwa]; exact (Below.refl _ w).alloc (Nat.le_refl _) _
  have hga := (hBa.block g hgs).trans Hg.out
  have hXa := hX.below hBa
  refine (show wa = _ from hwa) ▸ ?_
  clear hwa
  refine (hash_any g st hst A c wb n wa hga hXa hn hwb hwc hc).mono ?_
  rintro e w1 ⟨rfl, hB1⟩
  obtain ⟨h1, hh1⟩ : ∃ h1, h1 = be32 (blk st (wb ++ tailL n 8) ((wb ++ tailL n 8).length / 64)) := ⟨_, rfl⟩
  have hl1 : h1.length = 32 := by rw [hh1, be32_length, blk_length, hst]
  rw [← hh1]
  obtain ⟨oc, hoc⟩ : ∃ oc, oc = (B8 h1).toArray := ⟨_, rfl⟩
  have hocz : oc.size = 32 := by rw [hoc]; simp [hl1]
  have Hoinf : Hid ((Tryz.prog.info? 168).map (·.size) = some oc.size) := Lib.hid (by rw [hocz]; kernel_rfl)
  have Hocz : Hid ((Array.replicate 32 (Value.int .u8 0)).size = oc.size) := Lib.hid (by rw [hocz]; simp)
  have Hone : Hid (oc.all (·.oneCell') = true) := Lib.hid (by rw [hoc]; exact all_oneCell_toArray (B8_oneCell _))
  rw [← hoc]
  have Hoc := Lib.hid hoc
  have Hh1 := Lib.hid hh1
  have hz1 := hB1.size
  have hout1 := (hB1.block w.heap.size (by omega)).trans hout
  have Hout1 := Lib.hid hout1
  clear hoc hh1 hocz hout1 hout hga hXa
  go_wp2_with (refine wpList_store_row rfl 168 (.tmp 3) (.tmp 5) rfl w1.heap.size oc rfl rfl 168 _ (heap_alloc_new w1 _) Hoinf.out Hocz.out Hone.out ?_)
  rw [World.setRow_alloc_new]
  obtain ⟨w2, hw2⟩ : ∃ w2, w2 = w1.alloc (.cells oc 168) := ⟨_, rfl⟩
  rw [← hw2]
  have hB2 : Below w1.heap.size w1 w2 := by rw [hw2]; exact (Below.refl _ _).alloc (Nat.le_refl _) _
  have hz2 : w2.heap.size = w1.heap.size + 1 := by rw [hw2]; exact World.size_alloc _ _
  have hgh : w2.heap[w1.heap.size]? = some (.cells (B8 h1).toArray 168 (0, 0)) := by rw [hw2, ← Hoc.out]; exact heap_alloc_new w1 _
  have hS2 : Sl w2 w2.heap.size (some ⟨w1.heap.size, 0, none⟩) (B8 h1) := fun _ => ⟨_, 0, rfl, by omega, fun j hj => by
    rw [cell_of_row w2 _ _ _ _ (0, 0) hgh, Nat.zero_add]; simp⟩
  have hout2 := (hB2.block w.heap.size (by omega)).trans Hout1.out
  have hsum := sum256_any (some ⟨w1.heap.size, 0, none⟩) 32 h1 w2 hS2 (by omega) (by omega) (by decide)
  rw [hl1] at hsum
  refine hsum.mono ?_
  rintro e w3 ⟨rfl, hB3⟩
  have hout3 := (hB3.block w.heap.size (by omega)).trans hout2
  have hBw3 := ((hBa.trans (hB1.mono (by omega))).trans (hB2.mono (by omega))).trans (hB3.mono (by omega))
  rw [Hh1.out]
  obtain ⟨rr, hrr⟩ : ∃ rr, rr = sha (be32 (blk st (wb ++ tailL n 8) ((wb ++ tailL n 8).length / 64))) := ⟨_, rfl⟩
  have hrl : rr.length = 32 := by rw [hrr]; exact sha_length _
  rw [← hrr]
  clear Hoinf Hocz Hone Hoc hw2 hgh hS2 hsum
  obtain ⟨oc, hoc⟩ : ∃ oc, oc = (B8 rr).toArray := ⟨_, rfl⟩
  have hocz : oc.size = 32 := by rw [hoc]; simp [hrl]
  have Hoinf : Hid ((Tryz.prog.info? 168).map (·.size) = some oc.size) := Lib.hid (by rw [hocz]; kernel_rfl)
  have Hocz : Hid ((Array.replicate 32 (Value.int .u8 0)).size = oc.size) := Lib.hid (by rw [hocz]; simp)
  have Hone : Hid (oc.all (·.oneCell') = true) := Lib.hid (by rw [hoc]; exact all_oneCell_toArray (B8_oneCell _))
  have Hoc := Lib.hid hoc
  have Hrr := Lib.hid hrr
  have Hout3 := Lib.hid hout3
  rw [← hoc]
  clear hoc hrr hrl hocz hout3 hout2
  go_wp2_with (refine wpList_store_row rfl 168 (.tmp 2) (.tmp 7) rfl w.heap.size oc rfl rfl 168 _ Hout3.out Hoinf.out Hocz.out Hone.out ?_)
  refine bodyPost_ret (v := .agg oc) ?_ rfl ⟨by rw [Hoc.out, Hrr.out], below_setRow' hBw3 (Nat.le_refl _) _⟩
  exact results_cell_row rfl _ _ w.heap.size 168 oc (0, 0) (.array 32 5) rfl (setRow_heap _ _ _ _ _ _ Hout3.out) (by kernel_rfl) rfl Hoinf.out

set_option maxRecDepth 100000 in
set_option maxHeartbeats 2000000 in
theorem double_any (A : Option Addr) (c : Nat) (b : List UInt8) (w : World) (hs : Sl w w.heap.size A (B8 b)) (hl : b.length ≤ 2048) (hbc : b.length ≤ c) (hc : c ≤ maxLen) :
    Calls Tryz.prog 122 #[.slice A b.length c] w fun e W' => e = .returned (.agg (B8 (sha (sha b))).toArray) ∧ Below w.heap.size w W' := by
  have hs0 := hs
  go_enter Tryz.func122, Tryz.ntmps122
  go_wp2_with fail
  obtain ⟨wa, hwa⟩ : ∃ wa, wa = w.alloc (.cells (Array.replicate 32 (.int .u8 0)) 168) := ⟨_, rfl⟩
  obtain ⟨w1, hw1⟩ : ∃ w1, w1 = wa.alloc (.cells (SC (List.replicate 8 0) (.slice none 0 0) (.int .u64 (0 : Nat)) (.bool false)) 209) := ⟨_, rfl⟩
  have hza : wa.heap.size = w.heap.size + 1 := by rw [hwa]; exact World.size_alloc _ _
  have hz1 : w1.heap.size = w.heap.size + 2 := by rw [hw1, World.size_alloc, hza]
  have hgt : w1.heap[w.heap.size + 1]? = some (.cells (SC (List.replicate 8 0) (.slice none 0 0) (.int .u64 (0 : Nat)) (.bool false)) 209 (0, 0)) := by rw [hw1, ← hza]; exact heap_alloc_new wa _
  have hout : wa.heap[w.heap.size]? = some (.cells (Array.replicate 32 (.int .u8 0)) 168 (0, 0)) := by rw [hwa]; exact heap_alloc_new w _
  have hout1 : w1.heap[w.heap.size]? = some (.cells (Array.replicate 32 (.int .u8 0)) 168 (0, 0)) := by rw [hw1]; exact (Below.heap_alloc wa _ _ (by omega)).trans hout
  have hBa : Below w.heap.size w wa := by rw [hwa]; exact (Below.refl _ w).alloc (Nat.le_refl _) _
  have hB1 : Below w.heap.size w w1 := by rw [hw1]; exact hBa.alloc (by omega) _
  have hX1 : Sx (w.heap.size + 1) w1 A (B8 b) := fun hn => by
    obtain ⟨bb, o, e, hb, hcl⟩ := (hs0.below hB1) hn
    exact ⟨bb, o, e, by omega, by omega, hcl⟩
  refine (show w1 = _ by rw [hw1, hwa]) ▸ ?_
  clear hwa hw1 hout hBa
  refine (add_new (w.heap.size + 1) (w.heap.size + 1) (List.replicate 8 0) (by simp) (.slice none 0 0) [] b 0 A c w1 (Nat.le_refl _) hgt (by omega) (Ow.nil_ _ _ _ _) hX1 (by omega) (by simpa using (by omega : b.length ≤ 8192)) hbc hc).mono ?_
  rintro e w2 ⟨rfl, hB2, A2, c2, hc2, hc2', hX2, hG2⟩
  rw [List.nil_append] at hc2 hX2 hG2
  rw [Nat.zero_add] at hG2
  have hout2 := (hB2.block w.heap.size (by omega)).trans hout1
  have hwb : (b.drop (64 * (b.length / 64))).length = b.length % 64 := by rw [List.length_drop]; omega
  rw [← hwb] at hG2 hc2
  go_wp2_with fail
  refine (twice_any (w.heap.size + 1) (blk H256 b (b.length / 64)) (by rw [blk_length]; rfl) A2 c2 (b.drop (64 * (b.length / 64))) b.length w2 hG2 hX2 (by omega) (by omega) hc2 hc2').mono ?_
  rw [sha_parts]
  rintro e w3 ⟨rfl, hB3⟩
  obtain ⟨rr, hrr⟩ : ∃ rr, rr = sha (sha b) := ⟨_, rfl⟩
  have hrl : rr.length = 32 := by rw [hrr]; exact sha_length _
  rw [← hrr]
  obtain ⟨oc, hoc⟩ : ∃ oc, oc = (B8 rr).toArray := ⟨_, rfl⟩
  have hocz : oc.size = 32 := by rw [hoc]; simp [hrl]
  have Hoinf : Hid ((Tryz.prog.info? 168).map (·.size) = some oc.size) := Lib.hid (by rw [hocz]; kernel_rfl)
  have Hocz : Hid ((Array.replicate 32 (Value.int .u8 0)).size = oc.size) := Lib.hid (by rw [hocz]; simp)
  have Hone : Hid (oc.all (·.oneCell') = true) := Lib.hid (by rw [hoc]; exact all_oneCell_toArray (B8_oneCell _))
  have hz2 := hB2.size
  have hz2' : w.heap.size + 1 < w2.heap.size := (Array.getElem?_eq_some_iff.1 hG2).1
  have hout3 := (hB3.block w.heap.size (by omega)).trans hout2
  have hBw3 := (hB1.trans (hB2.mono (by omega))).trans (hB3.mono (by omega))
  have Hoc := Lib.hid hoc
  have Hrr := Lib.hid hrr
  have Hout3 := Lib.hid hout3
  rw [← hoc]
  clear hoc hrr hrl hocz hout3 hout2 hout1 hG2 hX2 hgt hX1 hs0
  go_wp2_with (refine wpList_store_row rfl 168 (.tmp 2) (.tmp 6) rfl w.heap.size oc rfl rfl 168 _ Hout3.out Hoinf.out Hocz.out Hone.out ?_)
  refine bodyPost_ret (v := .agg oc) ?_ rfl ⟨by rw [Hoc.out, Hrr.out], below_setRow' hBw3 (Nat.le_refl _) _⟩
  exact results_cell_row rfl _ _ w.heap.size 168 oc (0, 0) (.array 32 5) rfl (setRow_heap _ _ _ _ _ _ Hout3.out) (by kernel_rfl) rfl Hoinf.out
end Go.Proofs.YtcjioogololnoaaGreatDoor

/-! ref02.fill. -/
namespace Go.Proofs.YtcjioogololnoaaGreatDoor
open Go.RowKit Go.Shelf

def slen : Value → Nat
  | .slice _ n _ => n
  | _ => 0
/-- The lowest i bytes of a number, the lowest first. -/
def lows (m i : Nat) : List UInt8 := (List.range i).map fun j => UInt8.ofNat (m / 256 ^ j)
theorem lows_succ (m i : Nat) : lows m (i + 1) = lows m i ++ [UInt8.ofNat (m / 256 ^ i)] := by simp [lows, List.range_succ]
theorem lows_length (m i : Nat) : (lows m i).length = i := by simp [lows]
theorem lows_get (m i j : Nat) (h : j < i) : (B8 (lows m i))[j]? = some (.int .u8 ((m / 256 ^ j % 256 : Nat) : Int)) := by simp [B8, lows, h]
/-- The last k of eight. -/
def tops (m : Nat) : Nat → List UInt8
  | 0 => []
  | k + 1 => tops m k ++ [UInt8.ofNat (m / 256 ^ (8 - 1 - k))]
theorem tops_succ (m k : Nat) : tops m (k + 1) = tops m k ++ [UInt8.ofNat (m / 256 ^ (8 - 1 - k))] := rfl
theorem tops_eight (m : Nat) : tops m 8 = low8 m 8 := by simp [tops, low8, List.range, List.range.loop]
theorem fill_msg (b : List UInt8) (f : Nat) (hf : f = 63 - (b.length % 64 + 8) % 64) : b ++ 128 :: List.replicate f 0 ++ tops (b.length * 8) 8 = msg b := by
  rw [tops_eight, msg, tailL, ← hf]; simp

theorem lows_next (n k q : Nat) (h : q = n * 8 / 256 ^ k) : ((q : Int) / 256) = ((n : Int) * 8 / 256 ^ (k + 1)) := by
  have h2 : q / 256 = n * 8 / 256 ^ (k + 1) := by rw [h, Nat.div_div_eq_div_mul, ← Nat.pow_succ]
  have h3 : ((q / 256 : Nat) : Int) = ((n * 8 / 256 ^ (k + 1) : Nat) : Int) := by rw [h2]
  rw [Int.natCast_ediv, Int.natCast_ediv, Int.natCast_mul, Int.natCast_pow] at h3
  exact h3
theorem tops_length (m k : Nat) : (tops m k).length = k := by
  induction k with
  | zero => rfl
  | succ k ih => simp [tops, ih]
set_option maxRecDepth 100000 in
set_option maxHeartbeats 2000000 in
theorem fill_any (A : Option Addr) (c : Nat) (b : List UInt8) (w : World) (hs : Sl w w.heap.size A (B8 b)) (hl : b.length ≤ 2048) (hbc : b.length ≤ c) (hc : c ≤ maxLen) :
    Calls Tryz.prog 199 #[.slice A b.length c, .int .i64 64, .int .i64 8, .bool false] w fun e W' => ∃ v, e = .returned v ∧ Ow W' w.heap.size 5 v (B8 (msg b)) ∧ Below w.heap.size w W' := by
  have Hl := Lib.hid hl
  go_enter Tryz.func199, Tryz.ntmps199
  go_wp2_with (first | (at_builtin; refine wpList_append_Ow (m := b.length) (c := c) (base := w.heap.size) (xs := []) (v := .slice (some ⟨w.heap.size, 0, none⟩) 0 0) (A := A) (B := w.heap.size) (news := B8 b) elB rfl (.tmp 14) (.tmp 15) rfl rfl (Ow.nil_ _ _ _ _) rfl (hs.alloc (Nat.le_refl _) _) (B8_length _) (B8_oneCell _) (by have := Hl.out; simp [maxLen]; omega) (by have := Hl.out; simp; omega) (by simp) ?_; intro v1 w1 ho1 hg1 hr1; have hb1 := ((Below.refl _ w).alloc (Nat.le_refl _) (.cells #[] 5)).grown hg1 (by simp) (by simp [rowOf]); rw [List.nil_append] at ho1; obtain ⟨A1, c1, rfl, hc1, hc1'⟩ := own_form ho1; clear hg1 hr1) | (at_builtin; refine wpList_append_Ow (m := 1) (c := 1) (base := w.heap.size) (xs := B8 b) (v := .slice A1 b.length c1) (A := some ⟨w1.heap.size, 0, none⟩) (B := w1.heap.size + 1) (news := [.int .u8 128]) elB rfl (.tmp 17) (.tmp 18) rfl rfl (ho1.alloc _) rfl (Sl.one w1 _ _) rfl (by simp; rfl) (by have := Hl.out; simp [maxLen]; omega) (by have := Hl.out; simp; omega) (by have := hb1.size; simp; omega) ?_; intro v2 w2 ho2 hg2 hr2))
  have hb2 := (hb1.alloc hb1.size (.cells #[.int .u8 128] 5)).grown hg2 (by have := hb1.size; simp; omega) (fun r hr => (ho1.row r hr).1)
  obtain ⟨f, hf⟩ : ∃ f, f = 63 - (b.length % 64 + 8) % 64 := ⟨_, rfl⟩
  have hl2 : b.length ≤ 2048 := Hl.out
  go_loopw [9] (fun v wr => ∃ z : Nat, z ≤ f ∧ Ow wr w.heap.size 5 v (B8 (b ++ 128 :: List.replicate z 0)) ∧ Below w.heap.size w wr) (fun v _ => b.length + 1 + f - slen v)
  case atStart => exact ⟨0, Nat.zero_le _, by simpa [B8] using ho2, hb2⟩
  case round =>
    obtain ⟨z, hz, ho, hb⟩ := hrel
    obtain ⟨X, hX⟩ : ∃ X, X = b ++ 128 :: List.replicate z 0 := ⟨_, rfl⟩
    have hXl : X.length = b.length + 1 + z := by rw [hX]; simp; omega
    rw [← hX] at ho
    obtain ⟨Az, cz, rfl, hcz, hcz'⟩ := own_form ho
    obtain ⟨N, hN⟩ : ∃ N, N = X.length := ⟨_, rfl⟩
    have hXb : (B8 X).length = N := by simp [hN]
    have hNl : N ≤ 4096 := by omega
    rw [← hN] at ho hcz ⊢
    by_cases hlt : z < f
    · have hmod : ¬ ((N : Int) % 64 = 56) := by omega
      have Hf := Lib.hid hf
      have HN := Lib.hid hN
      have HX := Lib.hid hX
      have HXl := Lib.hid hXl
      clear hf hN hX hXl
      go_wp2_with (at_builtin; refine wpList_append_Ow (m := 1) (c := 1) (base := w.heap.size) (xs := B8 X) (v := .slice Az N cz) (A := some ⟨wr.heap.size, 0, none⟩) (B := wr.heap.size + 1) (news := [.int .u8 0]) elB rfl (.tmp 28) (.tmp 29) rfl rfl (ho.alloc _) rfl (Sl.one wr _ _) rfl (by simp; rfl) (by rw [hXb]; simp [maxLen]; omega) (by rw [hXb]; omega) (by have := hb.size; simp; omega) ?_; intro v3 w3 ho3 hg3 hr3)
      rw [b8_snoc X (.int .u8 0) 0 rfl, HX.out, List.append_assoc, List.cons_append, ← List.replicate_succ'] at ho3
      refine ⟨⟨z + 1, hlt, ho3, push_below hb (Nat.le_refl _) ho hg3⟩, ?_⟩
      obtain ⟨A3, c3, rfl, _, _⟩ := own_form ho3
      have := HN.out
      have := HXl.out
      simp only [slen, List.length_append, List.length_cons, List.length_replicate]
      omega
    · have hmod : (N : Int) % 64 = 56 := by omega
      have Hf := Lib.hid hf
      have HN := Lib.hid hN
      have HX := Lib.hid hX
      have HXl := Lib.hid hXl
      clear hf hN hX hXl
      have hzf : z = f := by omega
      go_wp2_with fail
      clear hmod
      obtain ⟨wx, hwx⟩ : ∃ wx, wx = wr := ⟨_, rfl⟩
      subst hwx
      go_loopw [10, 11, 12] (fun m v i wr => ∃ k : Nat, k ≤ 8 ∧ i = .int .i64 k ∧ m = .int .u64 ((b.length * 8 / 256 ^ k : Nat) : Int) ∧ Ow wr wx.heap.size 5 v (B8 (lows (b.length * 8) k)) ∧ Below wx.heap.size wx wr) (fun _ _ i _ => 8 - (intOf i).toNat)
      case atStart => 
        refine ⟨0, Nat.zero_le _, rfl, by simp, Ow.nil_ _ _ _ _, Below.refl _ _⟩
      case round =>
        obtain ⟨k, hk, rfl, rfl, hol, hbl⟩ := hrel
        obtain ⟨Al, cl, rfl, hcl, hcl'⟩ := own_form hol
        rw [lows_length] at hol hcl ⊢
        obtain ⟨q, hq⟩ : ∃ q, q = b.length * 8 / 256 ^ k := ⟨_, rfl⟩
        have hql : q ≤ 16384 := by rw [hq]; exact Nat.le_trans (Nat.div_le_self _ _) (by omega)
        rw [← hq]
        by_cases hlt : k < 8
        · have Hq := Lib.hid hq
          have hll : (B8 (lows (b.length * 8) k)).length = k := by simp [lows_length]
          obtain ⟨L, hL⟩ : ∃ L, L = lows (b.length * 8) k := ⟨_, rfl⟩
          rw [← hL] at hol hll
          have HL := Lib.hid hL
          have Hll := Lib.hid hll
          clear hq hL hll
          go_wp2_with (at_builtin; refine wpList_append_Ow (m := 1) (c := 1) (base := wx.heap.size) (xs := B8 L) (v := .slice Al k cl) (A := some ⟨wr.heap.size, 0, none⟩) (B := wr.heap.size + 1) (news := [.int .u8 ((q : Int) % 256)]) elB rfl (.tmp 40) (.tmp 44) rfl rfl (hol.alloc _) rfl (Sl.one wr _ _) rfl (by simp; rfl) (by rw [Hll.out]; simp [maxLen]; omega) (by rw [Hll.out]; omega) (by have := hbl.size; simp; omega) ?_; intro v3 w3 ho3 hg3 hr3)
          rw [b8_snoc L _ (UInt8.ofNat q) (by simp), HL.out, Hq.out, ← lows_succ] at ho3
          refine ⟨⟨k + 1, hlt, rfl, ?_, ho3, push_below hbl (Nat.le_refl _) hol hg3⟩, by simp [intOf]; omega⟩
          rw [lows_next b.length k q Hq.out, Int.natCast_ediv, Int.natCast_mul, Int.natCast_pow]
          rfl
        · have hk8 : k = 8 := by omega
          have Hk8 := Lib.hid hk8
          have hk8' : 8 ≤ k := by omega
          clear hk8
          go_wp2_with fail
          obtain ⟨k2, hk2⟩ : ∃ k2, k2 = k := ⟨_, rfl⟩
          subst hk2
          obtain ⟨wy, hwy⟩ : ∃ wy, wy = wr := ⟨_, rfl⟩
          subst hwy
          obtain ⟨gl, curl, rfl, hgl, hLl, hcz2, htk⟩ : ∃ gl curl, Al = some ⟨gl, 0, none⟩ ∧ wx.heap.size ≤ gl ∧ wy.heap[gl]? = some (.cells curl 5 (0, 0)) ∧ cl ≤ curl.size ∧ curl.toList.take 8 = B8 (lows (b.length * 8) 8) := by
            rw [Hk8.out] at hol hcl
            obtain ⟨A', c', e, h1, h2, h3⟩ := hol
            injection e with e1 e2 e3
            obtain ⟨g, cur, e4, h4, h5, h6, h7⟩ := h3 (by omega)
            rw [B8_length, lows_length] at h7
            exact ⟨g, cur, by rw [e1, e4], h4, h5, by omega, h7⟩
          have hcell : ∀ j, j < 8 → curl[j]? = some (.int .u8 ((b.length * 8 / 256 ^ j % 256 : Nat) : Int)) := fun j hj => by
            have h1 : (curl.toList.take 8)[j]? = _ := (congrArg (fun l => l[j]?) htk).trans (lows_get (b.length * 8) 8 j hj)
            rw [List.getElem?_take, if_pos hj] at h1
            simpa using h1
          have hoy := ho.below hbl (Nat.le_refl _)
          have hby := hb.trans (hbl.mono hb.size)
          have hny : ∀ r, rowOf (.slice Az N cz) = some r → r ≠ gl := fun r hr => by have := (ho.row r hr).2; omega
          have HLl := Lib.hid hLl
          have Hny := Lib.hid hny
          have Hcell := Lib.hid hcell
          clear hny hLl hcell htk hq
          go_loopw [9, 13] (fun v i wr => ∃ k : Nat, k ≤ 8 ∧ i = .int .i64 k ∧ Ow wr w.heap.size 5 v (B8 (X ++ tops (b.length * 8) k)) ∧ Below w.heap.size w wr ∧ Hid (∀ r, rowOf v = some r → r ≠ gl) ∧ Hid (wr.heap[gl]? = some (.cells curl 5 (0, 0)))) (fun _ i _ => 8 - (intOf i).toNat)
          case atStart => exact ⟨0, Nat.zero_le _, rfl, by simpa [tops] using hoy, hby, Hny, HLl⟩
          case round =>
            obtain ⟨k, hk, rfl, ho3, hb3, Hr3, Hg3⟩ := hrel
            by_cases hlt : k < 8
            · obtain ⟨Y, hY⟩ : ∃ Y, Y = X ++ tops (b.length * 8) k := ⟨_, rfl⟩
              rw [← hY] at ho3
              obtain ⟨Ay, cy, rfl, hcy, hcy'⟩ := own_form ho3
              obtain ⟨M, hM⟩ : ∃ M, M = Y.length := ⟨_, rfl⟩
              rw [← hM] at ho3 hcy Hr3 ⊢
              have hYl : Y.length = N + k := by rw [hY, List.length_append, tops_length, ← HN.out]
              have hMl : M ≤ 4200 := by omega
              have hYb : (B8 Y).length = M := by rw [B8_length, hM]
              obtain ⟨j, hj⟩ : ∃ j, j = 7 - k := ⟨_, rfl⟩
              have ej : (7 : Int) - (k : Int) = (j : Int) := by omega
              have ej2 : (8 : Int) - 1 - (k : Int) = (j : Int) := by omega
              obtain ⟨y, hy⟩ : ∃ y, y = b.length * 8 / 256 ^ j % 256 := ⟨_, rfl⟩
              have cj : wr.cell? ⟨gl, j, none⟩ = some (.int .u8 (y : Int)) := by rw [cell_of_row wr gl j _ _ (0, 0) Hg3.out, Hcell.out j (by omega), hy]
              have hglt : gl < wr.heap.size := (Array.getElem?_eq_some_iff.1 Hg3.out).1
              have hj8 : j < k2 := by omega
              have Hj := Lib.hid hj
              have Hy := Lib.hid hy
              have HY := Lib.hid hY
              have HM := Lib.hid hM
              have HYb := Lib.hid hYb
              clear hj hy hY hM hYb
              go_wp2_with (at_builtin; refine wpList_append_Ow (m := 1) (c := 1) (base := w.heap.size) (xs := B8 Y) (v := .slice Ay M cy) (A := some ⟨wr.heap.size, 0, none⟩) (B := wr.heap.size + 1) (news := [.int .u8 (y : Int)]) elB rfl (.tmp 61) (.tmp 69) rfl rfl (ho3.alloc _) rfl (Sl.one wr _ _) rfl (by simp; rfl) (by rw [HYb.out]; simp [maxLen]; omega) (by rw [HYb.out]; omega) (by have := hb3.size; simp; omega) ?_; intro v4 w4 ho4 hg4 hr4)
              rw [b8_snoc Y _ (UInt8.ofNat (b.length * 8 / 256 ^ (8 - 1 - k))) (by rw [Hy.out, Hj.out]; simp), HY.out, List.append_assoc, ← tops_succ] at ho4
              have hb4 := push_below hb3 (Nat.le_refl _) ho3 hg4
              have hz3 : (wr.alloc (.cells #[.int .u8 (y : Int)] 5)).heap.size = wr.heap.size + 1 := World.size_alloc _ _
              have Hr4 : Hid (∀ r, rowOf v4 = some r → r ≠ gl) := Lib.hid fun r hr => by
                rcases hr4 with h | h
                · exact Hr3.out r (h ▸ hr)
                · rw [h] at hr; injection hr with hr; omega
              have Hg4 : Hid (w4.heap[gl]? = some (.cells curl 5 (0, 0))) := Lib.hid (by
                rw [hg4.block gl (by omega) (fun e => Hr3.out gl e.symm rfl), Below.heap_alloc wr _ gl hglt]; exact Hg3.out)
              refine ⟨⟨k + 1, hlt, rfl, ho4, hb4, Hr4, Hg4⟩, by simp [intOf]; omega⟩
            · obtain rfl : k = 8 := by omega
              go_wp2_with fail
              go_ret
              rw [HX.out, hzf, fill_msg b f Hf.out] at ho3
              exact ⟨_, rfl, ho3, hb3⟩
end Go.Proofs.YtcjioogololnoaaGreatDoor

/-! A region that draws its order, as a tree: where two operations that make memory come up side by side the ways part, as often as they do. -/
namespace Go.Proofs.YtcjioogololnoaaGreatDoor
open Go Go.RowKit
section
variable {P : Program} {ops : Array Oper} {md : Region.Mode}
variable {Q : Act → World → Prop} {st : Nat → (Act → World → Prop) → Act → World → Prop} {N : Nat}

def closedB (md : Region.Mode) (ops : Array Oper) (listed : Array Bool) : Bool :=
  decide (listed.size = ops.size) && (List.range ops.size).all fun j => !(listed.getD j false) || (match ops[j]? with | some oj => oj.after.all fun e => !(Region.binds md e) || listed.getD e.on false | none => true)
theorem closedB_spec {listed : Array Bool} (h : closedB md ops listed = true) : Closed md ops listed := by
  simp only [closedB, Bool.and_eq_true, decide_eq_true_eq, List.all_eq_true, List.mem_range, Bool.or_eq_true, Bool.not_eq_true'] at h
  refine ⟨h.1, fun j oj hj hl e he hb => ?_⟩
  have hjs : j < ops.size := (Array.getElem?_eq_some_iff.1 hj).1
  rcases h.2 j hjs with h1 | h1
  · rw [hl] at h1; cases h1
  · rw [hj] at h1
    have h2 := Array.all_eq_true_iff_forall_mem.1 h1 e he
    simp only [Bool.or_eq_true, Bool.not_eq_true'] at h2
    rcases h2 with h2 | h2
    · rw [hb] at h2; cases h2
    · exact h2

/-- From this state on, what C asks is enough for every order. -/
def Snd (md : Region.Mode) (ops : Array Oper) (Q : Act → World → Prop) (st : Nat → (Act → World → Prop) → Act → World → Prop) (N : Nat) (listed : Array Bool) (n : Nat) (C : Act → World → Prop) : Prop :=
  ∀ a w w0, Ext w0 w → C a w → wpAnyS md ops Q st N (Ext w0) n listed a w
def forkC (st : Nat → (Act → World → Prop) → Act → World → Prop) (i : Nat) (Ci : Act → World → Prop) (j : Nat) (Cj : Act → World → Prop) (a : Act) (w : World) : Prop :=
  st i (fun a' w' => Ext w w' ∧ Ci a' w') a w ∧ st j (fun a' w' => Ext w w' ∧ Cj a' w') a w

theorem snd_plan (L : StepLaws P ops Q st) (hsel : Region.noSelect ops = true) (plan : List (Nat × Nat)) (listed : Array Bool) (hB : (planB md ops N plan listed && closedB md ops listed) = true) : Snd md ops Q st N listed plan.length (wpPlan P ops Q st N plan) := by
  intro a w w0 hE h
  simp only [Bool.and_eq_true] at hB
  have hc := closedB_spec hB.2
  have := plan_sound L hsel plan listed a w w0 0 hB.1 hc hc.1 hE h
  simpa using this
theorem snd_fork (L : StepLaws P ops Q st) (i j n : Nat) (listed : Array Bool) (hr : (Region.ready md ops listed == [i, j]) = true) {Ci Cj : Act → World → Prop}
    (hi : Snd md ops Q st N (listed.setIfInBounds i true) n Ci) (hj : Snd md ops Q st N (listed.setIfInBounds j true) n Cj) : Snd md ops Q st N listed (n + 1) (forkC st i Ci j Cj) := by
  intro a w w0 hE h
  have hr : Region.ready md ops listed = [i, j] := by simpa using hr
  refine ⟨fun h0 => (by rw [hr] at h0; cases h0), fun k hk => ?_⟩
  rw [hr] at hk
  simp only [List.mem_cons, List.not_mem_nil, or_false] at hk
  rcases hk with rfl | rfl
  · exact L.mono (fun a' w' h' => have hE' := hE.trans h'.1; ⟨.inr hE', hi a' w' w0 hE' h'.2⟩) h.1
  · exact L.mono (fun a' w' h' => have hE' := hE.trans h'.1; ⟨.inr hE', hj a' w' w0 hE' h'.2⟩) h.2
/-- Quiet steps ahead. -/
def preB (md : Region.Mode) (ops : Array Oper) (N : Nat) : List (Nat × Nat) → Array Bool → Bool
  | [], _ => true
  | (i, k) :: rest, listed =>
    (if k = 0 then (Region.ready md ops listed).contains i && Region.free md ops listed i && decide (i < N)
     else if k = 1 then (Region.ready md ops listed).contains i && Region.free md ops listed i && decide (i < N) && ((List.range ops.size).all fun j => decide (j < N) || anc md ops ops.size j i)
     else (Region.ready md ops listed == [i]) && decide (i < N)) && preB md ops N rest (listed.setIfInBounds i true)
def listAll : List (Nat × Nat) → Array Bool → Array Bool
  | [], l => l
  | (i, _) :: rest, l => listAll rest (l.setIfInBounds i true)
theorem snd_pre (L : StepLaws P ops Q st) (hsel : Region.noSelect ops = true) (n : Nat) {C : Act → World → Prop} : ∀ (pre : List (Nat × Nat)) (listed : Array Bool),
    preB md ops N pre listed = true → Closed md ops listed → Snd md ops Q st N (listAll pre listed) n C → Snd md ops Q st N listed (pre.length + n) (wpPlan P ops C st N pre)
  | [], listed, _, _, hS => by
    intro a w w0 hE h
    rw [List.length_nil, Nat.zero_add]
    exact hS a w w0 hE h
  | (i, k) :: rest, listed, hB, hcl, hS => by
    intro a w w0 hE h
    have hlen : ((i, k) :: rest).length + n = (rest.length + n) + 1 := by simp; omega
    rw [hlen]
    by_cases hk0 : k = 0
    · simp only [preB, hk0, if_true, Bool.and_eq_true, decide_eq_true_eq] at hB
      obtain ⟨⟨⟨hr, hf⟩, hiN⟩, hrest⟩ := hB
      have hr' : i ∈ Region.ready md ops listed := by simpa using hr
      simp only [wpPlan, hk0, if_true] at h
      split at h
      · exact h.elim
      · rename_i o ho
        obtain ⟨v, hy, hK⟩ := h
        have hrec := snd_pre L hsel n rest (listed.setIfInBounds i true) hrest (hcl.set hr') hS (a.put o.dst v) w w0 hE hK
        exact wpAnyS_first L (S := Ext w0) (S1 := fun _ => True) ho (Region.noSelect_spec hsel) hiN (fun _ _ _ _ _ => trivial) (rest.length + n) listed a w hcl (Region.free_spec ho hf) hr' hy (.inr hE) hrec
    by_cases hk1 : k = 1
    · subst hk1
      simp only [preB, if_true, Bool.and_eq_true, decide_eq_true_eq, Nat.one_ne_zero, if_false] at hB
      obtain ⟨⟨⟨⟨hr, hf⟩, hiN⟩, hanc⟩, hrest⟩ := hB
      have hr' : i ∈ Region.ready md ops listed := by simpa using hr
      simp only [wpPlan, if_true, Nat.one_ne_zero, if_false] at h
      split at h
      · exact h.elim
      · rename_i o ho
        obtain ⟨v, hy, hK⟩ := h
        have hrec := snd_pre L hsel n rest (listed.setIfInBounds i true) hrest (hcl.set hr') hS (a.put o.dst v) w w (Ext.refl w) hK
        have h1 := wpAnyS_first L (S := Ext w) (S1 := Ext w) ho (Region.noSelect_spec hsel) hiN (fun l w' hc hu ht => by
          rcases ht with ⟨t, ht, hl⟩ | h
          · exfalso
            have hts : t < ops.size ∨ ¬ t < ops.size := Decidable.em _
            rcases hts with hts | hts
            · have := List.all_eq_true.1 hanc t (List.mem_range.2 hts)
              simp only [Bool.or_eq_true, decide_eq_true_eq] at this
              have := anc_listed hc _ _ _ hl (this.resolve_left (by omega))
              rw [unlisted_false hu] at this
              cases this
            · rw [show l.getD t false = false by simp [Array.getElem?_eq_none (show l.size ≤ t by rw [hc.1]; omega)]] at hl
              cases hl
          · exact h) (rest.length + n) listed a w hcl (Region.free_spec ho hf) hr' hy (.inr (Ext.refl w)) hrec
        exact wpAnyS_weak L (fun w' hw' => hE.trans hw') _ _ _ _ h1
    · simp only [preB, hk0, hk1, if_false, Bool.and_eq_true, decide_eq_true_eq] at hB
      obtain ⟨⟨hr, hiN⟩, hrest⟩ := hB
      have hr : Region.ready md ops listed = [i] := by simpa using hr
      have hr' : i ∈ Region.ready md ops listed := by rw [hr]; simp
      refine ⟨fun h0 => (by rw [h0] at hr; cases hr), fun j hj => ?_⟩
      rw [hr] at hj
      obtain rfl : j = i := by simpa using hj
      simp only [wpPlan, hk0, hk1, if_false] at h
      refine L.mono (fun a' w' h' => ?_) h
      have hE' := hE.trans (h'.1.resolve_left (by omega))
      exact ⟨.inr hE', snd_pre L hsel n rest _ hrest (hcl.set hr') hS a' w' w0 hE' h'.2⟩
theorem snd_pre' (L : StepLaws P ops Q st) (hsel : Region.noSelect ops = true) (n : Nat) {C : Act → World → Prop} (pre : List (Nat × Nat)) (listed : Array Bool) (hB : (preB md ops N pre listed && closedB md ops listed) = true)
    (h : Snd md ops Q st N (listAll pre listed) n C) : Snd md ops Q st N listed (pre.length + n) (wpPlan P ops C st N pre) := by
  simp only [Bool.and_eq_true] at hB
  exact snd_pre L hsel n pre listed hB.1 (closedB_spec hB.2) h
end
section
variable {P : Program} {ops : Array Oper} {N : Nat}
/-- **A region that draws, along a tree.** -/
theorem wp_region_tree {id : Nat} {Q : Exit → Act → World → Prop} {a : Act} {w : World} {l : List Oper} (C : Act → World → Prop) (N n : Nat) (hm : P.follows .mixedOrders = true) (hn : (n == l.length) = true) (hQ : ∀ c a d v w, Q (.panic c) (Act.put a d v) w → Q (.panic c) a w)
    (hS : Snd .any l.toArray (Q .normal) (fun i K a w => wpOp P l.toArray Q i K a w) N (Array.replicate l.length false) n C) (h : C a w.drew) : (Code.region id l.toArray true).wp P Q a w := by
  refine wp_region_any hm ?_
  have hn : n = l.length := by simpa using hn
  subst hn
  have := hS a w.drew w.drew (Ext.refl _) h
  have := wpAny_of_S _ _ _ _ this
  simpa using this
theorem forkC_mk {Q : Exit → Act → World → Prop} {i j : Nat} {Ci Cj : Act → World → Prop} {oi oj : Oper} {a : Act} {w : World} (hoi : ops[i]? = some oi) (hoj : ops[j]? = some oj) (hgi : oi.guard = none) (hgj : oj.guard = none)
    (h1 : ∀ K : Act → World → Prop, (∀ a' w', (Ext w w' ∧ Ci a' w') → K a' w') → oi.wp P a w K Q)
    (h2 : ∀ K : Act → World → Prop, (∀ a' w', (Ext w w' ∧ Cj a' w') → K a' w') → oj.wp P a w K Q) :
    forkC (fun i K a w => wpOp P ops Q i K a w) i Ci j Cj a w := by
  constructor
  · simp only [wpOp, hoi, Region.wanted, hgi, if_true]
    exact .inl (h1 _ (fun _ _ h => h))
  · simp only [wpOp, hoj, Region.wanted, hgj, if_true]
    exact .inl (h2 _ (fun _ _ h => h))
end
end Go.Proofs.YtcjioogololnoaaGreatDoor
