/- hash.tail, for SHA-256. -/
import Derived.Test.YtmfligfcejhjaaaDoorS1
import Derived.Test.YtmfligfcejhjaaaDoorA1
import Derived.Test.YtmfligfcejhjaaaDoorR
import Derived.Shelf.RegionOpen
import Derived.Lib.Hide
namespace Go.Proofs.YtmfligfcejhjaaaDoor
open Go.RowKit Go.Shelf

/-- Eight bytes of a number, the greatest first, of which the lowest i are written. -/
def low8 (m : Nat) (i : Nat) : List UInt8 := ((List.range i).map fun j => UInt8.ofNat (m / 256 ^ j)).reverse
def tailL (n : Nat) (i : Nat) : List UInt8 := 128 :: (List.replicate (63 - (n % 64 + 8) % 64 + (8 - i)) 0 ++ low8 (n * 8) i)
theorem low8_length (m i : Nat) : (low8 m i).length = i := by simp [low8]
theorem tailL_length (n i : Nat) (h : i ≤ 8) : (tailL n i).length = 63 - (n % 64 + 8) % 64 + 9 := by simp [tailL, low8_length]; omega
theorem low8_succ (m i : Nat) : low8 m (i + 1) = UInt8.ofNat (m / 256 ^ i) :: low8 m i := by simp [low8, List.range_succ]
theorem tailL_set (n i : Nat) (h : i < 8) : (tailL n i).set (63 - (n % 64 + 8) % 64 + 9 - 1 - i) (UInt8.ofNat (n * 8 / 256 ^ i)) = tailL n (i + 1) := by
  obtain ⟨f, hf⟩ : ∃ f, f = 63 - (n % 64 + 8) % 64 := ⟨_, rfl⟩
  rw [tailL, tailL, low8_succ, ← hf]
  rw [show f + 9 - 1 - i = (f + (7 - i)) + 1 by omega, List.set_cons_succ, show f + (8 - i) = f + (7 - i) + 1 by omega, List.replicate_succ', List.append_assoc]
  rw [List.set_append_right _ _ (by simp)]
  simp only [List.length_replicate, Nat.sub_self, List.singleton_append, List.set_cons_zero]
  rw [show 8 - (i + 1) = 7 - i by omega]

theorem tail_byte (n k : Nat) : ((n : Int) * 8 / 2 ^ (8 * k) % 256) = ((UInt8.ofNat (n * 8 / 256 ^ k)).toNat : Int) := by
  rw [UInt8.toNat_ofNat', show (256 : Nat) = 2 ^ 8 from rfl, ← Nat.pow_mul]
  rw [Int.natCast_emod, Int.natCast_ediv, Int.natCast_mul, Int.natCast_pow]
  rfl
set_option maxRecDepth 100000 in
set_option maxHeartbeats 2000000 in
theorem tail_any (n : Nat) (hn : n ≤ 8192) (w : World) :
    Calls Tryd.prog 62 #[.int .u64 n, .int .i64 64, .int .i64 8] w fun e w' => ∃ v, e = .returned v ∧ Ow w' w.heap.size 5 v (B8 (tailL n 8)) ∧ Below w.heap.size w w' := by
  obtain ⟨i0, hi, hz0, hz1, hz2⟩ := info_parts u8_info
  obtain ⟨f, hf⟩ : ∃ f, f = 63 - (n % 64 + 8) % 64 := ⟨_, rfl⟩
  have hf63 : f ≤ 63 := by omega
  have hmk := run_makeN (P := Tryd.prog) 22 5 i0 _ 1 Tryd.underlying22 hi hz0 hz1 hz2 rfl .i64 .i64 (1 + (f : Int) + 8) (1 + (f : Int) + 8) (f + 9) (f + 9) (by omega) (by omega) (Nat.le_refl _) (by omega) (by unfold maxLen; omega)
  have he : (63 : Int) - ((n : Int) + 8) % 64 = (f : Int) := by omega
  have Hf := Lib.hid hf
  clear hf
  go_enter Tryd.func62, Tryd.ntmps62
  go_wp2_with fail
  go_loopw [29] (fun i wr => ∃ k : Nat, k ≤ 8 ∧ i = .int .i64 k ∧ Ow wr w.heap.size 5 (.slice (some ⟨w.heap.size, 0, none⟩) (f + 9) (f + 9)) (B8 (tailL n k)) ∧ Below w.heap.size w wr) (fun i _ => 8 - (intOf i).toNat)
  case atStart =>
    have hof := Ow.of_row (w := w) ((Array.replicate (f + 9) (Value.int IntKind.u8 0)).setIfInBounds 0 (Value.int IntKind.u8 128)) 5 w.heap.size (Nat.le_refl _) (cap := f + 9) (by simp) (by unfold maxLen; omega) (f + 9) (Nat.le_refl _)
    refine ⟨0, Nat.zero_le _, rfl, ?_, (Below.refl _ w).alloc (Nat.le_refl _) _⟩
    have e : ((Array.replicate (f + 9) (Value.int IntKind.u8 0)).setIfInBounds 0 (Value.int IntKind.u8 128)).toList.take (f + 9) = B8 (tailL n 0) := by
      rw [List.take_of_length_le (by simp), tailL, ← Hf.out]
      simp [B8, low8, List.replicate_succ, Array.toList_setIfInBounds]
    rw [e] at hof
    exact hof
  case round =>
    obtain ⟨k, hk, rfl, ho, hB⟩ := hrel
    by_cases hlt : k < 8
    · obtain ⟨m, hm⟩ : ∃ m, m = f + 9 - 1 - k := ⟨_, rfl⟩
      have em : (f : Int) + 9 - 1 - (k : Int) = (m : Int) := by omega
      have em1 : (f : Int) + 8 - (k : Int) = (m : Int) := by omega
      have hmlt : m < f + 9 := by omega
      have hlen := tailL_length n k hk
      rw [← Hf.out] at hlen
      obtain ⟨g, hge, hg, hrow, hcell, hfz⟩ := ho.at_ (j := m) (by simp [hlen]; exact hmlt)
      injection hge with hge
      injection hge with hge
      subst hge
      obtain ⟨cv, hcv⟩ : ∃ cv, wr.cell? ⟨w.heap.size, m, none⟩ = some cv := ⟨_, hcell⟩
      clear hcell
      have Hm := Lib.hid hm
      have Hlen := Lib.hid hlen
      have Hrow := Lib.hid hrow
      clear hm hlen hrow
      go_wp2_with fail
      have hst := ho.store m (by omega) (Value.int IntKind.u8 ((n : Int) * 8 / 2 ^ (8 * k) % 256))
      rw [show (B8 (tailL n k)).set m (Value.int IntKind.u8 ((n : Int) * 8 / 2 ^ (8 * k) % 256)) = B8 (tailL n (k + 1)) from by
        rw [← tailL_set n k hlt, ← Hf.out, ← Hm.out, tail_byte]
        simp [B8, List.map_set]] at hst
      refine ⟨⟨k + 1, by omega, rfl, hst, hB.setCell (Nat.le_refl _) _⟩, by simp [intOf]; omega⟩
    · go_wp2_with fail
      obtain rfl : k = 8 := by omega
      go_ret
      exact ⟨_, rfl, ho, hB⟩
end Go.Proofs.YtmfligfcejhjaaaDoor
