/- SHA-256: the tables. -/
import Derived.Test.YtmfligfcejhjaaaDoorS1
import Derived.Lib.Hide
import Derived.Test.YtmfligfcejhjaaaDoorR
import Derived.Shelf.RegionOpen
namespace Go.Proofs.YtmfligfcejhjaaaDoor
open Go.RowKit Go.Shelf

def K256 : List (BitVec 32) := [0x428a2f98, 0x71374491, 0xb5c0fbcf, 0xe9b5dba5, 0x3956c25b, 0x59f111f1, 0x923f82a4, 0xab1c5ed5, 0xd807aa98, 0x12835b01, 0x243185be, 0x550c7dc3, 0x72be5d74, 0x80deb1fe, 0x9bdc06a7, 0xc19bf174, 0xe49b69c1, 0xefbe4786, 0x0fc19dc6, 0x240ca1cc, 0x2de92c6f, 0x4a7484aa, 0x5cb0a9dc, 0x76f988da, 0x983e5152, 0xa831c66d, 0xb00327c8, 0xbf597fc7, 0xc6e00bf3, 0xd5a79147, 0x06ca6351, 0x14292967, 0x27b70a85, 0x2e1b2138, 0x4d2c6dfc, 0x53380d13, 0x650a7354, 0x766a0abb, 0x81c2c92e, 0x92722c85, 0xa2bfe8a1, 0xa81a664b, 0xc24b8b70, 0xc76c51a3, 0xd192e819, 0xd6990624, 0xf40e3585, 0x106aa070, 0x19a4c116, 0x1e376c08, 0x2748774c, 0x34b0bcb5, 0x391c0cb3, 0x4ed8aa4a, 0x5b9cca4f, 0x682e6ff3, 0x748f82ee, 0x78a5636f, 0x84c87814, 0x8cc70208, 0x90befffa, 0xa4506ceb, 0xbef9a3f7, 0xc67178f2]
def H256 : List (BitVec 32) := [0x6a09e667, 0xbb67ae85, 0x3c6ef372, 0xa54ff53a, 0x510e527f, 0x9b05688c, 0x1f83d9ab, 0x5be0cd19]
theorem K256_length : K256.length = 64 := by decide
theorem H256_length : H256.length = 8 := by decide

set_option maxRecDepth 100000 in
set_option maxHeartbeats 2000000 in
theorem begin_any (w : World) : Calls Tryd.prog 48 #[] w fun e w' => e = .returned (.agg (W32 H256).toArray) ∧ Below w.heap.size w w' := by
  go_enter Tryd.func48, Tryd.ntmps48
  go_wp2_with fail
  refine bodyPost_ret (v := .agg (W32 H256).toArray) ?_ rfl ⟨rfl, (Below.refl _ w).alloc (Nat.le_refl _) _⟩
  exact results_cell_row rfl _ _ w.heap.size 70 (W32 H256).toArray (0, 0) (.array 8 68) rfl (heap_alloc_new w _) (by kernel_rfl) rfl (by kernel_rfl)
set_option maxRecDepth 100000 in
set_option maxHeartbeats 2000000 in
theorem k256_any (w : World) : Calls Tryd.prog 49 #[] w fun e w' => e = .returned (.agg (W32 K256).toArray) ∧ Below w.heap.size w w' := by
  obtain ⟨kc, hkc⟩ : ∃ kc, kc = (W32 K256).toArray := ⟨_, rfl⟩
  have hsz : kc.size = 64 := by rw [hkc]; simp [K256_length]
  have h1 : kc.all (·.oneCell') = true := by rw [hkc]; simp [W32]; intro x _; rfl
  have hinf : (Tryd.prog.info? 83).map (·.size) = some kc.size := by rw [hsz]; kernel_rfl
  have Hkc := Lib.hid hkc
  have Hsz := Lib.hid hsz
  have H1 := Lib.hid h1
  have Hinf := Lib.hid hinf
  clear hkc hsz h1 hinf
  go_enter Tryd.func49, Tryd.ntmps49
  go_wp2_with (first | (refine wpList_build rfl 83 _ rfl (by kernel_rfl) ?_; rw [show (Tryd.prog.built 83 _).getD #[] = kc from by rw [Hkc.out]; kernel_rfl]; refine wpList_store_row rfl 83 (.tmp 0) (.tmp 1) rfl w.heap.size kc rfl rfl 83 _ (heap_alloc_new w _) Hinf.out Hsz.out.symm H1.out ?_) | fail)
  refine bodyPost_ret (v := .agg kc) ?_ rfl ⟨by rw [Hkc.out], below_setRow' ((Below.refl _ w).alloc (Nat.le_refl _) _) (Nat.le_refl _) _⟩
  exact results_cell_row rfl _ _ w.heap.size 83 kc (0, 0) (.array 64 68) rfl (setRow_heap _ _ _ _ _ _ (heap_alloc_new w _)) (by kernel_rfl) rfl Hinf.out
end Go.Proofs.YtmfligfcejhjaaaDoor
