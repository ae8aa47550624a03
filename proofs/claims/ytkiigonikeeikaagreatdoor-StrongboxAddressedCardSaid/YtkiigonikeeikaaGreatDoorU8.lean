/- Rotations. -/
import Derived.Test.YtkiigonikeeikaaGreatDoorRows
import Derived.WalkKit
import Derived.WalkSpells
import Derived.WalkLawsBesides
import Derived.Lib.Hide
import Derived.Test.YtkiigonikeeikaaGreatDoorU7

/-! Rotations. -/
namespace Go.Proofs.YtkiigonikeeikaaGreatDoor
open Go.RowKit

set_option maxHeartbeats 400000 in
theorem rotateLeft32_any (x : BitVec 32) (n : Nat) (h0 : 0 < n) (h1 : n < 32) (w : World) :
    Calls Tryz.prog 85 #[.int .u32 (x.toNat : Int), .int .i64 (-(n : Int))] w fun e w' => e = .returned (.int .u32 ((x.rotateRight n).toNat : Int)) ∧ w = w' := by
  obtain ⟨m, hm⟩ : ∃ m, m = 32 - n := ⟨_, rfl⟩
  have hb : bits .and .u64 (IntKind.u64.wrap (-(n : Int))) 31 = (m : Int) := by rw [hm]; exact wrapu64_neg n h0 h1
  have h2 : 0 < m := by omega
  have h3 : m < 32 := by omega
  rw [← rotr_rotl x n h0 h1, ← hm]
  clear hm h0 h1
  go_enter Tryz.func85, Tryz.ntmps85
  go_wp2
  go_ret
  exact ⟨by rw [← rotl_spell x m h2 h3]; rfl, rfl⟩
set_option maxHeartbeats 400000 in
theorem right_any (x : BitVec 32) (n : Nat) (h0 : 0 < n) (h1 : n < 32) (w : World) :
    Calls Tryz.prog 73 #[.int .u32 (x.toNat : Int), .int .i64 n] w fun e w' => e = .returned (.int .u32 ((x.rotateRight n).toNat : Int)) ∧ w = w' := by
  go_enter Tryz.func73, Tryz.ntmps73
  go_wp2_with (go_at_call 85; refine (rotateLeft32_any x n h0 h1 _).mono ?_; rintro e w' ⟨rfl, rfl⟩)
  go_ret
  exact ⟨rfl, rfl⟩
end Go.Proofs.YtkiigonikeeikaaGreatDoor
