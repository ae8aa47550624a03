/- hash.mix and bits.RotateLeft32: that they end with a word. -/
import Derived.Test.YtkiigonikeeikaaGreatDoorU7
import Derived.Test.YtkiigonikeeikaaGreatDoorU8

/-! hash.mix and bits.RotateLeft32: that they end with a word. -/
namespace Go.Proofs.YtkiigonikeeikaaGreatDoor
open Go.RowKit

theorem word_of (i : Int) (h0 : 0 ≤ i) (h1 : i < 4294967296) : ∃ x : BitVec 32, i = (x.toNat : Int) := ⟨BitVec.ofNat 32 i.toNat, by rw [BitVec.toNat_ofNat, Nat.mod_eq_of_lt (by omega)]; omega⟩

theorem sp_andNot (x y : BitVec 32) : bits .andNot .u32 (x.toNat : Int) (y.toNat : Int) = ((x &&& ~~~y).toNat : Int) := by
  rw [u32_andNot_nat _ _ x.isLt y.isLt, BitVec.toNat_and, BitVec.toNat_not]

set_option maxHeartbeats 1000000 in
theorem rotl32_any (x : BitVec 32) (m : Nat) (h2 : 0 < m) (h3 : m < 32) (w : World) :
    Calls Tryz.prog 85 #[.int .u32 (x.toNat : Int), .int .i64 m] w fun e w' => e = .returned (.int .u32 ((x.rotateLeft m).toNat : Int)) ∧ w' = w := by
  have hb : bits .and .u64 (m : Int) 31 = (m : Int) := by
    have : ∀ n : Fin 32, bits .and .u64 (n.val : Int) 31 = (n.val : Int) := by decide
    exact this ⟨m, h3⟩
  go_enter Tryz.func85, Tryz.ntmps85
  go_wp2
  go_ret
  exact ⟨by rw [← rotl_spell x m h2 h3]; rfl, rfl⟩

set_option maxHeartbeats 2000000 in
theorem mix_any (n : Nat) (hn : n ≤ 4) (b c d : BitVec 32) (w : World) :
    Calls Tryz.prog 86 #[.int .i64 n, .int .u32 (b.toNat : Int), .int .u32 (c.toNat : Int), .int .u32 (d.toNat : Int)] w fun e w' => (∃ x : BitVec 32, e = .returned (.int .u32 (x.toNat : Int))) ∧ w' = w := by
  have h : n = 0 ∨ n = 1 ∨ n = 2 ∨ n = 3 ∨ n = 4 := by omega
  rcases h with rfl | rfl | rfl | rfl | rfl
  all_goals
    go_enter Tryz.func86, Tryz.ntmps86
    go_wp2
    go_ret
    refine ⟨?_, rfl⟩
    (try simp only [sp_not, sp_and, sp_or, sp_xor, sp_andNot])
    exact ⟨_, rfl⟩
end Go.Proofs.YtkiigonikeeikaaGreatDoor
